/- Walks through the functions that the law reaches (printed by a program). No condition. -/
import Derived.Test.YtmafjpdiplfcmaaGreatW2
namespace Go.Proofs.YtmafjpdiplfcmaaGreat
namespace Fw
set_option linter.unusedVariables false
set_option linter.unusedSimpArgs false
set_option linter.unusedSectionVars false
set_option maxRecDepth 100000
set_option maxHeartbeats 400000
open Go.RowKit
open Go.Proofs.Tryz
variable {Γ:Gh} {w0:World}
theorem qe{Aa:Option Addr}{ca:Nat}{a:List Rec}(ha:Sl recT Γ Aa a)(hac:a.length≤ca){Ab:Option Addr}{cb:Nat}{b:List Rec}(hb:Sl recT Γ Ab b)(hbc:b.length≤cb)(hs:Sat Γ w0){r:Bool}(h:gH a b=some r):CQ Tryz.prog 28 #[.slice Aa a.length ca,.slice Ab b.length cb] w0 (.bool r):=by
 refine goQ [4] func28 ntmps28 results28 hs λF hF=>?_
 refine I4 (aV (k:=I3 (I5 (I4 (mV (k:=sV (ag rfl JN) (k:=mV (k:=?_))))))))
 refine sV (ag rfl JN) (k:=sV bD (k:=I3 ?_))
 refine ciV h (λhb1 h=>?_) (λhb1 h=>?_)
 ·
  refine I4 (aV (k:=I3 ?_))
  exact I8 λw hw=>rq_ r h hF hw
 refine I7 (wc_ (I5 (I4 (aV (k:=I3 (Ia ?_))))))
 refine Ie h (λ(i3:Nat) (s:Unit) σ w=>match s with | ()=>slots σ [(0,.slice Aa a.length ca),(1,.slice Ab b.length cb),(5,ii (i3:Int))]∧CC F Γ [] w∧True) ?_ ?_
 ·
  intro w hw
  exact⟨slK,hw,trivial⟩
 rintro f2 i3 ⟨⟩ σ w hi4 hlt5 hge6 ⟨hsl,hw,-⟩
 refine slV hsl hw [] ?_; clear hw hsl
 refine I5 (I4 (mV (k:=mV (k:=sV (ag rfl JN) (k:=sV aG (k:=I3 ?_))))))
 refine coV (λhb7=>?_) (λhb7=>?_)
 ·
  have hl8:=ilt hb7
  have h:=hlt5 hl8
  refine I7 (wc_ (I5 (Ia (I5 ?_))))
  refine drV ?_
  refine zV moV (k:=zV moV (k:=zV (aN (i:=i3) JN Jz rfl rfl rfl hl8 (ha.some_ hl8)) (k:=zV (ay (i3*2) cV rfl rfl (ha.some_ hl8) rfl) (k:=?_))))
  obtain⟨A9,c10,hx11⟩:=ha.recT_at i3
  refine zV (q_ld (c:=0) (v:=.string (gt a i3).key) (hx11 hl8).2 rfl IY rfl rfl) (k:=zV moV (k:=zV moV (k:=?_)))
  obtain⟨hk12,h⟩:=am h
  refine zV (aN (i:=i3) JN Jz rfl rfl rfl (Ip hk12) (hb.some_ (Ip hk12))) (k:=zV (ay (i3*2) cV rfl rfl (hb.some_ (Ip hk12)) rfl) (k:=?_))
  obtain⟨A13,c14,hx15⟩:=hb.recT_at i3
  refine zV (q_ld (c:=0) (v:=.string (gt b i3).key) (hx15 (Ip hk12)).2 rfl IY rfl rfl) (k:=zV qS (k:=zV moV (k:=wG0 (h:=λhg16=>moV) (k:=wG0 (h:=λhg17=>moV) (k:=wG0 (h:=λhg18=>aN (i:=i3) JN Jz rfl (grV hg18) (grV hg18) hl8 (ha.some_ hl8)) (k:=wG0 (h:=λhg19=>ay (i3*2+1) ci rfl (grV hg19) (ha.some_ hl8) rfl) (k:=wG0 (h:=λhg20=>q_ld (c:=1) (v:=.slice A9 ((gt a i3).vers).length c10) (hx11 hl8).2 rfl JH (grV hg20) rfl) (k:=?_))))))))
  refine wG0 (h:=λhg21=>moV) (k:=wG0 (h:=λhg22=>moV) (k:=wG0 (h:=λhg23=>aN (i:=i3) JN Jz rfl (grV hg23) (grV hg23) (Ip hk12) (hb.some_ (Ip hk12))) (k:=wG0 (h:=λhg24=>ay (i3*2+1) ci rfl (grV hg24) (hb.some_ (Ip hk12)) rfl) (k:=wG0 (h:=λhg25=>q_ld (c:=1) (v:=.slice A13 ((gt b i3).vers).length c14) (hx15 (Ip hk12)).2 rfl JH (grV hg25) rfl) (k:=?_)))))
  obtain⟨z27,hz28,h⟩:=bnd h
  refine wC0 (h:=λhg26=>bK (bb call13 rfl rfl (jX (grV hg26) (grV hg26))) (λw hw=>nW (Γ:=Gh.all w) ((hx11 hl8).1.2.2.mono hw.sat.le_all) (hx11 hl8).1.2.1 ((hx15 (Ip hk12)).1.2.2.mono hw.sat.le_all) (hx15 (Ip hk12)).1.2.1 (Sat.all w) (jv hz28 hg26))) (k:=wG0 (h:=λhg29=>cY rfl (grV hg29)) (k:=zV pkO (k:=?_)))
  refine Ij ?_
  change WC _ _ _ _ _ _
  refine ciV h (λhb30 h=>?_) (λhb30 h=>?_)
  ·
   refine I4 (aV (k:=I3 ?_))
   exact I8 λw hw=>rq_ r h hF hw
  refine I7 (wc_ ?_)
  refine I9 ?_
  refine mV (k:=sV (aF rfl rfl rfl (aJ hl8 ha.le)) (k:=aV (k:=?_)))
  exact I6 λw hw=>⟨hl8,(),h,slK,hw,trivial⟩
 have h:=hge6 (ige hb7)
 refine Ic ?_
 change WC _ _ _ _ _ _
 refine I4 (aV (k:=I3 ?_))
 exact I8 λw hw=>rq_ r h hF hw
abbrev uG(r:a7)(U:List Rowb)(Γ:Gh)(v:Value):Prop := ∃(g0:Nat), ∃(row0:Rowb),v = .pointer (some ⟨g0,0,none⟩)∧U = [row0]∧a7.ob 96 Γ g0 row0 r∧True
theorem uL(room:Int)(hroom:I64 room)(hp:Pre [] Γ w0){r:a7}(h:kC room=some r):Calls Tryz.prog 14 #[ii room] w0 (Outc Γ [] w0 (uG r)):=by
 refine goV [2] func14 ntmps14 results14 hp λF hF=>?_
 refine I4 (aV (k:=I3 ?_))
 refine Id (λσ w => ∃(room_1:Int),iK room_1=some r∧slots σ [(0,ii room_1)]∧CC F Γ [] w∧I64 room_1∧True) ?_ ?_
 ·
  refine I4 (mV (k:=sV aG (k:=I3 ?_)))
  refine ciV h (λhb3 h=>?_) (λhb3 h=>?_)
  ·
   refine I9 ?_
   refine aV (k:=?_)
   exact I6 λw hw=>⟨0,h,slK,hw,iV,trivial⟩
  exact I7 λw hw=>⟨room,h,slK,hw,hroom,trivial⟩
 rintro σ w ⟨room_1,h,hsl,hw,hr2,-⟩
 refine slV hsl hw [] ?_; clear hw hsl
 refine Id (λσ w => ∃(room_4:Int),iN room_4=some r∧slots σ [(0,ii room_4)]∧CC F Γ [] w∧I64 room_4∧True) ?_ ?_
 ·
  refine I4 (mV (k:=sV bi (k:=I3 ?_)))
  refine ciV h (λhb6 h=>?_) (λhb6 h=>?_)
  ·
   refine I9 ?_
   refine aV (k:=?_)
   exact I6 λw hw=>⟨1073741824,h,slK,hw,iV,trivial⟩
  exact I7 λw hw=>⟨room_1,h,slK,hw,hr2,trivial⟩
 rintro σ w ⟨room_4,h,hsl,hw,hr5,-⟩
 refine slV hsl hw [] ?_; clear hw hsl
 refine I4 (mV (k:=sV (aZ (v:=.agg #[ii room_4,.slice none 0 0,.slice none 0 0]) rfl (l7 rfl) (λw=>by kernel_rfl)) (k:=?_)))
 refine bxV (v:=.agg #[ii room_4,.slice none 0 0,.slice none 0 0]) λg7=>?_
 refine aV (k:=I3 ?_)
 refine I8 ?_
 intro w hw
 have hw:=hw.pad
 obtain⟨row_8,hrow_8,hob_8⟩:∃rw:Rowb,rw=([[(g7,.cells #[ii room_4,.slice none 0 0,.slice none 0 0] 96 (0,0))],[]]:List Rowb).flatten∧a7.ob 96 Γ g7 rw (⟨room_4,[],[]⟩:a7):=⟨_,rfl,none,0,none,0,[],rfl,hr5,(IH 0),(Sl.nil _ _ none),(Own.nil cv Γ 119),trivial⟩
 have hw:=hw.fold (is:=[1,0]) rfl hrow_8
 cases h
 subst hF
 exact aL (is:=[0]) (by kernel_rfl) hw rfl ⟨g7,row_8,rfl,rfl,hob_8,trivial⟩
theorem ul(s_:ByteArray)(hs_:s_.size≤lim)(hs:Sat Γ w0){r:Bool}(h:ij s_=some r):CQ Tryz.prog 84 #[.string s_] w0 (.bool r):=by
 refine goQ [2] func84 ntmps84 results84 hs λF hF=>?_
 refine I4 (aV (k:=I3 (I5 (I4 (mV (k:=sV (bg rfl IX) (k:=sV bD (k:=?_))))))))
 refine mV (k:=vG1 (h:=λhg1=>moV) (k:=vG1 (h:=λhg2=>bg rfl IX (grV hg2)) (k:=vG1 (h:=λhg3=>bD rfl (grV hg3)) (k:=sV pkA (k:=I3 ?_)))))
 refine ciV h (λhb4 h=>?_) (λhb4 h=>?_)
 ·
  refine I4 (aV (k:=I3 ?_))
  exact I8 λw hw=>rq_ r h hF hw
 refine I7 (wc_ (I5 (I4 (aV (k:=I3 (Ia ?_))))))
 refine Io h (λ(i6:Nat) (s:Unit) σ w=>match s with | ()=>slots σ [(0,.string s_),(3,ii (i6:Int))]∧CC F Γ [] w∧True) ?_ ?_
 ·
  intro w hw
  exact⟨slK,hw,trivial⟩
 rintro f5 i6 ⟨⟩ σ w hi7 hlt8 hge9 ⟨hsl,hw,-⟩
 refine slV hsl hw [] ?_; clear hw hsl
 refine I5 (I4 (mV (k:=mV (k:=sV (bg rfl IX) (k:=sV aG (k:=I3 ?_))))))
 refine coV (λhb10=>?_) (λhb10=>?_)
 ·
  have hl11:=ilt hb10
  have h:=hlt8 hl11
  refine I7 (wc_ (I5 (Ia (I4 (mV (k:=mV (k:=sV (pQ (i:=i6) IX rfl rfl rfl hl11) (k:=?_))))))))
  refine sV bp (k:=I3 ?_)
  refine ciV h (λhb12 h=>?_) (λhb12 h=>?_)
  ·
   refine I4 (aV (k:=I3 ?_))
   exact I8 λw hw=>rq_ r h hF hw
  refine I7 (wc_ ?_)
  refine I9 ?_
  refine mV (k:=sV (aF rfl rfl rfl (aJ hl11 hs_)) (k:=aV (k:=?_)))
  exact I6 λw hw=>⟨hl11,(),h,slK,hw,trivial⟩
 have h:=hge9 (ige hb10)
 refine Ic ?_
 change WC _ _ _ _ _ _
 refine I4 (aV (k:=I3 ?_))
 exact I8 λw hw=>rq_ r h hF hw
theorem lP{Al:Option Addr}{cl:Nat}{l:List ab}(hl:Sl aA Γ Al l)(hlc:l.length≤cl)(name:ByteArray)(hname:name.size≤lim)(hs:Sat Γ w0){r:Int}(h:fD l name=some r):CQ Tryz.prog 106 #[.slice Al l.length cl,.string name] w0 (ii r):=by
 refine goQ [4] func106 ntmps106 results106 hs λF hF=>?_
 refine I4 (aV (k:=I3 (I5 (I4 (aV (k:=I3 (Ia ?_)))))))
 refine Ie h (λ(i2:Nat) (s:Unit) σ w=>match s with | ()=>slots σ [(0,.slice Al l.length cl),(1,.string name),(5,ii (i2:Int))]∧CC F Γ [] w∧True) ?_ ?_
 ·
  intro w hw
  exact⟨slK,hw,trivial⟩
 rintro f1 i2 ⟨⟩ σ w hi3 hlt4 hge5 ⟨hsl,hw,-⟩
 refine slV hsl hw [] ?_; clear hw hsl
 refine I5 (I4 (mV (k:=mV (k:=sV (ag rfl JP) (k:=sV aG (k:=I3 ?_))))))
 refine coV (λhb6=>?_) (λhb6=>?_)
 ·
  have hl7:=ilt hb6
  have h:=hlt4 hl7
  refine I7 (wc_ (I5 (Ia (I4 (mV (k:=mV (k:=sV (aN (i:=i2) JP JQ rfl rfl rfl hl7 (hl.some_ hl7)) (k:=?_))))))))
  refine sV (ay (i2*2) mc rfl rfl (hl.some_ hl7) rfl) (k:=?_)
  obtain⟨A8,c9,hx10⟩:=hl.dfirthref07_FileT_at i2
  refine sV (q_ld (c:=0) (v:=.string (gt l i2).name) (hx10 hl7).2 rfl IY rfl rfl) (k:=mV (k:=sV nH (k:=I3 ?_)))
  refine ciV h (λhb11 h=>?_) (λhb11 h=>?_)
  ·
   refine I4 (mV (k:=aV (k:=I3 ?_)))
   exact I8 λw hw=>rq_ r h hF hw
  refine I7 (wc_ ?_)
  refine I9 ?_
  refine mV (k:=sV (aF rfl rfl rfl (aJ hl7 hl.le)) (k:=aV (k:=?_)))
  exact I6 λw hw=>⟨hl7,(),h,slK,hw,trivial⟩
 have h:=hge5 (ige hb6)
 refine Ic ?_
 change WC _ _ _ _ _ _
 refine I4 (aV (k:=I3 ?_))
 exact I8 λw hw=>rq_ r h hF hw
abbrev tF(r:List UInt8)(U:List Rowb)(Γ:Gh)(v:Value):Prop := ∃(A0:Option Addr), ∃(c0:Nat), ∃(row0:Rowb),v = .slice A0 r.length c0∧U = [row0]∧Own av Γ 5 row0 A0 c0 r∧True
theorem jQ{Al:Option Addr}{cl:Nat}{l:List ab}(hl:Sl aA Γ Al l)(hlc:l.length≤cl)(name:ByteArray)(hname:name.size≤lim)(hp:Pre [] Γ w0){r:List UInt8}(h:cZ l name=some r):Calls Tryz.prog 102 #[.slice Al l.length cl,.string name] w0 (Outc Γ [] w0 (tF r)):=by
 refine goV [4] func102 ntmps102 results102 hp λF hF=>?_
 refine I4 (aV (k:=I3 (I4 (aV (k:=I3 (I4 (mV (k:=?_))))))))
 refine mV (k:=?_)
 obtain⟨z1,hz2,h⟩:=bnd h
 refine vqV (caV call106) (λw hw=>lP (Γ:=Gh.all w) (hl.mono hw.sat.le_all) hlc name hname (Sat.all w) hz2) (k:=aV (k:=I3 (I5 (I4 (mV (k:=sV lz (k:=I3 ?_)))))))
 refine ciV h (λhb3 h=>?_) (λhb3 h=>?_)
 ·
  refine I9 ?_
  refine mV (k:=mV (k:=mV (k:=?_)))
  obtain⟨hk4,h⟩:=am h
  refine sV (q_ix JP JQ rfl rfl rfl hk4 (hl.some_ (bc hk4))) (k:=sV (ay (z1.toNat*2+1) pj rfl rfl (hl.some_ (bc hk4)) rfl) (k:=?_))
  obtain⟨A5,c6,hx7⟩:=hl.dfirthref07_FileT_at z1.toNat
  refine sV (q_ld (c:=1) (v:=.slice A5 ((gt l z1.toNat).data).length c6) (hx7 (bc hk4)).2 rfl J9 rfl rfl) (k:=?_)
  refine WR.sub (λw hw=>hw.pad) ?_
  obtain⟨hk8,h⟩:=am h
  refine pr (T:=av) (xs:=[]) (ys:=(gt l z1.toNat).data) dq (i:=0) rfl rfl rfl rfl (by kernel_rfl) rfl rfl (Own.nil av Γ 5) (Ip hk8) (λw hw=>nc (hx7 (bc hk4)).1.2.2 hw) ?_
  intro row9 A10 c11 ho12
  refine aV (k:=?_)
  refine I6 ?_
  change WC _ _ _ _ _ _
  refine I4 (mV (k:=aV (k:=I3 ?_)))
  exact I8 λw hw=>re_ r [0] h hF hw ⟨A10,c11,row9,rfl,rfl,ho12,trivial⟩
 refine I7 (wc_ (I4 (mV (k:=aV (k:=I3 ?_)))))
 refine I8 ?_
 intro w hw
 have hw:=hw.pad
 exact re_ r [0] h hF hw ⟨none,0,[],rfl,rfl,(Own.nil av _ 5),trivial⟩
abbrev qL(r:List ab)(U:List Rowb)(Γ:Gh)(v:Value):Prop := ∃(A0:Option Addr), ∃(c0:Nat), ∃(row0:Rowb),v = .slice A0 r.length c0∧U = [row0]∧Own aA Γ 126 row0 A0 c0 r∧True
theorem kn{Al:Option Addr}{cl:Nat}{l:List ab}(hl:Sl aA Γ Al l)(hlc:l.length≤cl)(name:ByteArray)(hname:name.size≤lim)(hp:Pre [] Γ w0){r:List ab}(h:dB l name=some r):Calls Tryz.prog 104 #[.slice Al l.length cl,.string name] w0 (Outc Γ [] w0 (qL r)):=by
 refine goV [4] func104 ntmps104 results104 hp λF hF=>?_
 refine I4 (aV (k:=I3 (I4 (aV (k:=I3 (I5 (I4 ?_)))))))
 refine aV (k:=I3 (Ia ?_))
 refine Ie h (λ(i7:Nat) (out_1:List ab) σ w => ∃(A2:Option Addr), ∃(c3:Nat), ∃(row4:Rowb),slots σ [(0,.slice Al l.length cl),(1,.string name),(5,.slice A2 out_1.length c3),(6,ii (i7:Int))]∧CC F Γ [row4] w∧Own aA Γ 126 row4 A2 c3 out_1∧True) ?_ ?_
 ·
  intro w hw
  have hw:=hw.pad
  exact⟨none,0,[],slK,hw,(Own.nil aA _ 126),trivial⟩
 rintro f6 i7 out_1 σ w hi8 hlt9 hge10 ⟨A2,c3,row4,hsl,hw,ho5,-⟩
 refine slV hsl hw [_] ?_; clear hw hsl
 refine I5 (I4 (mV (k:=mV (k:=sV (ag rfl JP) (k:=sV aG (k:=I3 ?_))))))
 refine coV (λhb11=>?_) (λhb11=>?_)
 ·
  have hl12:=ilt hb11
  have h:=hlt9 hl12
  refine I7 (wc_ ?_)
  refine Id (λσ w => ∃(out_13:List ab), ∃(A14:Option Addr), ∃(c15:Nat), ∃(row16:Rowb),fu f6 out_13=some r∧slots σ [(0,.slice Al l.length cl),(1,.string name),(5,.slice A14 out_13.length c15),(6,ii (i7:Int))]∧CC F Γ [row16] w∧Own aA Γ 126 row16 A14 c15 out_13∧True) ?_ ?_
  ·
   refine Ia (I4 (mV (k:=mV (k:=sV (aN (i:=i7) JP JQ rfl rfl rfl hl12 (hl.some_ hl12)) (k:=sV (ay (i7*2) mc rfl rfl (hl.some_ hl12) rfl) (k:=?_))))))
   obtain⟨A18,c19,hx20⟩:=hl.dfirthref07_FileT_at i7
   refine sV (q_ld (c:=0) (v:=.string (gt l i7).name) (hx20 hl12).2 rfl IY rfl rfl) (k:=mV (k:=sV qS (k:=I3 ?_)))
   refine ciV h (λhb21 h=>?_) (λhb21 h=>?_)
   ·
    refine I9 ?_
    refine mV (k:=mV (k:=mV (k:=sV (aN (i:=i7) JP JQ rfl rfl rfl hl12 (hl.some_ hl12)) (k:=sV (jx (c:=0) (vs:=(ab.cs A18 c19 (gt l i7))) (hx20 hl12).2 rfl isAgg126 JQ rfl rfl rfl) (k:=?_)))))
    refine bsV (ab.cs A18 c19 (gt l i7)).toArray 126 λg22=>?_
    obtain⟨hk23,h⟩:=am h
    refine apV 1 [(gt l i7)] te ho5 (Ip hk23) (λw hw=>bM (i:=0) rfl (by exact⟨A18,c19,rfl,(hx20 hl12).1⟩) hw) ?_
    intro row24 A25 c26 ho27
    refine aV (k:=?_)
    exact I6 λw hw=>⟨(out_1++[(gt l i7)]),A25,c26,row24,h,slK,(hw.on [1]),ho27,trivial⟩
   exact I7 λw hw=>⟨out_1,A2,c3,row4,h,slK,hw,ho5,trivial⟩
  rintro σ w ⟨out_13,A14,c15,row16,h,hsl,hw,ho17,-⟩
  refine slV hsl hw [_] ?_; clear hw hsl
  refine I9 ?_
  refine mV (k:=sV (aF rfl rfl rfl (aJ hl12 hl.le)) (k:=aV (k:=?_)))
  exact I6 λw hw=>⟨hl12,out_13,h,A14,c15,row16,slK,hw,ho17,trivial⟩
 have h:=hge10 (ige hb11)
 refine Ic ?_
 change WC _ _ _ _ _ _
 refine I4 (mV (k:=aV (k:=I3 ?_)))
 exact I8 λw hw=>re_ r [0] h hF hw ⟨A2,c3,row4,rfl,rfl,ho5,trivial⟩
abbrev tT(r:List ab)(U:List Rowb)(Γ:Gh)(v:Value):Prop := ∃(A0:Option Addr), ∃(c0:Nat), ∃(row0:Rowb),v = .slice A0 r.length c0∧U = [row0]∧Own aA Γ 126 row0 A0 c0 r∧True
theorem lO{Al:Option Addr}{cl:Nat}{l:List ab}(hl:Sl aA Γ Al l)(hlc:l.length≤cl)(name:ByteArray)(hname:name.size≤lim){Ab:Option Addr}{cb:Nat}{b:List UInt8}(hb:Sl av Γ Ab b)(hbc:b.length≤cb)(hp:Pre [] Γ w0){r:List ab}(h:fv l name b=some r):Calls Tryz.prog 103 #[.slice Al l.length cl,.string name,.slice Ab b.length cb] w0 (Outc Γ [] w0 (tT r)):=by
 refine goV [6] func103 ntmps103 results103 hp λF hF=>?_
 refine I4 (aV (k:=I3 (I4 (mV (k:=mV (k:=?_))))))
 obtain⟨z1,hz2,h⟩:=bnd h
 refine ecV [] (caV call104) (λw hp=>kn hl hlc name hname hp hz2) ?_
 rintro Γ3 _ _ hl4 ⟨A7,c8,row9,rfl,rfl,hr10,_⟩
 refine cwV 12 [_] (aV (k:=I3 (I4 (aV (k:=I3 (I4 (aV (k:=?_))))))))
 refine I3 (I5 (I4 (aV (k:=I3 (Ia ?_)))))
 refine Ie h (λ(i18:Nat) (s:(List ab)×Bool) σ w=>match s with | (out_11,laid_16) => ∃(A12:Option Addr), ∃(c13:Nat), ∃(row14:Rowb),slots σ [(0,.slice A7 z1.length c8),(1,.string name),(2,.slice Ab b.length cb),(7,.slice A12 out_11.length c13),(8,.bool laid_16),(9,ii (i18:Int))]∧CC F Γ3 [row14,row9] w∧Own aA Γ3 126 row14 A12 c13 out_11∧True) ?_ ?_
 ·
  intro w hw
  have hw:=hw.pad
  exact⟨none,0,[],slK,hw,(Own.nil aA _ 126),trivial⟩
 rintro f17 i18 ⟨out_11,laid_16⟩ σ w hi19 hlt20 hge21 ⟨A12,c13,row14,hsl,hw,ho15,-⟩
 refine slV hsl hw [_,_] ?_; clear hw hsl
 refine I5 (I4 (mV (k:=mV (k:=sV (ag rfl JP) (k:=sV aG (k:=I3 ?_))))))
 refine coV (λhb22=>?_) (λhb22=>?_)
 ·
  have hl23:=ilt hb22
  have h:=hlt20 hl23
  refine I7 (wc_ (I5 (Ia ?_)))
  refine Id (λσ w => ∃(out_24:List ab), ∃(laid_29:Bool), ∃(A25:Option Addr), ∃(c26:Nat), ∃(row27:Rowb),hJ z1 f17 i18 out_24 laid_29=some r∧slots σ [(0,.slice A7 z1.length c8),(1,.string name),(2,.slice Ab b.length cb),(7,.slice A25 out_24.length c26),(8,.bool laid_29),(9,ii (i18:Int))]∧CC F Γ3 [row27,row9] w∧Own aA Γ3 126 row27 A25 c26 out_24∧True) ?_ ?_
  ·
   refine I4 (mV (k:=sV cY (k:=mV (k:=vG1 (h:=λhg30=>moV) (k:=vG1 (h:=λhg31=>moV) (k:=vG1 (h:=λhg32=>moV) (k:=vG1 (h:=λhg33=>aN (i:=i18) JP JQ rfl (grV hg33) (grV hg33) hl23 (hr10.some_ hl23)) (k:=?_))))))))
   refine vG1 (h:=λhg34=>ay (i18*2) mc rfl (grV hg34) (hr10.some_ hl23) rfl) (k:=?_)
   obtain⟨A36,c37,hx38⟩:=hr10.dfirthref07_FileT_at i18
   refine vG1 (h:=λhg35=>lQ (c:=0) (v:=.string (gt z1 i18).name) (i:=1) rfl (hx38 hl23).2 rfl IY (grV hg35) rfl) (k:=vG1 (h:=λhg39=>ER rfl (grV hg39) (grV hg39)) (k:=sV pkA (k:=I3 ?_)))
   refine ciV h (λhb40 h=>?_) (λhb40 h=>?_)
   ·
    refine I4 (mV (k:=mV (k:=mV (k:=sV (aZ (v:=.agg #[.string name,.slice Ab b.length cb]) rfl (jI rfl rfl) (λw=>by kernel_rfl)) (k:=?_)))))
    refine bsV #[.string name,.slice Ab b.length cb] 126 λg41=>?_
    obtain⟨hk42,h⟩:=am h
    refine apV 1 [(⟨name,b⟩:ab)] te ho15 (Ip hk42) (λw hw=>bM (i:=0) rfl (by exact⟨Ab,cb,rfl,⟨hname,⟨hbc,(hb.mono hl4)⟩⟩⟩) hw) ?_
    intro row43 A44 c45 ho46
    refine aV (k:=I3 ?_)
    refine I9 ?_
    refine aV (k:=?_)
    exact I6 λw hw=>⟨(out_11++[(⟨name,b⟩:ab)]),true,A44,c45,row43,h,slK,(hw.on [1,1]),ho46,trivial⟩
   exact I7 λw hw=>⟨out_11,laid_16,A12,c13,row14,h,slK,hw,ho15,trivial⟩
  rintro σ w ⟨out_24,laid_29,A25,c26,row27,h,hsl,hw,ho28,-⟩
  refine slV hsl hw [_,_] ?_; clear hw hsl
  refine I9 ?_
  refine mV (k:=mV (k:=mV (k:=sV (aN (i:=i18) JP JQ rfl rfl rfl hl23 (hr10.some_ hl23)) (k:=?_))))
  obtain⟨A47,c48,hx49⟩:=hr10.dfirthref07_FileT_at i18
  refine sV (uB (c:=0) (vs:=(ab.cs A47 c48 (gt z1 i18))) (i:=1) rfl (hx49 hl23).2 rfl isAgg126 JQ rfl rfl) (k:=?_)
  refine bsV (ab.cs A47 c48 (gt z1 i18)).toArray 126 λg50=>?_
  obtain⟨hk51,h⟩:=am h
  refine apV 1 [(gt z1 i18)] te ho28 (Ip hk51) (λw hw=>bM (i:=0) rfl (by exact⟨A47,c48,rfl,(hx49 hl23).1⟩) hw) ?_
  intro row52 A53 c54 ho55
  refine aV (k:=?_)
  refine I6 ?_
  change WC _ _ _ _ _ _
  refine I9 ?_
  refine mV (k:=sV (aF rfl rfl rfl (aJ hl23 hr10.le)) (k:=aV (k:=?_)))
  exact I6 λw hw=>⟨hl23,((out_24++[(gt z1 i18)]),laid_29),h,A53,c54,row52,slK,(hw.on [1,1]),ho55,trivial⟩
 have h:=hge21 (ige hb22)
 refine Ic ?_
 change WC _ _ _ _ _ _
 refine I5 (I4 (mV (k:=sV cY (k:=I3 ?_))))
 refine ciV h (λhb56 h=>?_) (λhb56 h=>?_)
 ·
  refine I9 ?_
  refine mV (k:=mV (k:=mV (k:=sV (aZ (v:=.agg #[.string name,.slice Ab b.length cb]) rfl (jI rfl rfl) (λw=>by kernel_rfl)) (k:=?_))))
  refine bsV #[.string name,.slice Ab b.length cb] 126 λg57=>?_
  obtain⟨hk58,h⟩:=am h
  refine apV 1 [(⟨name,b⟩:ab)] te ho15 (Ip hk58) (λw hw=>bM (i:=0) rfl (by exact⟨Ab,cb,rfl,⟨hname,⟨hbc,(hb.mono hl4)⟩⟩⟩) hw) ?_
  intro row59 A60 c61 ho62
  refine aV (k:=?_)
  refine I6 ?_
  change WC _ _ _ _ _ _
  refine I4 (mV (k:=aV (k:=I3 ?_)))
  exact I8 λw hw=>re_ r [1] h hF hw ⟨A60,c61,row59,rfl,rfl,ho62,trivial⟩
 refine I7 (wc_ (I4 (mV (k:=aV (k:=I3 ?_)))))
 exact I8 λw hw=>re_ r [0] h hF hw ⟨A12,c13,row14,rfl,rfl,ho15,trivial⟩
abbrev vg(r:List ab)(U:List Rowb)(Γ:Gh)(v:Value):Prop := ∃(A0:Option Addr), ∃(c0:Nat), ∃(row0:Rowb),v = .slice A0 r.length c0∧U = [row0]∧Own aA Γ 126 row0 A0 c0 r∧True
theorem md{Al:Option Addr}{cl:Nat}{l:List ab}(hl:Sl aA Γ Al l)(hlc:l.length≤cl){Ac_3:Option Addr}{cc_3:Nat}(c_:ak)(hc_:ak.fits Γ Ac_3 cc_3 c_)(hp:Pre [] Γ w0){r:List ab}(h:dE l c_=some r):Calls Tryz.prog 52 #[.slice Al l.length cl,.agg (ak.cs Ac_3 cc_3 c_).toArray] w0 (Outc Γ [] w0 (vg r)):=by
 refine goV [4] func52 ntmps52 results52 hp λF hF=>?_
 refine I4 ?_
 refine bxV (v:=.agg (ak.cs Ac_3 cc_3 c_).toArray) λg1=>?_
 refine aV (k:=I3 (I5 (I4 (sV (q_fl 0 oN) (k:=sV (ldV 0 Jc) (k:=I3 (Ia ?_)))))))
 refine I4 (sV bp (k:=aV (k:=I3 ?_)))
 refine ciV h (λhb2 h=>?_) (λhb2 h=>?_)
 ·
  refine I4 (mV (k:=sV (q_fl 1 ku) (k:=sV (ldV 0 IY) (k:=?_))))
  obtain⟨z3,hz4,h⟩:=bnd h
  refine ecV [] (caV call102) (λw hp=>jQ hl hlc c_.name hc_.2.1 hp hz4) ?_
  rintro Γ5 _ _ hl6 ⟨A9,c10,row11,rfl,rfl,hr12,_⟩
  refine cwV 14 [_,_] (aV (k:=I3 (I4 (mV (k:=sV (q_fl 3 lf) (k:=sV (ldV 1 J9) (k:=?_)))))))
  obtain⟨hk13,h⟩:=am h
  refine apV 0 c_.data dq hr12 (Ip hk13) (λw hw=>nc (hc_.2.2.2.1.2.mono hl6) hw) ?_
  intro row14 A15 c16 ho17
  refine aV (k:=I3 (I4 (mV (k:=sV (q_fl 1 ku) (k:=sV (ldV 1 IY) (k:=mV (k:=?_)))))))
  have hc22:=ho17.capz
  refine seR 0 [_,_] λΓ18 hl19 hr20=>?_
  have hs21:=ho17.sl hl19 hr20
  obtain⟨z23,hz24,h⟩:=bnd h
  refine ecV [] (caV call103) (λw hp=>lO (hl.mono (hl6.trans hl19)) hlc c_.name hc_.2.1 hs21 hc22 hp hz24) ?_
  rintro Γ25 _ _ hl26 ⟨A29,c30,row31,rfl,rfl,hr32,_⟩
  refine cwV 23 [_,_,_] (aV (k:=I3 ?_))
  exact I8 λw hw=>re_ r [0] h hF hw ⟨A29,c30,row31,rfl,rfl,hr32,trivial⟩
 refine I4 (sV bp (k:=aV (k:=I3 ?_)))
 refine ciV h (λhb33 h=>?_) (λhb33 h=>?_)
 ·
  refine I5 ?_
  refine leV λh034=>?_
  refine dW (CC F Γ [[(g1,.cells (ak.cs Ac_3 cc_3 c_).toArray 119 (0,0))]]) (bo_ [0] gR h034) λk=>?_
  change WH _ _ _ _ (CC F Γ [_]) _ 12 _ _
  refine hV 0 k (q:=moV) (k:=hV 1 k (q:=q_fl 1 ku) (k:=hV 2 k (q:=ldV 0 IY) (k:=hV 3 k (q:=moV) (k:=hV 4 k (q:=q_fl 1 ku) (k:=hV 5 k (q:=ldV 0 IY) (k:=hV 7 k (q:=q_fl 4 uv) (k:=hV 8 k (q:=ldV 0 Jc) (k:=?_))))))))
  refine wl_ 6 rfl ?_
  obtain⟨z35,hz36,h⟩:=bnd h
  refine ecV [] (caV call102) (λw hp=>jQ hl hlc c_.name hc_.2.1 hp hz36) ?_
  rintro Γ37 _ _ hl38 ⟨A41,c42,row43,rfl,rfl,hr44,_⟩
  refine cwV 32 [_,_] ?_
  refine I6 (nxV (bo_ [1] hl38 h034) λk=>?_)
  refine wl_ 9 rfl ?_
  have hc49:=hr44.capz
  refine seR 0 [_,_] λΓ45 hl46 hr47=>?_
  have hs48:=hr44.sl hl46 hr47
  obtain⟨hk50,h⟩:=am h
  refine sV (qE (c:=c42) (hi:=c_.n.toNat) (xs:=z35) IZ J3 rfl rfl (fU rfl hk50) (bC hk50) hc49) (k:=?_)
  refine I6 (nxV (bo_ [1] (hl38.trans hl46) h034) λk=>?_)
  refine wl_ 10 rfl ?_
  obtain⟨z51,hz52,h⟩:=bnd h
  refine ecV [] (caV call103) (λw hp=>lO (hl.mono (hl38.trans hl46)) hlc c_.name hc_.2.1 (hs48.cut_to (hi:=c_.n.toNat) (bC hk50)) (tJ hc49 c_.n.toNat) hp hz52) ?_
  rintro Γ53 _ _ hl54 ⟨A57,c58,row59,rfl,rfl,hr60,_⟩
  refine cwV 36 [_,_,_] ?_
  refine I6 (nxV (bo_ [2] ((hl38.trans hl46).trans hl54) h034) λk=>?_)
  refine hV 11 k (q:=aoV) (k:=?_)
  refine Ig (by kernel_rfl) ?_
  change WC _ _ _ _ _ _
  exact I8 λw hw=>re_ r [0] h hF hw ⟨A57,c58,row59,rfl,rfl,hr60,trivial⟩
 refine I4 (sV bp (k:=aV (k:=I3 ?_)))
 refine ciV h (λhb61 h=>?_) (λhb61 h=>?_)
 ·
  refine I4 (mV (k:=sV (q_fl 1 ku) (k:=sV (ldV 0 IY) (k:=?_))))
  obtain⟨z62,hz63,h⟩:=bnd h
  refine ecV [] (caV call102) (λw hp=>jQ hl hlc c_.name hc_.2.1 hp hz63) ?_
  rintro Γ64 _ _ hl65 ⟨A68,c69,row70,rfl,rfl,hr71,_⟩
  refine cwV 42 [_,_] (aV (k:=I3 (I5 ?_)))
  have hc76:=hr71.capz
  refine seC 0 [_,_] λΓ72 hl73 hr74=>?_
  have hs75:=hr71.sl hl73 hr74
  refine leV λh077=>?_
  refine dW (CC F Γ72 [[],[(g1,.cells (ak.cs Ac_3 cc_3 c_).toArray 119 (0,0))]]) (bo_ [0,0] gR h077) λk=>?_
  change WH _ _ _ _ (CC F Γ72 [_,_]) _ 9 _ _
  refine hV 0 k (q:=moV) (k:=hV 1 k (q:=q_fl 1 ku) (k:=hV 2 k (q:=ldV 1 IY) (k:=hV 4 k (q:=q_fl 2 xD) (k:=hV 5 k (q:=ldV 1 IY) (k:=hV 6 k (q:=moV) (k:=wl_ 3 rfl ?_))))))
  obtain⟨z78,hz79,h⟩:=bnd h
  refine ecV [] (caV call104) (λw hp=>kn (hl.mono (hl65.trans hl73)) hlc c_.name hc_.2.1 hp hz79) ?_
  rintro Γ80 _ _ hl81 ⟨A84,c85,row86,rfl,rfl,hr87,_⟩
  refine cwV 46 [_,_,_] ?_
  refine I6 (nxV (bo_ [1,1] hl81 h077) λk=>?_)
  refine wl_ 7 rfl ?_
  have hc92:=hr87.capz
  refine seR 0 [_,_,_] λΓ88 hl89 hr90=>?_
  have hs91:=hr87.sl hl89 hr90
  obtain⟨z93,hz94,h⟩:=bnd h
  refine ecV [] (caV call103) (λw hp=>lO hs91 hc92 c_.to_ hc_.2.2.1 (hs75.mono (hl81.trans hl89)) hc76 hp hz94) ?_
  rintro Γ95 _ _ hl96 ⟨A99,c100,row101,rfl,rfl,hr102,_⟩
  refine cwV 50 [_,_,_,_] ?_
  refine I6 (nxV (bo_ [2,2] ((hl81.trans hl89).trans hl96) h077) λk=>?_)
  refine hV 8 k (q:=aoV) (k:=?_)
  refine Ig (by kernel_rfl) ?_
  change WC _ _ _ _ _ _
  exact I8 λw hw=>re_ r [0] h hF hw ⟨A99,c100,row101,rfl,rfl,hr102,trivial⟩
 refine I7 (wc_ (I4 (mV (k:=sV (q_fl 1 ku) (k:=sV (ldV 0 IY) (k:=?_))))))
 obtain⟨z103,hz104,h⟩:=bnd h
 refine ecV [] (caV call104) (λw hp=>kn hl hlc c_.name hc_.2.1 hp hz104) ?_
 rintro Γ105 _ _ hl106 ⟨A109,c110,row111,rfl,rfl,hr112,_⟩
 refine cwV 54 [_,_] (aV (k:=I3 ?_))
 exact I8 λw hw=>re_ r [0] h hF hw ⟨A109,c110,row111,rfl,rfl,hr112,trivial⟩
abbrev oW(gd:Nat)(ed:Nat)(rowd:Rowb)(r:List ab)(U:List Rowb)(Γ:Gh)(v:Value):Prop := ∃(A0:Option Addr), ∃(c0:Nat),v = .slice A0 r.length c0∧U = [rowd]∧r.length≤c0∧Sl aA Γ A0 r∧True
theorem bh{gd ed:Nat}{rowd:Rowb}{d:a7}(hd:a7.ob ed Γ gd rowd d)(hp:Pre [rowd] Γ w0){r:List ab}(h:aQ d=some r):Calls Tryz.prog 26 #[(pq gd)] w0 (Outc Γ [rowd] w0 (oW gd ed rowd r)):=by
 refine goV [2] func26 ntmps26 results26 hp λF hF=>?_
 refine I4 (aV (k:=I3 (I4 (mV (k:=sV nlV (k:=sV (q_fl 1 tf) (k:=?_)))))))
 obtain⟨A1_1,c1_1,A2_1,c2_1,r2_1,hrow_1,ho0_1,ho1_1,ho2_1,ho3_1,-⟩:=id hd
 refine ufR 0 hrow_1 [_,_] ?_
 refine sV (ldV 0 isAgg62) (k:=aV (k:=I3 (I5 (I4 (aV (k:=I3 (Ia ?_)))))))
 refine foC [0,0] hrow_1 [_] ?_
 refine Ie h (λ(i11:Nat) (l_5:List ab) σ w => ∃(Γ3:Gh), ∃(A6:Option Addr), ∃(c7:Nat),slots σ [(0,(pq gd)),(3,.slice A6 l_5.length c7),(4,ii (i11:Int))]∧CC F Γ3 [rowd] w∧Gh.le Γ Γ3∧l_5.length≤c7∧Sl aA Γ3 A6 l_5∧True) ?_ ?_
 ·
  intro w hw
  exact⟨Γ,A1_1,c1_1,slK,hw,gR,ho1_1,ho2_1,trivial⟩
 rintro f10 i11 l_5 σ w hi12 hlt13 hge14 ⟨Γ3,A6,c7,hsl,hw,hl4,hc9,hs8,-⟩
 refine slV hsl hw [_] ?_; clear hw hsl
 refine I5 (I4 (mV (k:=mV (k:=sV nlV (k:=sV (q_fl 2 ki) (k:=?_))))))
 obtain⟨A1_15,c1_15,A2_15,c2_15,r2_15,hrow_15,ho0_15,ho1_15,ho2_15,ho3_15,-⟩:=(hd.mono hl4)
 refine ufR 0 hrow_15 [_,_] ?_
 refine sV (ldV 0 JR) (k:=sV (ag rfl JS) (k:=sV aG (k:=I3 ?_)))
 refine coV (λhb16=>?_) (λhb16=>?_)
 ·
  have hl17:=ilt hb16
  have h:=hlt13 hl17
  refine I7 (wc_ (I5 (Ia ?_)))
  refine I9 ?_
  refine mV (k:=mV (k:=sV nlV (k:=sV (q_fl 2 ki) (k:=sV (ldV 0 JR) (k:=mV (k:=sV (aN (i:=i11) JS JT rfl rfl rfl hl17 (ho3_15.some_ hl17)) (k:=?_)))))))
  obtain⟨A18,c19,hx20⟩:=ho3_15.dfirthref07_ChangeT_at i11
  refine sV (uB (c:=0) (vs:=(ak.cs A18 c19 (gt d.todo i11))) (i:=1) rfl (hx20 hl17).2 rfl isAgg119 JT rfl rfl) (k:=?_)
  obtain⟨z21,hz22,h⟩:=bnd h
  refine ecV [] (caV call52) (λw hp=>md hs8 hc9 (gt d.todo i11) (hx20 hl17).1 hp hz22) ?_
  rintro Γ23 _ _ hl24 ⟨A27,c28,row29,rfl,rfl,hr30,_⟩
  refine cwV 26 [_,_,_] (aV (k:=?_))
  refine I6 ?_
  change WC _ _ _ _ _ _
  refine I9 ?_
  refine mV (k:=sV (aF rfl rfl rfl (aJ hl17 ho3_15.le)) (k:=aV (k:=?_)))
  refine I6 ?_
  intro w hw
  have hw:=hw.fold (is:=[1,1]) rfl hrow_15
  have hc36:=hr30.capz
  obtain⟨Γ32,hw,hl33,hr34⟩:=hw.seal (i:=1) rfl; have hs35:=hr30.sl hl33 hr34
  exact⟨hl17,z21,h,Γ32,A27,c28,slK,(hw.on [0]),((hl4.trans hl24).trans hl33),hc36,hs35,trivial⟩
 have h:=hge14 (ige hb16)
 refine Ic ?_
 change WC _ _ _ _ _ _
 refine I4 (mV (k:=aV (k:=I3 ?_)))
 refine I8 ?_
 intro w hw
 have hw:=hw.fold (is:=[0,0]) rfl hrow_15
 exact re_ r [0] h hF hw ⟨A6,c7,rfl,rfl,hc9,hs8,trivial⟩
abbrev pC(gd:Nat)(ed:Nat)(rowd:Rowb)(r:(List UInt8)×Bool)(U:List Rowb)(Γ:Gh)(v:Value):Prop := ∃(A0:Option Addr), ∃(c0:Nat), ∃(row0:Rowb),v = .tuple #[.slice A0 r.1.length c0,.bool r.2]∧U = [rowd,row0]∧Own av Γ 5 row0 A0 c0 r.1∧True
theorem jr{gd ed:Nat}{rowd:Rowb}{d:a7}(hd:a7.ob ed Γ gd rowd d)(name:ByteArray)(hname:name.size≤lim)(hp:Pre [rowd] Γ w0){r:(List UInt8)×Bool}(h:cg d name=some r):Calls Tryz.prog 89 #[(pq gd),.string name] w0 (Outc Γ [rowd] w0 (pC gd ed rowd r)):=by
 refine goV [4,5] func89 ntmps89 results89 hp λF hF=>?_
 refine I4 (aV (k:=aV (k:=I3 (I4 (mV (k:=?_))))))
 obtain⟨z1,hz2,h⟩:=bnd h
 refine ecV [0] (caV call26) (λw hp=>bh hd hp hz2) ?_
 rintro Γ3 _ _ hl4 ⟨A7,c8,rfl,rfl,hc10,hr9,_⟩
 refine cwV 8 [_] (aV (k:=I3 (I4 (mV (k:=mV (k:=?_))))))
 obtain⟨z11,hz12,h⟩:=bnd h
 refine ecV [] (caV call102) (λw hp=>jQ hr9 hc10 name hname hp hz12) ?_
 rintro Γ13 _ _ hl14 ⟨A17,c18,row19,rfl,rfl,hr20,_⟩
 refine cwV 11 [_,_] (mV (k:=mV (k:=?_)))
 obtain⟨z21,hz22,h⟩:=bnd h
 refine vqV (caV call106) (λw hw=>lP (Γ:=Gh.all w) ((hr9.mono hl14).mono hw.sat.le_all) hc10 name hname (Sat.all w) hz22) (k:=sV lz (k:=aV (k:=aV (k:=I3 ?_))))
 exact I8 λw hw=>re_ r [1,0] h hF hw ⟨A17,c18,row19,rfl,rfl,hr20,trivial⟩
theorem kr{Ab:Option Addr}{cb:Nat}{b:List UInt8}(hb:Sl av Γ Ab b)(hbc:b.length≤cb)(at_:Int)(hat_:I64 at_)(hs:Sat Γ w0){r:Int×Int×Int}(h:cR b at_=some r):CQ Tryz.prog 132 #[.slice Ab b.length cb,ii at_] w0 (.tuple #[ii r.1,ii r.2.1,ii r.2.2]):=by
 refine goQ [4,5,6] func132 ntmps132 results132 hs λF hF=>?_
 refine I4 (aV (k:=aV (k:=aV (k:=I3 (I4 (aV (k:=I3 ?_)))))))
 refine I4 (aV (k:=I3 (I5 (I4 (aV (k:=I3 (Ia ?_)))))))
 refine Il h (λ(s:Int×Int×Int×Int) σ w=>match s with | (at_1,n_3,one_5,i_7)=>slots σ [(0,.slice Ab b.length cb),(1,ii at_1),(7,ii n_3),(8,ii one_5),(9,ii i_7)]∧CC F Γ [] w∧I64 at_1∧I64 n_3∧I64 one_5∧I64 i_7∧True) ?_ ?_
 ·
  intro w hw
  exact⟨slK,hw,hat_,iV,iV,iV,trivial⟩
 rintro f9 ⟨at_1,n_3,one_5,i_7⟩ σ w h ⟨hsl,hw,hr2,hr4,hr6,hr8,-⟩
 refine slV hsl hw [] ?_; clear hw hsl
 refine I5 (I4 (mV (k:=mV (k:=sV (ag rfl IZ) (k:=sV aG (k:=I3 ?_))))))
 refine ciV h (λhb13 h=>?_) (λhb13 h=>?_)
 ·
  refine I7 (wc_ (I5 (Ia (I4 (mV (k:=mV (k:=?_)))))))
  obtain⟨hk14,h⟩:=am h
  refine sV (q_ix IZ J3 rfl rfl rfl hk14 (hb.some_ (bc hk14))) (k:=sV (q_ld (c:=0) (v:=.int .u8 (((gt b at_1.toNat).toNat:Nat):Int)) (hb.byteT_at (bc hk14)).2 rfl isAgg5 rfl rfl) (k:=sV (gw J6 J5) (k:=aV (k:=I3 (I4 (mV (k:=sV bR (k:=?_))))))))
  refine aV (k:=I3 (I5 (I4 (mV (k:=sV bp (k:=mV (k:=vG1 (h:=λhg15=>moV) (k:=?_))))))))
  refine vG1 (h:=λhg16=>bi rfl (grV hg16)) (k:=sV pkA (k:=mV (k:=vG0 (h:=λhg17=>moV) (k:=vG0 (h:=λhg18=>bi rfl (grV hg18)) (k:=vG0 (h:=λhg19=>bv (v:=.bool (decide (0<i_7))) rfl (grV hg19)) (k:=vh1 (c0:=(!((i_7==8)&&(decide (127<(w64 (((gt b at_1.toNat).toNat:Nat):Int))))))) (g:=(decide (0<i_7))) rfl rfl rfl rfl rfl (λ_=>QV.qo moV) (vh1 (c0:=(!((i_7==8)&&(decide (127<(w64 (((gt b at_1.toNat).toNat:Nat):Int))))))) (g:=(decide (0<i_7))) rfl rfl rfl rfl rfl (λhg21=>QV.qo (bp rfl (grV hg21))) ?_)))))))
  refine vG0 (h:=λhg22=>gq rfl (grV hg22) (ly (c:=(!((i_7==8)&&(decide (127<(w64 (((gt b at_1.toNat).toNat:Nat):Int))))))) (g:=(decide (0<i_7))) (y:=((w64 (((gt b at_1.toNat).toNat:Nat):Int))==0)) hg22)) (k:=sV pkO (k:=I3 ?_))
  refine ciV h (λhb23 h=>?_) (λhb23 h=>?_)
  ·
   refine I4 (aV (k:=aV (k:=aV (k:=I3 ?_))))
   exact I8 λw hw=>by obtain rfl:=Option.some.inj h; exact⟨by kernel_rfl,fr_ hF hw⟩
  refine I7 (wc_ (I4 (mV (k:=mV (k:=sV (vx rfl rfl rfl (by decide)) (k:=mV (k:=sV vp (k:=?_))))))))
  refine sV bR (k:=aV (k:=I3 (I5 (I4 (mV (k:=sV aG (k:=I3 ?_)))))))
  refine ciV h (λhb24 h=>?_) (λhb24 h=>?_)
  ·
   refine I4 (mV (k:=mV (k:=aV (k:=aV (k:=aV (k:=I3 ?_))))))
   exact I8 λw hw=>by obtain rfl:=Option.some.inj h; exact⟨by kernel_rfl,fr_ hF hw⟩
  refine I7 (wc_ ?_)
  refine I9 ?_
  refine mV (k:=sV vp (k:=aV (k:=?_)))
  refine I6 ?_
  change WC _ _ _ _ _ _
  refine I9 ?_
  refine mV (k:=sV bR (k:=aV (k:=?_)))
  exact I6 λw hw=>⟨((w64 (at_1+1)),(w64 (n_3+(w64 (((w64 (((gt b at_1.toNat).toNat:Nat):Int)).tmod 128)*one_5)))),(w64 (one_5*128)),(w64 (i_7+1))),h,slK,hw,(dR _),(dR _),(dR _),(dR _),trivial⟩
 refine Ic ?_
 change WC _ _ _ _ _ _
 refine I4 (aV (k:=aV (k:=aV (k:=I3 ?_))))
 exact I8 λw hw=>by obtain rfl:=Option.some.inj h; exact⟨by kernel_rfl,fr_ hF hw⟩
abbrev uR(r:List UInt8)(U:List Rowb)(Γ:Gh)(v:Value):Prop := ∃(A0:Option Addr), ∃(c0:Nat), ∃(row0:Rowb),v = .slice A0 r.length c0∧U = [row0]∧Own av Γ 5 row0 A0 c0 r∧True
theorem uo{Aa:Option Addr}{ca:Nat}{a:List UInt8}(ha:Sl av Γ Aa a)(hac:a.length≤ca){Ab:Option Addr}{cb:Nat}{b:List UInt8}(hb:Sl av Γ Ab b)(hbc:b.length≤cb)(hp:Pre [] Γ w0){r:List UInt8}(h:eP a b=some r):Calls Tryz.prog 143 #[.slice Aa a.length ca,.slice Ab b.length cb] w0 (Outc Γ [] w0 (uR r)):=by
 refine goV [4] func143 ntmps143 results143 hp λF hF=>?_
 refine I4 (aV (k:=I3 (I4 (aV (k:=I3 (I4 (mV (k:=?_))))))))
 refine mV (k:=?_)
 refine WR.sub (λw hw=>hw.pad) ?_
 obtain⟨hk1,h⟩:=am h
 refine pr (T:=av) (xs:=[]) (ys:=a) dq (i:=0) rfl rfl rfl rfl (by kernel_rfl) rfl rfl (Own.nil av Γ 5) (Ip hk1) (λw hw=>nc ha hw) ?_
 intro row2 A3 c4 ho5
 refine aV (k:=I3 (I4 (mV (k:=mV (k:=?_)))))
 obtain⟨hk6,h⟩:=am h
 refine apV 0 b dq ho5 (Ip hk6) (λw hw=>nc hb hw) ?_
 intro row7 A8 c9 ho10
 refine aV (k:=I3 (I4 (mV (k:=aV (k:=I3 ?_)))))
 exact I8 λw hw=>re_ r [0] h hF hw ⟨A8,c9,row7,rfl,rfl,ho10,trivial⟩
abbrev rY(r:List UInt8)(U:List Rowb)(Γ:Gh)(v:Value):Prop := ∃(A0:Option Addr), ∃(c0:Nat), ∃(row0:Rowb),v = .slice A0 r.length c0∧U = [row0]∧Own av Γ 5 row0 A0 c0 r∧True
theorem iH(n:Int)(hn:I64 n)(hp:Pre [] Γ w0){r:List UInt8}(h:cw n=some r):Calls Tryz.prog 98 #[ii n] w0 (Outc Γ [] w0 (rY r)):=by
 refine goV [2] func98 ntmps98 results98 hp λF hF=>?_
 refine I4 (aV (k:=I3 ?_))
 refine Id (λσ w => ∃(n_1:Int),ga n_1=some r∧slots σ [(0,ii n_1)]∧CC F Γ [] w∧I64 n_1∧True) ?_ ?_
 ·
  refine I4 (mV (k:=sV aG (k:=I3 ?_)))
  refine ciV h (λhb3 h=>?_) (λhb3 h=>?_)
  ·
   refine I9 ?_
   refine aV (k:=?_)
   exact I6 λw hw=>⟨0,h,slK,hw,iV,trivial⟩
  exact I7 λw hw=>⟨n,h,slK,hw,hn,trivial⟩
 rintro σ w ⟨n_1,h,hsl,hw,hr2,-⟩
 refine slV hsl hw [] ?_; clear hw hsl
 refine I4 (aV (k:=I3 (I5 (Ia ?_))))
 refine Il h (λ(s:Int×(List UInt8)) σ w=>match s with | (n_4,b_6) => ∃(A7:Option Addr), ∃(c8:Nat), ∃(row9:Rowb),slots σ [(0,ii n_4),(3,.slice A7 b_6.length c8)]∧CC F Γ [row9] w∧I64 n_4∧Own av Γ 5 row9 A7 c8 b_6∧True) ?_ ?_
 ·
  intro w hw
  have hw:=hw.pad
  exact⟨none,0,[],slK,hw,hr2,(Own.nil av _ 5),trivial⟩
 rintro f11 ⟨n_4,b_6⟩ σ w h ⟨A7,c8,row9,hsl,hw,hr5,ho10,-⟩
 refine slV hsl hw [_] ?_; clear hw hsl
 refine I5 (I4 (mV (k:=sV lz (k:=I3 ?_))))
 refine ciV h (λhb15 h=>?_) (λhb15 h=>?_)
 ·
  refine I7 (wc_ (Ia (I4 (mV (k:=mV (k:=sV (vx rfl rfl rfl (by decide)) (k:=sV bR (k:=?_))))))))
  refine sV (gw J5 J6) (k:=?_)
  refine bsV #[.int .u8 (wu8 (w64 ((n_4.tmod 128)+128)))] 5 λg16=>?_
  obtain⟨hk17,h⟩:=am h
  refine apV 1 [(b8 (wu8 (w64 ((n_4.tmod 128)+128))))] dq ho10 (Ip hk17) (λw hw=>bM (i:=0) rfl (by exact(by show [Value.int .u8 (wu8 (w64 ((n_4.tmod 128)+128)))] = [Value.int .u8 _]; rw [lx (sa _)])) hw) ?_
  intro row18 A19 c20 ho21
  refine aV (k:=I3 ?_)
  refine I9 ?_
  refine mV (k:=sV (tO rfl rfl rfl (by decide)) (k:=aV (k:=?_)))
  exact I6 λw hw=>⟨((w64 (n_4.tdiv 128)),(b_6++[(b8 (wu8 (w64 ((n_4.tmod 128)+128))))])),h,A19,c20,row18,slK,(hw.on [1]),(dR _),ho21,trivial⟩
 refine Ic ?_
 change WC _ _ _ _ _ _
 refine I4 (mV (k:=mV (k:=sV (gw J5 J6) (k:=?_))))
 refine bsV #[.int .u8 (wu8 n_4)] 5 λg22=>?_
 obtain⟨hk23,h⟩:=am h
 refine apV 1 [(b8 (wu8 n_4))] dq ho10 (Ip hk23) (λw hw=>bM (i:=0) rfl (by exact(by show [Value.int .u8 (wu8 n_4)] = [Value.int .u8 _]; rw [lx (sa _)])) hw) ?_
 intro row24 A25 c26 ho27
 refine aV (k:=I3 ?_)
 exact I8 λw hw=>re_ r [1] h hF hw ⟨A25,c26,row24,rfl,rfl,ho27,trivial⟩
abbrev rT(rowa:Rowb)(r:List UInt8)(U:List Rowb)(Γ:Gh)(v:Value):Prop := ∃(A0:Option Addr), ∃(c0:Nat), ∃(row0:Rowb),v = .slice A0 r.length c0∧U = [rowa,row0]∧Own av Γ 5 row0 A0 c0 r∧True
theorem ng{Aa:Option Addr}{ca:Nat}{rowa:Rowb}{a:List UInt8}(ha:Own av Γ 5 rowa Aa ca a){Ab:Option Addr}{cb:Nat}{b:List UInt8}(hb:Sl av Γ Ab b)(hbc:b.length≤cb)(hp:Pre [rowa] Γ w0){r:List UInt8}(h:eP a b=some r):Calls Tryz.prog 143 #[.slice Aa a.length ca,.slice Ab b.length cb] w0 (Outc Γ [rowa] w0 (rT rowa r)):=by
 refine goV [4] func143 ntmps143 results143 hp λF hF=>?_
 refine I4 (aV (k:=I3 (I4 (aV (k:=I3 (I4 (mV (k:=?_))))))))
 refine mV (k:=?_)
 refine WR.sub (λw hw=>hw.pad) ?_
 obtain⟨hk1,h⟩:=am h
 refine pr (T:=av) (xs:=[]) (ys:=a) dq (i:=0) rfl rfl rfl rfl (by kernel_rfl) rfl rfl (Own.nil av Γ 5) (Ip hk1) (λw hw=>lK (i:=1) rfl ha hw) ?_
 intro row2 A3 c4 ho5
 refine aV (k:=I3 (I4 (mV (k:=mV (k:=?_)))))
 obtain⟨hk6,h⟩:=am h
 refine apV 0 b dq ho5 (Ip hk6) (λw hw=>nc hb hw) ?_
 intro row7 A8 c9 ho10
 refine aV (k:=I3 (I4 (mV (k:=aV (k:=I3 ?_)))))
 exact I8 λw hw=>re_ r [1,0] h hF hw ⟨A8,c9,row7,rfl,rfl,ho10,trivial⟩
theorem vf{Ab:Option Addr}{cb:Nat}{b:List UInt8}(hb:Sl av Γ Ab b)(hbc:b.length≤cb)(hs:Sat Γ w0){r:Int}(h:kD b=some r):CQ Tryz.prog 142 #[.slice Ab b.length cb] w0 (.int .u32 r):=by
 refine goQ [2] func142 ntmps142 results142 hs λF hF=>?_
 refine I4 (aV (k:=I3 (I4 (aV (k:=I3 (I5 (I4 ?_)))))))
 refine aV (k:=I3 (Ia ?_))
 refine Ie h (λ(i3:Nat) (r_1:Int) σ w=>slots σ [(0,.slice Ab b.length cb),(3,.int .u32 r_1),(4,ii (i3:Int))]∧CC F Γ [] w∧True) ?_ ?_
 ·
  intro w hw
  exact⟨slK,hw,trivial⟩
 rintro f2 i3 r_1 σ w hi4 hlt5 hge6 ⟨hsl,hw,-⟩
 refine slV hsl hw [] ?_; clear hw hsl
 refine I5 (I4 (mV (k:=mV (k:=sV (ag rfl IZ) (k:=sV aG (k:=I3 ?_))))))
 refine coV (λhb7=>?_) (λhb7=>?_)
 ·
  have hl8:=ilt hb7
  have h:=hlt5 hl8
  refine I7 (wc_ (I5 (Ia (I4 (mV (k:=mV (k:=mV (k:=?_))))))))
  refine sV (aN (i:=i3) IZ J3 rfl rfl rfl hl8 (hb.some_ hl8)) (k:=sV (q_ld (c:=0) (v:=.int .u8 (((gt b i3).toNat:Nat):Int)) (hb.byteT_at hl8).2 rfl isAgg5 rfl rfl) (k:=sV (gw Ja J5) (k:=sV zw (k:=aV (k:=I3 (I4 (aV (k:=?_))))))))
  refine I3 (Ia ?_)
  refine Io h (λ(i11:Nat) (r_9:Int) σ w=>slots σ [(0,.slice Ab b.length cb),(3,.int .u32 r_9),(4,ii (i3:Int)),(5,ii (i11:Int))]∧CC F Γ [] w∧True) ?_ ?_
  ·
   intro w hw
   exact⟨slK,hw,trivial⟩
  rintro f10 i11 r_9 σ w hi12 hlt13 hge14 ⟨hsl,hw,-⟩
  refine slV hsl hw [] ?_; clear hw hsl
  refine I5 (I4 (mV (k:=sV aG (k:=I3 ?_))))
  refine coV (λhb15=>?_) (λhb15=>?_)
  ·
   have hl16:=ilt hb15
   have h:=hlt13 hl16
   refine I7 (wc_ ?_)
   refine Id (λσ w => ∃(r_17:Int),il f10 r_17=some r∧slots σ [(0,.slice Ab b.length cb),(3,.int .u32 r_17),(4,ii (i3:Int)),(5,ii (i11:Int))]∧CC F Γ [] w∧True) ?_ ?_
   ·
    refine Ia (I4 (mV (k:=sV (vx rfl rfl rfl (by decide)) (k:=sV bp (k:=I3 ?_)))))
    refine ciV h (λhb18 h=>?_) (λhb18 h=>?_)
    ·
     refine I9 ?_
     refine mV (k:=sV (tO rfl rfl rfl (by decide)) (k:=sV zw (k:=aV (k:=?_))))
     exact I6 λw hw=>⟨(ixor .u32 (wu32 (r_9.tdiv 2)) 3988292384),h,slK,hw,trivial⟩
    refine I9 ?_
    refine mV (k:=sV (tO rfl rfl rfl (by decide)) (k:=aV (k:=?_)))
    exact I6 λw hw=>⟨(wu32 (r_9.tdiv 2)),h,slK,hw,trivial⟩
   rintro σ w ⟨r_17,h,hsl,hw,-⟩
   refine slV hsl hw [] ?_; clear hw hsl
   refine I9 ?_
   refine mV (k:=sV (aF rfl rfl rfl (vP hl16 (by decide))) (k:=aV (k:=?_)))
   exact I6 λw hw=>⟨hl16,r_17,h,slK,hw,trivial⟩
  have h:=hge14 (ige hb15)
  refine Ic ?_
  change WC _ _ _ _ _ _
  refine I9 ?_
  refine mV (k:=sV (aF rfl rfl rfl (aJ hl8 hb.le)) (k:=aV (k:=?_)))
  exact I6 λw hw=>⟨hl8,r_9,h,slK,hw,trivial⟩
 have h:=hge6 (ige hb7)
 refine Ic ?_
 change WC _ _ _ _ _ _
 refine I4 (mV (k:=sV zw (k:=aV (k:=I3 ?_))))
 exact I8 λw hw=>rq_ r h hF hw
abbrev uY(r:List UInt8)(U:List Rowb)(Γ:Gh)(v:Value):Prop := ∃(A0:Option Addr), ∃(c0:Nat), ∃(row0:Rowb),v = .slice A0 r.length c0∧U = [row0]∧Own av Γ 5 row0 A0 c0 r∧True
theorem mh{Ab:Option Addr}{cb:Nat}{b:List UInt8}(hb:Sl av Γ Ab b)(hbc:b.length≤cb)(hp:Pre [] Γ w0){r:List UInt8}(h:eS b=some r):Calls Tryz.prog 92 #[.slice Ab b.length cb] w0 (Outc Γ [] w0 (uY r)):=by
 refine goV [2] func92 ntmps92 results92 hp λF hF=>?_
 refine I4 (aV (k:=I3 (I4 (mV (k:=sV (ag rfl IZ) (k:=?_))))))
 obtain⟨z1,hz2,h⟩:=bnd h
 refine ecV [] (caV call98) (λw hp=>iH (b.length:Int) (mL hb.le) hp hz2) ?_
 rintro Γ3 _ _ hl4 ⟨A7,c8,row9,rfl,rfl,hr10,_⟩
 refine cwV 7 [_] (aV (k:=I3 (I4 (mV (k:=mV (k:=?_))))))
 obtain⟨z11,hz12,h⟩:=bnd h
 refine ecV [0] (caV call143) (λw hp=>ng hr10 (hb.mono hl4) hbc hp hz12) ?_
 rintro Γ13 _ _ hl14 ⟨A17,c18,row19,rfl,rfl,hr20,_⟩
 refine cwV 10 [_,_] ?_
 obtain⟨z21,hz22,h⟩:=bnd h
 refine vqV (caV call142) (λw hw=>vf (Γ:=Gh.all w) (hr20.sl hw.sat.le_all (hw.ra 1 rfl)) hr20.capz (Sat.all w) hz22) (k:=aV (k:=I3 (I4 (mV (k:=mV (k:=sV (vx rfl rfl rfl (by decide)) (k:=sV (gw J5 Ja) (k:=?_))))))))
 refine mV (k:=sV (tO rfl rfl rfl (by decide)) (k:=sV (vx rfl rfl rfl (by decide)) (k:=sV (gw J5 Ja) (k:=mV (k:=sV (tO rfl rfl rfl (by decide)) (k:=sV (vx rfl rfl rfl (by decide)) (k:=sV (gw J5 Ja) (k:=?_))))))))
 refine mV (k:=sV (tO rfl rfl rfl (by decide)) (k:=sV (gw J5 Ja) (k:=?_)))
 refine bsV #[.int .u8 (wu8 (z21.tmod 256)),.int .u8 (wu8 ((wu32 (z21.tdiv 256)).tmod 256)),.int .u8 (wu8 ((wu32 (z21.tdiv 65536)).tmod 256)),.int .u8 (wu8 (wu32 (z21.tdiv 16777216)))] 5 λg23=>?_
 have ho24:Own av Γ13 5 [(g23,.cells #[.int .u8 (wu8 (z21.tmod 256)),.int .u8 (wu8 ((wu32 (z21.tdiv 256)).tmod 256)),.int .u8 (wu8 ((wu32 (z21.tdiv 65536)).tmod 256)),.int .u8 (wu8 (wu32 (z21.tdiv 16777216)))] 5 (0,0))] (some ⟨g23,0,none⟩) 4 [(b8 (wu8 (z21.tmod 256))),(b8 (wu8 ((wu32 (z21.tdiv 256)).tmod 256))),(b8 (wu8 ((wu32 (z21.tdiv 65536)).tmod 256))),(b8 (wu8 (wu32 (z21.tdiv 16777216))))]:=Ii (T:=av) (ys:=[(b8 (wu8 (z21.tmod 256))),(b8 (wu8 ((wu32 (z21.tdiv 256)).tmod 256))),(b8 (wu8 ((wu32 (z21.tdiv 65536)).tmod 256))),(b8 (wu8 (wu32 (z21.tdiv 16777216))))]) [[.int .u8 (wu8 (z21.tmod 256))],[.int .u8 (wu8 ((wu32 (z21.tdiv 256)).tmod 256))],[.int .u8 (wu8 ((wu32 (z21.tdiv 65536)).tmod 256))],[.int .u8 (wu8 (wu32 (z21.tdiv 16777216)))]] rfl (show 4≤lim by decide) ⟨(by show [Value.int .u8 (wu8 (z21.tmod 256))] = [Value.int .u8 _]; rw [lx (sa _)]),(by show [Value.int .u8 (wu8 ((wu32 (z21.tdiv 256)).tmod 256))] = [Value.int .u8 _]; rw [lx (sa _)]),(by show [Value.int .u8 (wu8 ((wu32 (z21.tdiv 65536)).tmod 256))] = [Value.int .u8 _]; rw [lx (sa _)]),(by show [Value.int .u8 (wu8 (wu32 (z21.tdiv 16777216)))] = [Value.int .u8 _]; rw [lx (sa _)]),trivial⟩
 obtain⟨hk25,h⟩:=am h
 refine apV 1 [(b8 (wu8 (z21.tmod 256))),(b8 (wu8 ((wu32 (z21.tdiv 256)).tmod 256))),(b8 (wu8 ((wu32 (z21.tdiv 65536)).tmod 256))),(b8 (wu8 (wu32 (z21.tdiv 16777216))))] dq (hr10.mono hl14) (Ip hk25) (λw hw=>lK (i:=0) rfl ho24 hw) ?_
 intro row26 A27 c28 ho29
 refine aV (k:=I3 (I4 (mV (k:=mV (k:=?_)))))
 obtain⟨z30,hz31,h⟩:=bnd h
 refine ecV [1] (caV call143) (λw hp=>ng ho29 (hb.mono (hl4.trans hl14)) hbc hp hz31) ?_
 rintro Γ32 _ _ hl33 ⟨A36,c37,row38,rfl,rfl,hr39,_⟩
 refine cwV 31 [_,_,_,_] (aV (k:=I3 ?_))
 exact I8 λw hw=>re_ r [1] h hF hw ⟨A36,c37,row38,rfl,rfl,hr39,trivial⟩
abbrev tX(r:(List UInt8)×Int×Int)(U:List Rowb)(Γ:Gh)(v:Value):Prop := ∃(A0:Option Addr), ∃(c0:Nat),v = .tuple #[.slice A0 r.1.length c0,.int .i64 r.2.1,.int .i64 r.2.2]∧U = []∧r.1.length≤c0∧Sl av Γ A0 r.1∧I64 r.2.1∧I64 r.2.2∧True
theorem tE{Ab:Option Addr}{cb:Nat}{b:List UInt8}(hb:Sl av Γ Ab b)(hbc:b.length≤cb)(at_:Int)(hat_:I64 at_)(hp:Pre [] Γ w0){r:(List UInt8)×Int×Int}(h:jR b at_=some r):Calls Tryz.prog 137 #[.slice Ab b.length cb,ii at_] w0 (Outc Γ [] w0 (tX r)):=by
 refine goV [4,5,6] func137 ntmps137 results137 hp λF hF=>?_
 refine I4 (aV (k:=aV (k:=aV (k:=I3 (I4 (mV (k:=mV (k:=?_))))))))
 obtain⟨z1,hz2,h⟩:=bnd h
 refine vqV (caV call132) (λw hw=>kr (Γ:=Gh.all w) (hb.mono hw.sat.le_all) hbc at_ hat_ (Sat.all w) hz2) (k:=mV (k:=sV exV (k:=sV exV (k:=sV exV (k:=aV (k:=aV (k:=aV (k:=?_))))))))
 refine I3 (I5 (I4 (mV (k:=sV bD (k:=I3 ?_)))))
 refine ciV h (λhb3 h=>?_) (λhb3 h=>?_)
 ·
  refine I4 (mV (k:=aV (k:=aV (k:=aV (k:=I3 ?_)))))
  refine I8 ?_
  intro w hw
  obtain⟨hk4,h⟩:=am h
  cases h
  subst hF
  exact aL (is:=[]) (by kernel_rfl) hw rfl ⟨none,0,rfl,rfl,(IH 0),(Sl.nil av _ none),iV,(gM hk4),trivial⟩
 refine I7 (wc_ (I5 (I4 (mV (k:=sV bi (k:=I3 ?_))))))
 refine ciV h (λhb5 h=>?_) (λhb5 h=>?_)
 ·
  refine I4 (aV (k:=aV (k:=aV (k:=I3 ?_))))
  exact I8 λw hw=>re_ r [] h hF hw ⟨none,0,rfl,rfl,(IH 0),(Sl.nil av _ none),iV,iV,trivial⟩
 refine I7 (wc_ (I5 (I4 (mV (k:=sV (ag rfl IZ) (k:=mV (k:=sV fO (k:=?_))))))))
 refine mV (k:=sV bR (k:=sV aG (k:=I3 ?_)))
 refine ciV h (λhb6 h=>?_) (λhb6 h=>?_)
 ·
  refine I4 (aV (k:=aV (k:=aV (k:=I3 ?_))))
  exact I8 λw hw=>re_ r [] h hF hw ⟨none,0,rfl,rfl,(IH 0),(Sl.nil av _ none),iV,iV,trivial⟩
 refine I7 (wc_ (I4 (mV (k:=sV bR (k:=mV (k:=sV bR (k:=aV (k:=?_))))))))
 refine I3 (I4 (mV (k:=mV (k:=sV bR (k:=mV (k:=?_))))))
 obtain⟨hk7,h⟩:=am h
 obtain⟨hk8,h⟩:=am h
 obtain⟨hk9,h⟩:=am h
 refine sV (xW (c:=cb) (lo:=(w64 (z1.2.1+4)).toNat) (hi:=(w64 ((w64 (z1.2.1+4))+z1.1)).toNat) (xs:=b) IZ J3 rfl rfl (yb rfl hk8) (fU rfl hk7) (Ip hk9) (bC hk7) hbc) (k:=?_)
 obtain⟨z10,hz11,h⟩:=bnd h
 refine ecV [] (caV call143) (λw hp=>uo (Sl.nil av _ none) (IH 0) (hb.cut (cap:=cb) (lo:=(w64 (z1.2.1+4)).toNat) (hi:=(w64 ((w64 (z1.2.1+4))+z1.1)).toNat) (Ip hk9) (bC hk7) hbc) (wW hbc ((w64 (z1.2.1+4)).toNat) ((w64 ((w64 (z1.2.1+4))+z1.1)).toNat)) hp hz11) ?_
 rintro Γ12 _ _ hl13 ⟨A16,c17,row18,rfl,rfl,hr19,_⟩
 refine cwV 40 [_] (aV (k:=I3 (I5 (I5 ?_))))
 have hc24:=hr19.capz
 refine seC 0 [_] λΓ20 hl21 hr22=>?_
 have hs23:=hr19.sl hl21 hr22
 refine leV λh025=>?_
 refine dW (CC F Γ20 [[]]) (bo_ [0] gR h025) λk=>?_
 change WH _ _ _ _ (CC F Γ20 [_]) _ 9 _ _
 refine hV 0 k (q:=moV) (k:=hV 3 k (q:=moV) (k:=hV 4 k (q:=moV) (k:=hV 5 k (q:=moV) (k:=?_))))
 obtain⟨hk26,h⟩:=am h
 obtain⟨hk27,h⟩:=am h
 refine hV 6 k (q:=xW (c:=cb) (lo:=at_.toNat) (hi:=(w64 ((w64 (z1.2.1+4))+z1.1)).toNat) (xs:=b) IZ J3 rfl rfl (yb rfl hk26) (fU rfl hk7) (Ip hk27) (bC hk7) hbc) (k:=hV 7 k (q:=wC ((hb.mono (hl13.trans hl21)).cut (cap:=cb) (lo:=at_.toNat) (hi:=(w64 ((w64 (z1.2.1+4))+z1.1)).toNat) (Ip hk27) (bC hk7) hbc) IZ J5 IX rfl rfl) (k:=wl_ 1 rfl ?_))
 obtain⟨z28,hz29,h⟩:=bnd h
 refine ecV [] (caV call92) (λw hp=>mh hs23 hc24 hp hz29) ?_
 rintro Γ30 _ _ hl31 ⟨A34,c35,row36,rfl,rfl,hr37,_⟩
 refine cwV 42 [_,_] ?_
 refine I6 (nxV (bo_ [1] hl31 h025) λk=>?_)
 refine wl_ 2 rfl (sV (Cc (i:=0) rfl hr37 IZ J5 IX rfl rfl) (k:=?_))
 refine I6 (nxV (bo_ [1] hl31 h025) λk=>?_)
 refine hV 8 k (q:=qS) (k:=?_)
 refine Ig (by kernel_rfl) ?_
 change WC _ _ _ _ _ _
 refine ciV h (λhb38 h=>?_) (λhb38 h=>?_)
 ·
  refine I4 (aV (k:=aV (k:=aV (k:=I3 ?_))))
  exact I8 λw hw=>re_ r [] h hF hw ⟨none,0,rfl,rfl,(IH 0),(Sl.nil av _ none),iV,iV,trivial⟩
 refine I7 (wc_ (I4 (mV (k:=mV (k:=aV (k:=aV (k:=aV (k:=?_))))))))
 refine I3 ?_
 exact I8 λw hw=>re_ r [] h hF hw ⟨A16,c17,rfl,rfl,hc24,(hs23.mono hl31),(dR _),iV,trivial⟩
abbrev ur(r:(List (List UInt8))×Int×Int)(U:List Rowb)(Γ:Gh)(v:Value):Prop := ∃(A0:Option Addr), ∃(c0:Nat), ∃(row0:Rowb),v = .tuple #[.slice A0 r.1.length c0,.int .i64 r.2.1,.int .i64 r.2.2]∧U = [row0]∧Own (slT av) Γ 51 row0 A0 c0 r.1∧I64 r.2.1∧I64 r.2.2∧True
theorem oE{Ab:Option Addr}{cb:Nat}{b:List UInt8}(hb:Sl av Γ Ab b)(hbc:b.length≤cb)(hp:Pre [] Γ w0){r:(List (List UInt8))×Int×Int}(h:iR b=some r):Calls Tryz.prog 90 #[.slice Ab b.length cb] w0 (Outc Γ [] w0 (ur r)):=by
 refine goV [2,3,4] func90 ntmps90 results90 hp λF hF=>?_
 refine I4 (aV (k:=aV (k:=aV (k:=I3 (I4 (aV (k:=I3 ?_)))))))
 refine I4 (aV (k:=I3 (I5 (Ia ?_))))
 refine Il h (λ(s:(List (List UInt8))×Int) σ w=>match s with | (out_3,at_8) => ∃(Γ1:Gh), ∃(A4:Option Addr), ∃(c5:Nat), ∃(row6:Rowb),slots σ [(0,.slice Ab b.length cb),(5,.slice A4 out_3.length c5),(6,ii at_8)]∧CC F Γ1 [row6] w∧Gh.le Γ Γ1∧Own (slT av) Γ1 51 row6 A4 c5 out_3∧I64 at_8∧True) ?_ ?_
 ·
  intro w hw
  have hw:=hw.pad
  exact⟨Γ,none,0,[],slK,hw,gR,(Own.nil (slT av) _ 51),iV,trivial⟩
 rintro f10 ⟨out_3,at_8⟩ σ w h ⟨Γ1,A4,c5,row6,hsl,hw,hl2,ho7,hr9,-⟩
 refine slV hsl hw [_] ?_; clear hw hsl
 refine I5 (I4 (mV (k:=mV (k:=sV (ag rfl IZ) (k:=sV aG (k:=I3 ?_))))))
 refine ciV h (λhb14 h=>?_) (λhb14 h=>?_)
 ·
  refine I7 (wc_ (Ia (I4 (mV (k:=mV (k:=?_))))))
  obtain⟨z15,hz16,h⟩:=bnd h
  refine ecV [] (caV call137) (λw hp=>tE (hb.mono hl2) hbc at_8 hr9 hp hz16) ?_
  rintro Γ17 _ _ hl18 ⟨A21,c22,rfl,rfl,hc24,hr23,hr25,hr26,_⟩
  refine cwV 17 [_] (mV (k:=sV exV (k:=sV exV (k:=sV exV (k:=aV (k:=aV (k:=aV (k:=?_))))))))
  refine I3 (I5 (I4 (mV (k:=sV bD (k:=I3 ?_)))))
  refine ciV h (λhb27 h=>?_) (λhb27 h=>?_)
  ·
   refine I4 (mV (k:=mV (k:=mV (k:=aV (k:=aV (k:=aV (k:=I3 ?_)))))))
   exact I8 λw hw=>re_ r [0] h hF hw ⟨A4,c5,row6,rfl,rfl,(ho7.mono hl18),hr9,hr26,trivial⟩
  refine I7 (wc_ (I4 (mV (k:=mV (k:=?_)))))
  refine bsV #[.slice A21 z15.1.length c22] 51 λg28=>?_
  obtain⟨hk29,h⟩:=am h
  refine apV 1 [z15.1] rG (ho7.mono hl18) (Ip hk29) (λw hw=>bM (i:=0) rfl (by exact⟨A21,c22,rfl,hc24,hr23⟩) hw) ?_
  intro row30 A31 c32 ho33
  refine aV (k:=I3 ?_)
  refine I9 ?_
  refine mV (k:=aV (k:=?_))
  exact I6 λw hw=>⟨((out_3++[z15.1]),z15.2.1),h,Γ17,A31,c32,row30,slK,(hw.on [1]),(hl2.trans hl18),ho33,hr25,trivial⟩
 refine Ic ?_
 change WC _ _ _ _ _ _
 refine I4 (mV (k:=mV (k:=aV (k:=aV (k:=aV (k:=I3 ?_))))))
 exact I8 λw hw=>re_ r [0] h hF hw ⟨A4,c5,row6,rfl,rfl,ho7,hr9,iV,trivial⟩
abbrev r_firthref09_holds(gd:Nat)(ed:Nat)(rowd:Rowb)(r:Int×Int×Int)(U:List Rowb)(Γ:Gh)(v:Value):Prop:=v = .tuple #[.int .i64 r.1,.int .i64 r.2.1,.int .i64 r.2.2]∧U = [rowd]∧I64 r.1∧I64 r.2.1∧I64 r.2.2∧True
theorem t_firthref09_holds{gd ed:Nat}{rowd:Rowb}{d:a7}(hd:a7.ob ed Γ gd rowd d)(name:ByteArray)(hname:name.size≤lim)(hp:Pre [rowd] Γ w0){r:Int×Int×Int}(h:m_firthref09_holds d name=some r):Calls Tryz.prog 85 #[(pq gd),.string name] w0 (Outc Γ [rowd] w0 (r_firthref09_holds gd ed rowd r)):=by
 refine goV [4,5,6] func85 ntmps85 results85 hp λF hF=>?_
 refine I4 (aV (k:=aV (k:=aV (k:=I3 (I4 (mV (k:=mV (k:=?_))))))))
 refine sV (kK rfl rfl rfl hname (show (⟨#[46,109]⟩:ByteArray).size≤lim by decide)) (k:=?_)
 obtain⟨hk1,h⟩:=am h
 obtain⟨z2,hz3,h⟩:=bnd h
 refine ecV [0] (caV call89) (λw hp=>jr hd (name++(⟨#[46,109]⟩:ByteArray)) (Ip hk1) hp hz3) ?_
 rintro Γ4 _ _ hl5 ⟨A8,c9,row10,rfl,rfl,hr11,_⟩
 refine cwV 21 [_,_] (mV (k:=sV exV (k:=sV exV (k:=aV (k:=aV (k:=I3 (I4 ?_)))))))
 refine mV (k:=?_)
 have hc16:=hr11.capz
 refine seR 1 [_,_] λΓ12 hl13 hr14=>?_
 have hs15:=hr11.sl hl13 hr14
 obtain⟨z17,hz18,h⟩:=bnd h
 refine ecV [] (caV call90) (λw hp=>oE hs15 hc16 hp hz18) ?_
 rintro Γ19 _ _ hl20 ⟨A23,c24,row25,rfl,rfl,hr26,hr27,hr28,_⟩
 refine cwV 26 [_,_,_] (mV (k:=sV exV (k:=sV exV (k:=sV exV (k:=aV (k:=aV (k:=aV (k:=?_))))))))
 refine I3 (I4 (aV (k:=I3 (I5 (I4 (aV (k:=I3 ?_)))))))
 refine Ia ?_
 refine Ie h (λ(i31:Nat) (gen_29:Int) σ w=>slots σ [(9,.slice A23 z17.1.length c24),(10,ii z17.2.1),(12,ii gen_29),(13,ii (i31:Int))]∧CC F Γ19 [row25,rowd] w∧True) ?_ ?_
 ·
  intro w hw
  exact⟨slK,(hw.on [0,0]),trivial⟩
 rintro f30 i31 gen_29 σ w hi32 hlt33 hge34 ⟨hsl,hw,-⟩
 refine slV hsl hw [_,_] ?_; clear hw hsl
 refine I5 (I4 (mV (k:=mV (k:=sV (ag rfl J7) (k:=sV aG (k:=I3 ?_))))))
 refine coV (λhb35=>?_) (λhb35=>?_)
 ·
  have hl36:=ilt hb35
  have h:=hlt33 hl36
  refine I7 (wc_ (I5 (Ia (I4 (mV (k:=mV (k:=sV (aN (i:=i31) J7 J8 rfl rfl rfl hl36 (hr26.some_ hl36)) (k:=?_))))))))
  obtain⟨A37,c38,hx39⟩:=hr26.slT_at i31
  refine sV (lQ (c:=0) (v:=.slice A37 (gt z17.1 i31).length c38) (i:=0) rfl (hx39 hl36).2 rfl J9 rfl rfl) (k:=?_)
  obtain⟨z40,hz41,h⟩:=bnd h
  refine vqV (caV call132) (λw hw=>kr (Γ:=Gh.all w) ((hx39 hl36).1.2.mono hw.sat.le_all) (hx39 hl36).1.1 0 iV (Sat.all w) hz41) (k:=mV (k:=sV exV (k:=sV exV (k:=sV exV (k:=aV (k:=aV (k:=aV (k:=?_))))))))
  refine I3 (I5 (I4 (mV (k:=sV bD (k:=mV (k:=vG0 (h:=λhg42=>moV) (k:=vG0 (h:=λhg43=>moV) (k:=?_))))))))
  refine vG0 (h:=λhg44=>moV) (k:=vG0 (h:=λhg45=>aN (i:=i31) J7 J8 rfl (grV hg45) (grV hg45) hl36 (hr26.some_ hl36)) (k:=vG0 (h:=λhg46=>lQ (c:=0) (v:=.slice A37 (gt z17.1 i31).length c38) (i:=0) rfl (hx39 hl36).2 rfl J9 (grV hg46) rfl) (k:=vG0 (h:=λhg47=>ag rfl IZ (grV hg47)) (k:=vG0 (h:=λhg48=>bD rfl (grV hg48) (grV hg48)) (k:=sV pkO (k:=mV (k:=vG0 (h:=λhg49=>moV) (k:=?_))))))))
  refine vG0 (h:=λhg50=>aG rfl (grV hg50)) (k:=sV pkO (k:=mV (k:=vG0 (h:=λhg51=>moV) (k:=vG0 (h:=λhg52=>bi rfl (grV hg52)) (k:=sV pkO (k:=I3 ?_))))))
  refine ciV h (λhb53 h=>?_) (λhb53 h=>?_)
  ·
   refine I4 (aV (k:=aV (k:=aV (k:=I3 ?_))))
   exact I8 λw hw=>re_ r [1] h hF hw ⟨rfl,rfl,iV,iV,iV,trivial⟩
  refine I7 (wc_ ?_)
  refine I9 ?_
  refine mV (k:=aV (k:=?_))
  refine I6 ?_
  change WC _ _ _ _ _ _
  refine I9 ?_
  refine mV (k:=sV (aF rfl rfl rfl (aJ hl36 hr26.le)) (k:=aV (k:=?_)))
  exact I6 λw hw=>⟨hl36,z40.1,h,slK,hw,trivial⟩
 have h:=hge34 (ige hb35)
 refine Ic ?_
 change WC _ _ _ _ _ _
 refine I4 (mV (k:=mV (k:=aV (k:=aV (k:=aV (k:=I3 ?_))))))
 refine I8 ?_
 intro w hw
 obtain⟨hk54,h⟩:=am h
 cases h
 subst hF
 exact aL (is:=[1]) (by kernel_rfl) hw rfl ⟨rfl,rfl,(gM hk54),hr27,iV,trivial⟩
theorem nJ(s_:ByteArray)(hs_:s_.size≤lim)(hs:Sat Γ w0){r:Bool}(h:gr s_=some r):CQ Tryz.prog 105 #[.string s_] w0 (.bool r):=by
 refine goQ [2] func105 ntmps105 results105 hs λF hF=>?_
 refine I4 (aV (k:=I3 (I4 (mV (k:=sV nH (k:=mV (k:=vG0 (h:=λhg1=>moV) (k:=?_))))))))
 refine vG0 (h:=λhg2=>bg rfl IX (grV hg2)) (k:=vG0 (h:=λhg3=>bi rfl (grV hg3)) (k:=sV pkO (k:=aV (k:=I3 ?_))))
 exact I8 λw hw=>rq_ r h hF hw
abbrev pX(gd:Nat)(ed:Nat)(rowd:Rowb)(r:Int)(U:List Rowb)(Γ:Gh)(v:Value):Prop:=v = .int .i64 r∧U = [rowd]∧I64 r∧True
theorem pO{gd ed:Nat}{rowd:Rowb}{d:a7}(hd:a7.ob ed Γ gd rowd d)(hp:Pre [rowd] Γ w0){r:Int}(h:fY d=some r):Calls Tryz.prog 107 #[(pq gd)] w0 (Outc Γ [rowd] w0 (pX gd ed rowd r)):=by
 refine goV [2] func107 ntmps107 results107 hp λF hF=>?_
 refine I4 (aV (k:=I3 (I4 (aV (k:=I3 (I4 (mV (k:=?_))))))))
 obtain⟨z1,hz2,h⟩:=bnd h
 refine ecV [0] (caV call26) (λw hp=>bh hd hp hz2) ?_
 rintro Γ3 _ _ hl4 ⟨A7,c8,rfl,rfl,hc10,hr9,_⟩
 refine cwV 7 [_] (aV (k:=I3 (I5 (I4 (aV (k:=I3 (Ia ?_)))))))
 refine Ie h (λ(i14:Nat) (n_11:Int) σ w=>slots σ [(3,ii n_11),(4,.slice A7 z1.length c8),(5,ii (i14:Int))]∧CC F Γ3 [rowd] w∧I64 n_11∧True) ?_ ?_
 ·
  intro w hw
  exact⟨slK,hw,iV,trivial⟩
 rintro f13 i14 n_11 σ w hi15 hlt16 hge17 ⟨hsl,hw,hr12,-⟩
 refine slV hsl hw [_] ?_; clear hw hsl
 refine I5 (I4 (mV (k:=mV (k:=sV (ag rfl JP) (k:=sV aG (k:=I3 ?_))))))
 refine coV (λhb18=>?_) (λhb18=>?_)
 ·
  have hl19:=ilt hb18
  have h:=hlt16 hl19
  refine I7 (wc_ (I5 (Ia ?_)))
  refine I9 ?_
  refine mV (k:=mV (k:=mV (k:=sV (aN (i:=i14) JP JQ rfl rfl rfl hl19 (hr9.some_ hl19)) (k:=sV (ay (i14*2+1) pj rfl rfl (hr9.some_ hl19) rfl) (k:=?_)))))
  obtain⟨A20,c21,hx22⟩:=hr9.dfirthref07_FileT_at i14
  refine sV (q_ld (c:=1) (v:=.slice A20 ((gt z1 i14).data).length c21) (hx22 hl19).2 rfl J9 rfl rfl) (k:=sV (ag rfl IZ) (k:=sV bR (k:=aV (k:=?_))))
  refine I6 ?_
  change WC _ _ _ _ _ _
  refine I9 ?_
  refine mV (k:=sV (aF rfl rfl rfl (aJ hl19 hr9.le)) (k:=aV (k:=?_)))
  exact I6 λw hw=>⟨hl19,(w64 (n_11+((((gt z1 i14).data).length:Nat):Int))),h,slK,hw,(dR _),trivial⟩
 have h:=hge17 (ige hb18)
 refine Ic ?_
 change WC _ _ _ _ _ _
 refine I4 (mV (k:=aV (k:=I3 ?_)))
 exact I8 λw hw=>re_ r [0] h hF hw ⟨rfl,rfl,hr12,trivial⟩
abbrev qz(gd:Nat)(ed:Nat)(r:a7×Int)(U:List Rowb)(Γ:Gh)(v:Value):Prop := ∃(rowd':Rowb),v = .int .i64 r.2∧U = [rowd']∧a7.ob ed Γ gd rowd' r.1∧I64 r.2∧True
theorem ko{gd ed:Nat}{rowd:Rowb}{d:a7}(hd:a7.ob ed Γ gd rowd d){Ac_3:Option Addr}{cc_3:Nat}(c_:ak)(hc_:ak.fits Γ Ac_3 cc_3 c_)(hp:Pre [rowd] Γ w0){r:a7×Int}(h:dA d c_=some r):Calls Tryz.prog 57 #[(pq gd),.agg (ak.cs Ac_3 cc_3 c_).toArray] w0 (Outc Γ [rowd] w0 (qz gd ed r)):=by
 refine goV [4] func57 ntmps57 results57 hp λF hF=>?_
 refine I4 ?_
 refine bxV (v:=.agg (ak.cs Ac_3 cc_3 c_).toArray) λg1=>?_
 refine aV (k:=I3 (I5 (I4 (sV (q_fl 1 ku) (k:=sV (ldV 0 IY) (k:=?_))))))
 obtain⟨z2,hz3,h⟩:=bnd h
 refine vqV (caV call105) (λw hw=>nJ (Γ:=Gh.all w) c_.name hc_.2.1 (Sat.all w) hz3) (k:=mV (k:=vG0 (h:=λhg4=>q_fl 0 oN) (k:=vG0 (h:=λhg5=>ldV 0 Jc (hx:=grV hg5)) (k:=vG0 (h:=λhg6=>bp rfl (grV hg6)) (k:=vG0 (h:=λhg7=>bv (v:=.bool (c_.kind==3)) rfl (grV hg7)) (k:=vh1 (c0:=(!z2)) (g:=(c_.kind==3)) rfl rfl rfl rfl rfl (λ_=>QV.qo (q_fl 2 xD)) (vh1 (c0:=(!z2)) (g:=(c_.kind==3)) rfl rfl rfl rfl rfl (λhg9=>QV.qo (ldV 0 IY (hx:=grV hg9))) ?_)))))))
 obtain⟨z11,hz12,h⟩:=bnd h
 refine vh1 (c0:=(!z2)) (g:=(c_.kind==3)) rfl rfl rfl rfl rfl (λhg10=>(bK (bb call105 rfl rfl (lT (grV hg10))) (λw hw=>nJ (Γ:=Gh.all w) c_.to_ hc_.2.2.1 (Sat.all w) (jv hz12 hg10)))) (vG0 (h:=λhg13=>gq rfl (grV hg13) (ly (c:=(!z2)) (g:=(c_.kind==3)) (y:=z11) hg13)) (k:=sV pkO (k:=I3 ?_)))
 refine ciV h (λhb14 h=>?_) (λhb14 h=>?_)
 ·
  refine I4 (aV (k:=I3 ?_))
  exact I8 λw hw=>re_ r [1] h hF hw ⟨rowd,rfl,rfl,hd,iV,trivial⟩
 refine I7 (wc_ (I4 (mV (k:=?_))))
 obtain⟨z15,hz16,h⟩:=bnd h
 refine ecV [1] (caV call26) (λw hp=>bh hd hp hz16) ?_
 rintro Γ17 _ _ hl18 ⟨A21,c22,rfl,rfl,hc24,hr23,_⟩
 refine cwV 22 [_,_] (aV (k:=I3 (I4 (mV (k:=sV (q_fl 1 ku) (k:=sV (ldV 1 IY) (k:=?_)))))))
 obtain⟨z25,hz26,h⟩:=bnd h
 refine vqV (caV call106) (λw hw=>lP (Γ:=Gh.all w) (hr23.mono hw.sat.le_all) hc24 c_.name hc_.2.1 (Sat.all w) hz26) (k:=aV (k:=I3 ?_))
 refine Id (λσ w => ∃(Γ27:Gh),bx d c_  = some r∧slots σ [(0,(pq gd)),(3,(pq g1))]∧CC F Γ27 [rowd,[(g1,.cells (ak.cs Ac_3 cc_3 c_).toArray 119 (0,0))]] w∧Gh.le Γ17 Γ27∧True) ?_ ?_
 ·
  refine Ia (I4 (sV (q_fl 0 oN) (k:=sV (ldV 1 Jc) (k:=sV bp (k:=aV (k:=I3 ?_))))))
  refine ciV h (λhb29 h=>?_) (λhb29 h=>?_)
  ·
   refine Id (λσ w => ∃(x_32:Bool), ∃(Γ30:Gh),fy d c_ x_32=some r∧slots σ [(0,(pq gd)),(3,(pq g1)),(41,.bool x_32)]∧CC F Γ30 [rowd,[(g1,.cells (ak.cs Ac_3 cc_3 c_).toArray 119 (0,0))]] w∧Gh.le Γ17 Γ30∧True) ?_ ?_
   ·
    obtain⟨A1_33,c1_33,A2_33,c2_33,r2_33,hrow_33,ho0_33,ho1_33,ho2_33,ho3_33,-⟩:=(hd.mono hl18)
    refine ufC 0 hrow_33 [_,_,_] ?_
    refine leV λh034=>?_
    refine dW (CC F Γ17 [[(gd,.cells #[ii d.room,.slice A1_33 d.safe_.length c1_33,.slice A2_33 d.todo.length c2_33] ed (0,0))],r2_33,[(g1,.cells (ak.cs Ac_3 cc_3 c_).toArray 119 (0,0))]]) (bo_ [0,0,0] gR h034) λk=>?_
    change WH _ _ _ _ (CC F Γ17 [_,_,_]) _ 11 _ _
    refine hV 0 k (q:=q_fl 3 lf) (k:=hV 1 k (q:=ldV 2 J9) (k:=hV 2 k (q:=ag rfl IZ) (k:=hV 3 k (q:=moV) (k:=hV 4 k (q:=nlV) (k:=hV 5 k (q:=q_fl 0 DM) (k:=hV 6 k (q:=ldV 0 Jc) (k:=hV 7 k (q:=moV) (k:=?_))))))))
    refine wl_ 8 rfl ?_
    refine foR [0,0] hrow_33 [_,_] ?_
    obtain⟨z36,hz37,h⟩:=bnd h
    refine ecV [0] (caV call107) (λw hp=>pO (hd.mono hl18) hp hz37) ?_
    rintro Γ38 _ _ hl39 ⟨rfl,rfl,hr42,_⟩
    refine cwV 39 [_,_] ?_
    refine I6 (nxV (λw hw=>(hw.unfold (i:=0) rfl hrow_33).back hl39 h034 (.cons_cons _ (.cons_cons _ (.cons_cons _ .slnil)))) λk=>?_)
    refine hV 9 k (q:=fO) (k:=hV 10 k (q:=bi) (k:=?_))
    refine Ig (by kernel_rfl) ?_
    intro w hw
    exact⟨(decide ((w64 (d.room - z36))<(c_.data.length:Int))),Γ38,h,slK,hw,hl39,trivial⟩
   rintro σ w ⟨x_32,Γ30,h,hsl,hw,hl31,-⟩
   refine slV hsl hw [_,_] ?_; clear hw hsl
   refine ciV h (λhb43 h=>?_) (λhb43 h=>?_)
   ·
    refine I4 (aV (k:=I3 ?_))
    exact I8 λw hw=>re_ r [0] h hF hw ⟨rowd,rfl,rfl,(hd.mono (hl18.trans hl31)),iV,trivial⟩
   exact I7 λw hw=>⟨Γ30,h,slK,hw,hl31,trivial⟩
  refine I4 (mV (k:=sV aG (k:=aV (k:=I3 ?_))))
  refine ciV h (λhb44 h=>?_) (λhb44 h=>?_)
  ·
   refine I4 (aV (k:=I3 ?_))
   exact I8 λw hw=>re_ r [0] h hF hw ⟨rowd,rfl,rfl,(hd.mono hl18),iV,trivial⟩
  refine I4 (sV (q_fl 0 oN) (k:=sV (ldV 1 Jc) (k:=sV bp (k:=aV (k:=I3 ?_)))))
  refine ciV h (λhb45 h=>?_) (λhb45 h=>?_)
  ·
   refine I5 ?_
   refine drV ?_
   refine zV (q_fl 4 uv) (k:=zV (ldV 1 Jc) (k:=zV aG (k:=zV moV (k:=wG0 (h:=λhg46=>q_fl 4 uv) (k:=wG0 (h:=λhg47=>ldV 1 Jc (hx:=grV hg47)) (k:=wG0 (h:=λhg48=>moV) (k:=wG0 (h:=λhg49=>moV) (k:=?_))))))))
   obtain⟨hk51,h⟩:=am h
   refine wG0 (h:=λhg50=>q_ix JP JQ rfl (grV hg50) (grV hg50) (b5 hk51 hg50) (hr23.some_ (bc (b5 hk51 hg50)))) (k:=wG0 (h:=λhg52=>ay (z25.toNat*2+1) pj rfl (grV hg52) (hr23.some_ (bc (b5 hk51 hg52))) rfl) (k:=?_))
   obtain⟨A54,c55,hx56⟩:=hr23.dfirthref07_FileT_at z25.toNat
   refine wG0 (h:=λhg53=>q_ld (c:=1) (v:=.slice A54 ((gt z15 z25.toNat).data).length c55) (hx56 (bc (b5 hk51 hg53))).2 rfl J9 (grV hg53) rfl) (k:=wG0 (h:=λhg57=>ag rfl IZ (grV hg57)) (k:=wG0 (h:=λhg58=>bi rfl (grV hg58) (grV hg58)) (k:=zV pkO (k:=?_))))
   refine Ij ?_
   change WC _ _ _ _ _ _
   refine ciV h (λhb59 h=>?_) (λhb59 h=>?_)
   ·
    refine I4 (aV (k:=I3 ?_))
    exact I8 λw hw=>re_ r [0] h hF hw ⟨rowd,rfl,rfl,(hd.mono hl18),iV,trivial⟩
   exact I7 λw hw=>⟨Γ17,h,slK,hw,gR,trivial⟩
  exact I7 λw hw=>⟨Γ17,h,slK,hw,gR,trivial⟩
 rintro σ w ⟨Γ27,h,hsl,hw,hl28,-⟩
 refine slV hsl hw [_,_] ?_; clear hw hsl
 refine I4 (aV (k:=I3 (I4 (mV (k:=sV (q_fl 3 lf) (k:=sV (ldV 1 J9) (k:=?_)))))))
 refine WR.sub (λw hw=>hw.pad) ?_
 obtain⟨hk60,h⟩:=am h
 refine pr (T:=av) (xs:=[]) (ys:=c_.data) dq (i:=0) rfl rfl rfl rfl (by kernel_rfl) rfl rfl (Own.nil av Γ27 5) (Ip hk60) (λw hw=>nc (hc_.2.2.2.1.2.mono (hl18.trans hl28)) hw) ?_
 intro row61 A62 c63 ho64
 refine aV (k:=I3 (I4 (mV (k:=sV (q_fl 3 lf) (k:=stV 2 (.slice A62 c_.data.length c63) (ak.cs A62 c63 c_).toArray J8 (k:=I3 (I5 ?_)))))))
 refine leV λh065=>?_
 refine dW (CC F Γ27 [[(g1,.cells (ak.cs A62 c63 c_).toArray 119 (0,0))]]) (bo_ [2] gR h065) λk=>?_
 change WH _ _ _ _ (CC F Γ27 [_,_,_]) _ 11 _ _
 refine hV 0 k (q:=moV) (k:=hV 1 k (q:=moV) (k:=hV 2 k (q:=nlV) (k:=hV 3 k (q:=q_fl 2 ki) (k:=hV 5 k (q:=ldaV 0 (ak.cs A62 c63 c_) isAgg119 JT) (k:=?_)))))
 refine WH.each (l:=[4,6]) (by kernel_rfl) (by simp) ?_
 intro i hi; simp only [Ix,List.not_mem_nil,or_false] at hi
 rcases hi with rfl | rfl
 ·
  refine⟨_,rfl,?_⟩
  obtain⟨A1_66,c1_66,A2_66,c2_66,r2_66,hrow_66,ho0_66,ho1_66,ho2_66,ho3_66,-⟩:=(hd.mono (hl18.trans hl28))
  refine ufR 1 hrow_66 [_,_,_,_] ?_
  refine sV (ldV 0 JR) (k:=?_)
  refine I6 (nxV (bo_ [3] gR h065) λk=>?_)
  refine wl_ 6 rfl ?_
  have hc71:=ho64.capz
  refine seR 2 [_,_,_,_] λΓ67 hl68 hr69=>?_
  have hs70:=ho64.sl hl68 hr69
  refine bsV (ak.cs A62 c63 c_).toArray 119 λg72=>?_
  refine I6 (nxV (bo_ [4] hl68 h065) λk=>?_)
  refine wl_ 7 rfl ?_
  obtain⟨hk73,h⟩:=am h
  refine apV 2 [c_] BN (ho3_66.mono hl68) (Ip hk73) (λw hw=>bM (i:=0) rfl (by exact⟨A62,c63,rfl,⟨hc_.1,hc_.2.1,hc_.2.2.1,⟨hc71,hs70⟩,hc_.2.2.2.2⟩⟩) hw) ?_
  intro row74 A75 c76 ho77
  refine I6 (nxV (bo_ [4] hl68 h065) λk=>?_)
  refine hV 8 k (q:=nlV) (k:=hV 9 k (q:=q_fl 2 ki) (k:=wl_ 10 rfl (stV 1 (.slice A75 (d.todo++[c_]).length c76) #[ii d.room,.slice A1_66 d.safe_.length c1_66,.slice A75 (d.todo++[c_]).length c76] sizeOf94 (k:=?_))))
  refine I6 (nxV (bo_ [4] hl68 h065) λk=>?_)
  refine Ig (by kernel_rfl) ?_
  change WC _ _ _ _ _ _
  refine I4 (aV (k:=I3 ?_))
  refine I8 ?_
  intro w hw
  obtain⟨row_78,hrow_78,hob_78⟩:∃rw:Rowb,rw=([[(gd,.cells #[ii d.room,.slice A1_66 d.safe_.length c1_66,.slice A75 (d.todo++[c_]).length c76] ed (0,0))],row74]:List Rowb).flatten∧a7.ob ed Γ67 gd rw (⟨d.room,d.safe_,(d.todo++[c_])⟩:a7):=⟨_,rfl,A1_66,c1_66,A75,c76,row74,rfl,ho0_66,ho1_66,(ho2_66.mono hl68),ho77,trivial⟩
  have hw:=hw.fold (is:=[1,1]) rfl hrow_78
  cases h
  subst hF
  exact aL (is:=[0]) (by kernel_rfl) hw rfl ⟨row_78,rfl,rfl,hob_78,iV,trivial⟩
 refine⟨_,rfl,?_⟩
 have hc70:=ho64.capz
 refine seR 0 [_,_,_] λΓ66 hl67 hr68=>?_
 have hs69:=ho64.sl hl67 hr68
 refine bsV (ak.cs A62 c63 c_).toArray 119 λg71=>?_
 refine I6 (nxV (bo_ [3] hl67 h065) λk=>?_)
 refine wl_ 4 rfl ?_
 obtain⟨A1_72,c1_72,A2_72,c2_72,r2_72,hrow_72,ho0_72,ho1_72,ho2_72,ho3_72,-⟩:=(hd.mono ((hl18.trans hl28).trans hl67))
 refine ufR 2 hrow_72 [_,_,_,_,_] ?_
 refine sV (ldV 0 JR) (k:=?_)
 refine I6 (nxV (bo_ [4] hl67 h065) λk=>?_)
 refine wl_ 7 rfl ?_
 obtain⟨hk73,h⟩:=am h
 refine apV 1 [c_] BN ho3_72 (Ip hk73) (λw hw=>bM (i:=2) rfl (by exact⟨A62,c63,rfl,⟨hc_.1,hc_.2.1,hc_.2.2.1,⟨hc70,hs69⟩,hc_.2.2.2.2⟩⟩) hw) ?_
 intro row74 A75 c76 ho77
 refine I6 (nxV (bo_ [4] hl67 h065) λk=>?_)
 refine hV 8 k (q:=nlV) (k:=hV 9 k (q:=q_fl 2 ki) (k:=wl_ 10 rfl (stV 0 (.slice A75 (d.todo++[c_]).length c76) #[ii d.room,.slice A1_72 d.safe_.length c1_72,.slice A75 (d.todo++[c_]).length c76] sizeOf94 (k:=?_))))
 refine I6 (nxV (bo_ [4] hl67 h065) λk=>?_)
 refine Ig (by kernel_rfl) ?_
 change WC _ _ _ _ _ _
 refine I4 (aV (k:=I3 ?_))
 refine I8 ?_
 intro w hw
 obtain⟨row_78,hrow_78,hob_78⟩:∃rw:Rowb,rw=([[(gd,.cells #[ii d.room,.slice A1_72 d.safe_.length c1_72,.slice A75 (d.todo++[c_]).length c76] ed (0,0))],row74]:List Rowb).flatten∧a7.ob ed Γ66 gd rw (⟨d.room,d.safe_,(d.todo++[c_])⟩:a7):=⟨_,rfl,A1_72,c1_72,A75,c76,row74,rfl,ho0_72,ho1_72,ho2_72,ho77,trivial⟩
 have hw:=hw.fold (is:=[0,0]) rfl hrow_78
 cases h
 subst hF
 exact aL (is:=[0]) (by kernel_rfl) hw rfl ⟨row_78,rfl,rfl,hob_78,iV,trivial⟩
abbrev qr(gd:Nat)(ed:Nat)(r:a7×Int)(U:List Rowb)(Γ:Gh)(v:Value):Prop := ∃(rowd':Rowb),v = .int .i64 r.2∧U = [rowd']∧a7.ob ed Γ gd rowd' r.1∧I64 r.2∧True
theorem qn{gd ed:Nat}{rowd:Rowb}{d:a7}(hd:a7.ob ed Γ gd rowd d)(name:ByteArray)(hname:name.size≤lim)(n:Int)(hn:I64 n)(hp:Pre [rowd] Γ w0){r:a7×Int}(h:gL d name n=some r):Calls Tryz.prog 133 #[(pq gd),.string name,ii n] w0 (Outc Γ [rowd] w0 (qr gd ed r)):=by
 refine goV [6] func133 ntmps133 results133 hp λF hF=>?_
 refine I4 (aV (k:=I3 (I4 (mV (k:=mV (k:=mV (k:=sV (aZ (v:=.agg #[ii 2,.string name,.string ByteArray.empty,.slice none 0 0,ii n]) rfl (uV rfl rfl rfl) (λw=>by kernel_rfl)) (k:=?_))))))))
 obtain⟨z1,hz2,h⟩:=bnd h
 refine ecV [0] (caV call57) (λw hp=>ko hd (Ac_3:=none) (cc_3:=0) (⟨2,name,ByteArray.empty,[],n⟩:ak) ⟨iV,hname,(show (ByteArray.empty:ByteArray).size≤lim by decide),nilV,hn⟩ hp hz2) ?_
 rintro Γ3 _ _ hl4 ⟨row7,rfl,rfl,hr8,hr9,_⟩
 refine cwV 11 [_] (aV (k:=I3 ?_))
 exact I8 λw hw=>re_ r [0] h hF hw ⟨row7,rfl,rfl,hr8,hr9,trivial⟩
abbrev r6(gd:Nat)(ed:Nat)(r:a7)(U:List Rowb)(Γ:Gh)(v:Value):Prop := ∃(rowd':Rowb),v = .tuple #[]∧U = [rowd']∧a7.ob ed Γ gd rowd' r∧True
theorem n9{gd ed:Nat}{rowd:Rowb}{d:a7}(hd:a7.ob ed Γ gd rowd d)(file:ByteArray)(hfile:file.size≤lim)(n:Int)(hn:I64 n)(hp:Pre [rowd] Γ w0){r:a7}(h:bU d file n=some r):Calls Tryz.prog 86 #[(pq gd),.string file,ii n] w0 (Outc Γ [rowd] w0 (r6 gd ed r)):=by
 refine goV [] func86 ntmps86 results86 hp λF hF=>?_
 refine I4 (mV (k:=mV (k:=?_)))
 obtain⟨z1,hz2,h⟩:=bnd h
 refine ecV [0] (caV call89) (λw hp=>jr hd file hfile hp hz2) ?_
 rintro Γ3 _ _ hl4 ⟨A7,c8,row9,rfl,rfl,hr10,_⟩
 refine cwV 11 [_,_] (mV (k:=sV exV (k:=sV exV (k:=aV (k:=aV (k:=I3 (I4 ?_)))))))
 refine mV (k:=mV (k:=vG1 (h:=λhg11=>moV) (k:=vG1 (h:=λhg12=>ag rfl IZ (grV hg12)) (k:=vG1 (h:=λhg13=>moV) (k:=vG1 (h:=λhg14=>bi rfl (grV hg14) (grV hg14)) (k:=sV pkA (k:=I3 ?_)))))))
 refine ciV h (λhb15 h=>?_) (λhb15 h=>?_)
 ·
  refine I9 ?_
  refine mV (k:=mV (k:=mV (k:=?_)))
  obtain⟨z16,hz17,h⟩:=bnd h
  refine ecV [0] (caV call133) (λw hp=>qn (hd.mono hl4) file hfile n hn hp hz17) ?_
  rintro Γ18 _ _ hl19 ⟨row22,rfl,rfl,hr23,hr24,_⟩
  refine cwV 24 [_,_] ?_
  refine I6 ?_
  intro w hw
  cases h
  subst hF
  exact aL (is:=[0]) (by kernel_rfl) hw rfl ⟨row22,rfl,rfl,hr23,trivial⟩
 refine I7 ?_
 intro w hw
 cases h
 subst hF
 exact aL (is:=[0]) (by kernel_rfl) hw rfl ⟨rowd,rfl,rfl,(hd.mono hl4),trivial⟩
theorem om(s_:ByteArray)(hs_:s_.size≤lim)(hs:Sat Γ w0){r:Int×Int}(h:io s_=some r):CQ Tryz.prog 173 #[.string s_] w0 (.tuple #[ii r.1,ii r.2]):=by
 refine goQ [2,3] func173 ntmps173 results173 hs λF hF=>?_
 refine I4 (aV (k:=aV (k:=I3 (I5 (I4 (mV (k:=sV nH (k:=?_))))))))
 refine mV (k:=vG0 (h:=λhg1=>moV) (k:=vG0 (h:=λhg2=>bg rfl IX (grV hg2)) (k:=vG0 (h:=λhg3=>bi rfl (grV hg3)) (k:=vG0 (h:=λhg4=>bv (v:=.bool (decide (1<(s_.size:Int)))) rfl (grV hg4)) (k:=vh1 (c0:=(!(s_==ByteArray.empty))) (g:=(decide (1<(s_.size:Int)))) rfl rfl rfl rfl rfl (λ_=>QV.qo moV) ?_)))))
 obtain⟨hk7,h⟩:=am h
 refine vh1 (c0:=(!(s_==ByteArray.empty))) (g:=(decide (1<(s_.size:Int)))) rfl rfl rfl rfl rfl (λhg6=>QV.qo (pQ (i:=0) IX rfl (grV hg6) rfl (Ip (b5 hk7 hg6)))) (vh1 (c0:=(!(s_==ByteArray.empty))) (g:=(decide (1<(s_.size:Int)))) rfl rfl rfl rfl rfl (λhg8=>QV.qo (bp rfl (grV hg8))) (vG0 (h:=λhg9=>gq rfl (grV hg9) (ly (c:=(!(s_==ByteArray.empty))) (g:=(decide (1<(s_.size:Int)))) (y:=((((gt s_.data.toList 0).toNat:Nat):Int)==48)) hg9)) (k:=sV pkO (k:=I3 ?_))))
 refine ciV h (λhb10 h=>?_) (λhb10 h=>?_)
 ·
  refine I4 (aV (k:=aV (k:=I3 ?_)))
  exact I8 λw hw=>by obtain rfl:=Option.some.inj h; exact⟨by kernel_rfl,fr_ hF hw⟩
 refine I7 (wc_ (I4 (aV (k:=I3 (I5 (I4 (aV (k:=?_))))))))
 refine I3 (Ia ?_)
 refine Io h (λ(i14:Nat) (n_11:Int) σ w=>slots σ [(0,.string s_),(4,ii n_11),(5,ii (i14:Int))]∧CC F Γ [] w∧I64 n_11∧True) ?_ ?_
 ·
  intro w hw
  exact⟨slK,hw,iV,trivial⟩
 rintro f13 i14 n_11 σ w hi15 hlt16 hge17 ⟨hsl,hw,hr12,-⟩
 refine slV hsl hw [] ?_; clear hw hsl
 refine I5 (I4 (mV (k:=mV (k:=sV (bg rfl IX) (k:=sV aG (k:=I3 ?_))))))
 refine coV (λhb18=>?_) (λhb18=>?_)
 ·
  have hl19:=ilt hb18
  have h:=hlt16 hl19
  refine I7 (wc_ (I5 (Ia (I5 (I4 (mV (k:=mV (k:=?_))))))))
  refine sV (pQ (i:=i14) IX rfl rfl rfl hl19) (k:=sV aG (k:=mV (k:=vG0 (h:=λhg20=>moV) (k:=vG0 (h:=λhg21=>moV) (k:=vG0 (h:=λhg22=>pQ (i:=i14) IX rfl (grV hg22) (grV hg22) hl19) (k:=vG0 (h:=λhg23=>bi rfl (grV hg23)) (k:=sV pkO (k:=?_))))))))
  refine I3 ?_
  refine ciV h (λhb24 h=>?_) (λhb24 h=>?_)
  ·
   refine I4 (aV (k:=aV (k:=I3 ?_)))
   exact I8 λw hw=>by obtain rfl:=Option.some.inj h; exact⟨by kernel_rfl,fr_ hF hw⟩
  refine I7 (wc_ (I4 (mV (k:=mV (k:=sV (pQ (i:=i14) IX rfl rfl rfl hl19) (k:=sV (gw J6 J5) (k:=sV fO (k:=?_))))))))
  refine aV (k:=I3 (I5 (I4 (mV (k:=mV (k:=sV fO (k:=sV (tO rfl rfl rfl (by decide)) (k:=?_))))))))
  refine sV bi (k:=I3 ?_)
  refine ciV h (λhb25 h=>?_) (λhb25 h=>?_)
  ·
   refine I4 (aV (k:=aV (k:=I3 ?_)))
   exact I8 λw hw=>by obtain rfl:=Option.some.inj h; exact⟨by kernel_rfl,fr_ hF hw⟩
  refine I7 (wc_ ?_)
  refine I9 ?_
  refine mV (k:=sV vp (k:=mV (k:=sV bR (k:=aV (k:=?_)))))
  refine I6 ?_
  change WC _ _ _ _ _ _
  refine I9 ?_
  refine mV (k:=sV (aF rfl rfl rfl (aJ hl19 hs_)) (k:=aV (k:=?_)))
  exact I6 λw hw=>⟨hl19,(w64 ((w64 (10*n_11))+(w64 ((w64 (((gt s_.data.toList i14).toNat:Nat):Int)) - 48)))),h,slK,hw,(dR _),trivial⟩
 have h:=hge17 (ige hb18)
 refine Ic ?_
 change WC _ _ _ _ _ _
 refine I4 (mV (k:=aV (k:=aV (k:=I3 ?_))))
 exact I8 λw hw=>by obtain rfl:=Option.some.inj h; exact⟨by kernel_rfl,fr_ hF hw⟩
theorem vF(file:ByteArray)(hfile:file.size≤lim)(name:ByteArray)(hname:name.size≤lim)(hs:Sat Γ w0){r:Int×Int×Bool}(h:kU file name=some r):CQ Tryz.prog 134 #[.string file,.string name] w0 (.tuple #[ii r.1,ii r.2.1,.bool r.2.2]):=by
 refine goQ [4,5,6] func134 ntmps134 results134 hs λF hF=>?_
 refine I4 (aV (k:=aV (k:=aV (k:=I3 (I4 (mV (k:=sV (bg rfl IX) (k:=?_))))))))
 refine sV bR (k:=aV (k:=I3 (I5 (I4 (mV (k:=sV (bg rfl IX) (k:=mV (k:=?_))))))))
 obtain⟨z1,hz2,h⟩:=bnd h
 refine sV (Gk (Option.some.inj hz2) kM) (k:=mV (k:=vG0 (h:=λhg3=>moV) (k:=vG0 (h:=λhg4=>moV) (k:=?_))))
 obtain⟨hk6,h⟩:=am h
 refine vG0 (h:=λhg5=>uK IX rfl (grV hg5) (fU (grV hg5) (b5 hk6 hg5)) (bC (b5 hk6 hg5))) (k:=vG0 (h:=λhg7=>moV) (k:=vG0 (h:=λhg8=>kK rfl (grV hg8) rfl hname (show (⟨#[46]⟩:ByteArray).size≤lim by decide)) (k:=vG0 (h:=λhg9=>qS rfl (grV hg9) (grV hg9)) (k:=?_))))
 obtain⟨z10,hz11,h⟩:=bnd h
 refine sV (Gk (Option.some.inj hz11) pkO) (k:=I3 ?_)
 refine ciV h (λhb12 h=>?_) (λhb12 h=>?_)
 ·
  refine I4 (aV (k:=aV (k:=aV (k:=I3 ?_))))
  exact I8 λw hw=>by obtain rfl:=Option.some.inj h; exact⟨by kernel_rfl,fr_ hF hw⟩
 refine I7 (wc_ (I5 (I4 (mV (k:=aV (k:=I3 (Ia ?_)))))))
 refine Il h (λ(i_13:Int) σ w=>slots σ [(0,.string file),(7,ii (w64 ((name.size:Int)+1))),(8,ii i_13)]∧CC F Γ [] w∧I64 i_13∧True) ?_ ?_
 ·
  intro w hw
  exact⟨slK,hw,(dR _),trivial⟩
 rintro f15 i_13 σ w h ⟨hsl,hw,hr14,-⟩
 refine slV hsl hw [] ?_; clear hw hsl
 refine I5 (I4 (mV (k:=mV (k:=sV (bg rfl IX) (k:=sV aG (k:=I3 ?_))))))
 refine ciV h (λhb19 h=>?_) (λhb19 h=>?_)
 ·
  refine I7 (wc_ (I5 (Ia (I5 (I4 (mV (k:=mV (k:=?_))))))))
  obtain⟨hk20,h⟩:=am h
  refine sV (Hm IX rfl rfl rfl hk20) (k:=sV bD (k:=I3 ?_))
  refine ciV h (λhb21 h=>?_) (λhb21 h=>?_)
  ·
   refine Ic ?_
   change WC _ _ _ _ _ _
   refine I9 ?_
   refine mV (k:=sV bR (k:=aV (k:=?_)))
   exact I6 λw hw=>⟨(w64 (i_13+1)),h,slK,hw,(dR _),trivial⟩
  refine I7 (wc_ (I4 (mV (k:=mV (k:=mV (k:=?_))))))
  obtain⟨hk22,h⟩:=am h
  obtain⟨hk23,h⟩:=am h
  refine sV (Hi IX rfl rfl (fU rfl hk23) (fU rfl hk22) (bC hk23) (bC hk22)) (k:=?_)
  obtain⟨z24,hz25,h⟩:=bnd h
  refine vqV (caV call173) (λw hw=>om (Γ:=Gh.all w) (file.extract ((w64 ((name.size:Int)+1)).toNat) i_13.toNat) (Bz hfile) (Sat.all w) hz25) (k:=mV (k:=sV exV (k:=sV exV (k:=aV (k:=aV (k:=I3 (I4 ?_)))))))
  refine mV (k:=mV (k:=sV bR (k:=?_)))
  obtain⟨hk26,h⟩:=am h
  refine sV (uz IX rfl rfl (fU rfl hk26) (bC hk26)) (k:=?_)
  obtain⟨z27,hz28,h⟩:=bnd h
  refine vqV (caV call173) (λw hw=>om (Γ:=Gh.all w) (file.extract ((w64 (i_13+1)).toNat) file.size) (Bz hfile) (Sat.all w) hz28) (k:=mV (k:=sV exV (k:=sV exV (k:=aV (k:=aV (k:=I3 (I4 ?_)))))))
  refine mV (k:=mV (k:=mV (k:=sV bp (k:=mV (k:=vG1 (h:=λhg29=>moV) (k:=vG1 (h:=λhg30=>bp rfl (grV hg30)) (k:=sV pkA (k:=?_))))))))
  refine mV (k:=vG1 (h:=λhg31=>moV) (k:=vG1 (h:=λhg32=>kM rfl (grV hg32)) (k:=sV pkA (k:=mV (k:=vG1 (h:=λhg33=>moV) (k:=vG1 (h:=λhg34=>lz rfl (grV hg34)) (k:=sV pkA (k:=?_))))))))
  refine mV (k:=vG1 (h:=λhg35=>moV) (k:=vG1 (h:=λhg36=>kM rfl (grV hg36)) (k:=sV pkA (k:=aV (k:=aV (k:=aV (k:=I3 ?_)))))))
  exact I8 λw hw=>by obtain rfl:=Option.some.inj h; exact⟨by kernel_rfl,fr_ hF hw⟩
 refine Ic ?_
 change WC _ _ _ _ _ _
 refine I4 (aV (k:=aV (k:=aV (k:=I3 ?_))))
 exact I8 λw hw=>by obtain rfl:=Option.some.inj h; exact⟨by kernel_rfl,fr_ hF hw⟩
abbrev ot(gd:Nat)(ed:Nat)(r:a7×Int)(U:List Rowb)(Γ:Gh)(v:Value):Prop := ∃(rowd':Rowb),v = .int .i64 r.2∧U = [rowd']∧a7.ob ed Γ gd rowd' r.1∧I64 r.2∧True
theorem ow{gd ed:Nat}{rowd:Rowb}{d:a7}(hd:a7.ob ed Γ gd rowd d)(name:ByteArray)(hname:name.size≤lim)(hp:Pre [rowd] Γ w0){r:a7×Int}(h:eW d name=some r):Calls Tryz.prog 135 #[(pq gd),.string name] w0 (Outc Γ [rowd] w0 (ot gd ed r)):=by
 refine goV [4] func135 ntmps135 results135 hp λF hF=>?_
 refine I4 (aV (k:=I3 (I4 (mV (k:=mV (k:=sV (aZ (v:=.agg #[ii 4,.string name,.string ByteArray.empty,.slice none 0 0,ii 0]) rfl (jI rfl rfl) (λw=>by kernel_rfl)) (k:=?_)))))))
 obtain⟨z1,hz2,h⟩:=bnd h
 refine ecV [0] (caV call57) (λw hp=>ko hd (Ac_3:=none) (cc_3:=0) (⟨4,name,ByteArray.empty,[],0⟩:ak) ⟨iV,hname,(show (ByteArray.empty:ByteArray).size≤lim by decide),nilV,iV⟩ hp hz2) ?_
 rintro Γ3 _ _ hl4 ⟨row7,rfl,rfl,hr8,hr9,_⟩
 refine cwV 8 [_] (aV (k:=I3 ?_))
 exact I8 λw hw=>re_ r [0] h hF hw ⟨row7,rfl,rfl,hr8,hr9,trivial⟩
abbrev rU(gd:Nat)(ed:Nat)(r:a7)(U:List Rowb)(Γ:Gh)(v:Value):Prop := ∃(rowd':Rowb),v = .tuple #[]∧U = [rowd']∧a7.ob ed Γ gd rowd' r∧True
theorem iP{gd ed:Nat}{rowd:Rowb}{d:a7}(hd:a7.ob ed Γ gd rowd d)(name:ByteArray)(hname:name.size≤lim)(gen:Int)(hgen:I64 gen)(other:Bool)(above:Int)(habove:I64 above)(hp:Pre [rowd] Γ w0){r:a7}(h:bB d name gen other above=some r):Calls Tryz.prog 87 #[(pq gd),.string name,ii gen,.bool other,ii above] w0 (Outc Γ [rowd] w0 (rU gd ed r)):=by
 refine goV [] func87 ntmps87 results87 hp λF hF=>?_
 refine I4 (mV (k:=?_))
 obtain⟨z1,hz2,h⟩:=bnd h
 refine ecV [0] (caV call26) (λw hp=>bh hd hp hz2) ?_
 rintro Γ3 _ _ hl4 ⟨A7,c8,rfl,rfl,hc10,hr9,_⟩
 refine cwV 16 [_] (aV (k:=I3 (I4 (aV (k:=I3 (Ia ?_))))))
 refine Ie h (λ(i17:Nat) (o13:a7) σ w => ∃(Γ11:Gh), ∃(row14:Rowb),slots σ [(0,(pq gd)),(1,.string name),(2,ii gen),(3,.bool other),(4,ii above),(10,.slice A7 z1.length c8),(11,ii (i17:Int))]∧CC F Γ11 [row14] w∧Gh.le Γ3 Γ11∧a7.ob ed Γ11 gd row14 o13∧True) ?_ ?_
 ·
  intro w hw
  exact⟨Γ3,rowd,slK,hw,gR,(hd.mono hl4),trivial⟩
 rintro f16 i17 o13 σ w hi18 hlt19 hge20 ⟨Γ11,row14,hsl,hw,hl12,ho15,-⟩
 refine slV hsl hw [_] ?_; clear hw hsl
 refine I5 (I4 (mV (k:=mV (k:=sV (ag rfl JP) (k:=sV aG (k:=I3 ?_))))))
 refine coV (λhb21=>?_) (λhb21=>?_)
 ·
  have hl22:=ilt hb21
  have h:=hlt19 hl22
  refine I7 (wc_ ?_)
  refine Id (λσ w => ∃(o25:a7), ∃(Γ23:Gh), ∃(row26:Rowb),fZ f16 o25=some r∧slots σ [(0,(pq gd)),(1,.string name),(2,ii gen),(3,.bool other),(4,ii above),(10,.slice A7 z1.length c8),(11,ii (i17:Int))]∧CC F Γ23 [row26] w∧Gh.le Γ11 Γ23∧a7.ob ed Γ23 gd row26 o25∧True) ?_ ?_
  ·
   refine Ia (I4 (mV (k:=mV (k:=sV (aN (i:=i17) JP JQ rfl rfl rfl hl22 ((hr9.mono hl12).some_ hl22)) (k:=sV (ay (i17*2) mc rfl rfl ((hr9.mono hl12).some_ hl22) rfl) (k:=?_))))))
   obtain⟨A28,c29,hx30⟩:=(hr9.mono hl12).dfirthref07_FileT_at i17
   refine sV (q_ld (c:=0) (v:=.string (gt z1 i17).name) (hx30 hl22).2 rfl IY rfl rfl) (k:=mV (k:=?_))
   obtain⟨z31,hz32,h⟩:=bnd h
   refine vqV (caV call134) (λw hw=>vF (Γ:=Gh.all w) ((gt z1 i17).name) (hx30 hl22).1.1 name hname (Sat.all w) hz32) (k:=mV (k:=sV exV (k:=sV exV (k:=sV exV (k:=aV (k:=aV (k:=aV (k:=?_))))))))
   refine I3 (I4 (mV (k:=mV (k:=vG1 (h:=λhg33=>moV) (k:=vG1 (h:=λhg34=>bv (v:=.bool other) rfl (grV hg34)) (k:=vh1 (c0:=z31.2.2) (g:=other) rfl rfl rfl rfl rfl (λ_=>QV.qo moV) (vh1 (c0:=z31.2.2) (g:=other) rfl rfl rfl rfl rfl (λ_=>QV.qo moV) ?_)))))))
   refine vh1 (c0:=z31.2.2) (g:=other) rfl rfl rfl rfl rfl (λhg37=>QV.qo (bD rfl (grV hg37) (grV hg37))) (vG1 (h:=λhg38=>gq rfl (grV hg38) (ly (c:=z31.2.2) (g:=other) (y:=(z31.1 != gen)) hg38)) (k:=vG1 (h:=λhg39=>bv (v:=.bool (other&&(z31.1 != gen))) rfl (grV hg39)) (k:=vh0 (c0:=z31.2.2) (g:=(other&&(z31.1 != gen))) rfl rfl rfl rfl rfl (λ_=>QV.qo moV) (vh0 (c0:=z31.2.2) (g:=(other&&(z31.1 != gen))) rfl rfl rfl rfl rfl (λhg41=>QV.qo (cY rfl (grV hg41))) (vh0 (c0:=z31.2.2) (g:=(other&&(z31.1 != gen))) rfl rfl rfl rfl rfl (λhg42=>QV.qo (bv (v:=.bool (!other)) rfl (grV hg42))) (vh1 (c0:=(z31.2.2&&(!(other&&(z31.1 != gen))))) (g:=(!other)) rfl rfl rfl rfl rfl (λ_=>QV.qo moV) (vh1 (c0:=(z31.2.2&&(!(other&&(z31.1 != gen))))) (g:=(!other)) rfl rfl rfl rfl rfl (λ_=>QV.qo moV) ?_)))))))
   refine vh1 (c0:=(z31.2.2&&(!(other&&(z31.1 != gen))))) (g:=(!other)) rfl rfl rfl rfl rfl (λhg45=>QV.qo (bp rfl (grV hg45) (grV hg45))) (vh0 (c0:=z31.2.2) (g:=(other&&(z31.1 != gen))) rfl rfl rfl rfl rfl (λhg46=>QV.qo (gq rfl (grV hg46) (ly (c:=(z31.2.2&&(!(other&&(z31.1 != gen))))) (g:=(!other)) (y:=(z31.1==gen)) hg46))) (vh0 (c0:=z31.2.2) (g:=(other&&(z31.1 != gen))) rfl rfl rfl rfl rfl (λhg47=>QV.qo (bv (v:=.bool ((!other)&&(z31.1==gen))) rfl (grV hg47))) (vh1 (c0:=(z31.2.2&&(!(other&&(z31.1 != gen))))) (g:=((!other)&&(z31.1==gen))) rfl rfl rfl rfl rfl (λ_=>QV.qo moV) (vh1 (c0:=(z31.2.2&&(!(other&&(z31.1 != gen))))) (g:=((!other)&&(z31.1==gen))) rfl rfl rfl rfl rfl (λ_=>QV.qo moV) (vh1 (c0:=(z31.2.2&&(!(other&&(z31.1 != gen))))) (g:=((!other)&&(z31.1==gen))) rfl rfl rfl rfl rfl (λhg50=>QV.qo (bi rfl (grV hg50) (grV hg50))) (vh0 (c0:=z31.2.2) (g:=(other&&(z31.1 != gen))) rfl rfl rfl rfl rfl (λhg51=>QV.qo (gq rfl (grV hg51) (ly (c:=(z31.2.2&&(!(other&&(z31.1 != gen))))) (g:=((!other)&&(z31.1==gen))) (y:=(decide (above<z31.2.1))) hg51))) (vG1 (h:=λhg52=>gq rfl (grV hg52) (Dw (c:=z31.2.2) (g:=(other&&(z31.1 != gen))) (y:=(((!other)&&(z31.1==gen))&&(decide (above<z31.2.1)))) hg52)) (k:=?_))))))))
   refine sV pkA (k:=I3 ?_)
   refine ciV h (λhb53 h=>?_) (λhb53 h=>?_)
   ·
    refine I9 ?_
    refine mV (k:=mV (k:=mV (k:=sV (aN (i:=i17) JP JQ rfl rfl rfl hl22 ((hr9.mono hl12).some_ hl22)) (k:=sV (ay (i17*2) mc rfl rfl ((hr9.mono hl12).some_ hl22) rfl) (k:=sV (q_ld (c:=0) (v:=.string (gt z1 i17).name) (hx30 hl22).2 rfl IY rfl rfl) (k:=?_))))))
    obtain⟨z54,hz55,h⟩:=bnd h
    refine ecV [0] (caV call135) (λw hp=>ow ho15 ((gt z1 i17).name) (hx30 hl22).1.1 hp hz55) ?_
    rintro Γ56 _ _ hl57 ⟨row60,rfl,rfl,hr61,hr62,_⟩
    refine cwV 63 [_] ?_
    exact I6 λw hw=>⟨z54.1,Γ56,row60,h,slK,hw,hl57,hr61,trivial⟩
   exact I7 λw hw=>⟨o13,Γ11,row14,h,slK,hw,gR,ho15,trivial⟩
  rintro σ w ⟨o25,Γ23,row26,h,hsl,hw,hl24,ho27,-⟩
  refine slV hsl hw [_] ?_; clear hw hsl
  refine I9 ?_
  refine mV (k:=sV (aF rfl rfl rfl (aJ hl22 (hr9.mono hl12).le)) (k:=aV (k:=?_)))
  exact I6 λw hw=>⟨hl22,o25,h,Γ23,row26,slK,hw,(hl12.trans hl24),ho27,trivial⟩
 have h:=hge20 (ige hb21)
 refine Ic ?_
 intro w hw
 cases h
 subst hF
 exact aL (is:=[0]) (by kernel_rfl) hw rfl ⟨row14,rfl,rfl,ho15,trivial⟩
theorem nf(n:Int)(hn:I64 n)(hs:Sat Γ w0){r:ByteArray}(h:fN n=some r):CQ Tryz.prog 136 #[ii n] w0 (.string r):=by
 refine goQ [2] func136 ntmps136 results136 hs λF hF=>?_
 refine I4 (aV (k:=I3 (I4 (aV (k:=I3 (I4 (mV (k:=?_))))))))
 refine aV (k:=I3 (I5 (Ia ?_)))
 refine Il h (λ(s:ByteArray×Int) σ w=>match s with | (s_1,m_2)=>slots σ [(0,ii n),(3,.string s_1),(4,ii m_2)]∧CC F Γ [] w∧I64 m_2∧True) ?_ ?_
 ·
  intro w hw
  exact⟨slK,hw,hn,trivial⟩
 rintro f4 ⟨s_1,m_2⟩ σ w h ⟨hsl,hw,hr3,-⟩
 refine slV hsl hw [] ?_; clear hw hsl
 refine I5 (I4 (mV (k:=sV nH (k:=mV (k:=vG0 (h:=λhg8=>moV) (k:=vG0 (h:=λhg9=>bD rfl (grV hg9)) (k:=sV pkO (k:=?_))))))))
 refine I3 ?_
 refine ciV h (λhb10 h=>?_) (λhb10 h=>?_)
 ·
  refine I7 (wc_ (Ia (I4 (mV (k:=sV (vx rfl rfl rfl (by decide)) (k:=aV (k:=I3 ?_)))))))
  refine Id (λσ w => ∃(d_11:Int),ep s_1 m_2 f4 d_11=some r∧slots σ [(0,ii n),(3,.string s_1),(4,ii m_2),(5,ii d_11)]∧CC F Γ [] w∧True) ?_ ?_
  ·
   refine I4 (mV (k:=sV aG (k:=I3 ?_)))
   refine ciV h (λhb12 h=>?_) (λhb12 h=>?_)
   ·
    refine I9 ?_
    refine mV (k:=sV ET (k:=aV (k:=?_)))
    exact I6 λw hw=>⟨(w64 (0 - (m_2.tmod 10))),h,slK,hw,trivial⟩
   exact I7 λw hw=>⟨(m_2.tmod 10),h,slK,hw,trivial⟩
  rintro σ w ⟨d_11,h,hsl,hw,-⟩
  refine slV hsl hw [] ?_; clear hw hsl
  refine I4 (mV (k:=sV bR (k:=sV (gw J5 J6) (k:=?_))))
  refine bsV #[.int .u8 (wu8 (w64 (48+d_11)))] 5 λg13=>?_
  have ho14:Own av Γ 5 [(g13,.cells #[.int .u8 (wu8 (w64 (48+d_11)))] 5 (0,0))] (some ⟨g13,0,none⟩) 1 [(b8 (wu8 (w64 (48+d_11))))]:=Ii (T:=av) (ys:=[(b8 (wu8 (w64 (48+d_11))))]) [[.int .u8 (wu8 (w64 (48+d_11)))]] rfl (show 1≤lim by decide) ⟨(by show [Value.int .u8 (wu8 (w64 (48+d_11)))] = [Value.int .u8 _]; rw [lx (sa _)]),trivial⟩
  refine sV (Cc (i:=0) rfl ho14 IZ J5 IX rfl rfl) (k:=mV (k:=?_))
  obtain⟨hk15,h⟩:=am h
  refine sV (kK rfl rfl rfl ho14.le (Ip hk15)) (k:=aV (k:=I3 ?_))
  refine I9 ?_
  refine mV (k:=sV (tO rfl rfl rfl (by decide)) (k:=aV (k:=?_)))
  exact I6 λw hw=>⟨(((⟨[(b8 (wu8 (w64 (48+d_11))))].toArray⟩:ByteArray)++s_1),(w64 (m_2.tdiv 10))),h,slK,(hw.on []),(dR _),trivial⟩
 refine Ic ?_
 change WC _ _ _ _ _ _
 refine I5 (I4 (mV (k:=sV aG (k:=I3 ?_))))
 refine ciV h (λhb16 h=>?_) (λhb16 h=>?_)
 ·
  refine I9 ?_
  refine mV (k:=?_)
  obtain⟨hk17,h⟩:=am h
  refine sV (kK rfl rfl rfl (show (⟨#[45]⟩:ByteArray).size≤lim by decide) (Ip hk17)) (k:=aV (k:=?_))
  refine I6 ?_
  change WC _ _ _ _ _ _
  refine I4 (mV (k:=aV (k:=I3 ?_)))
  exact I8 λw hw=>rq_ r h hF hw
 refine I7 (wc_ (I4 (mV (k:=aV (k:=I3 ?_)))))
 exact I8 λw hw=>rq_ r h hF hw
theorem od(name:ByteArray)(hname:name.size≤lim)(gen:Int)(hgen:I64 gen)(part:Int)(hpart:I64 part)(hs:Sat Γ w0){r:ByteArray}(h:fp name gen part=some r):CQ Tryz.prog 88 #[.string name,ii gen,ii part] w0 (.string r):=by
 refine goQ [6] func88 ntmps88 results88 hs λF hF=>?_
 refine I4 (aV (k:=I3 (I4 (mV (k:=sV (kK rfl rfl rfl hname (show (⟨#[46]⟩:ByteArray).size≤lim by decide)) (k:=mV (k:=?_)))))))
 obtain⟨z1,hz2,h⟩:=bnd h
 refine vqV (caV call136) (λw hw=>nf (Γ:=Gh.all w) gen hgen (Sat.all w) hz2) (k:=?_)
 obtain⟨hk3,h⟩:=am h
 obtain⟨hk4,h⟩:=am h
 refine sV (kK rfl rfl rfl (Ip hk3) (Ip hk4)) (k:=?_)
 obtain⟨hk5,h⟩:=am h
 refine sV (kK rfl rfl rfl (Ip hk5) (show (⟨#[46]⟩:ByteArray).size≤lim by decide)) (k:=mV (k:=?_))
 obtain⟨z6,hz7,h⟩:=bnd h
 refine vqV (caV call136) (λw hw=>nf (Γ:=Gh.all w) part hpart (Sat.all w) hz7) (k:=?_)
 obtain⟨hk8,h⟩:=am h
 obtain⟨hk9,h⟩:=am h
 refine sV (kK rfl rfl rfl (Ip hk8) (Ip hk9)) (k:=aV (k:=I3 ?_))
 exact I8 λw hw=>rq_ r h hF hw
abbrev pZ(gd:Nat)(ed:Nat)(r:a7)(U:List Rowb)(Γ:Gh)(v:Value):Prop := ∃(rowd':Rowb),v = .tuple #[]∧U = [rowd']∧a7.ob ed Γ gd rowd' r∧True
theorem ec{gd ed:Nat}{rowd:Rowb}{d:a7}(hd:a7.ob ed Γ gd rowd d)(hp:Pre [rowd] Γ w0){r:a7}(h:bd d=some r):Calls Tryz.prog 45 #[(pq gd)] w0 (Outc Γ [rowd] w0 (pZ gd ed r)):=by
 refine goV [] func45 ntmps45 results45 hp λF hF=>?_
 refine I4 (mV (k:=mV (k:=?_)))
 obtain⟨z1,hz2,h⟩:=bnd h
 refine ecV [0] (caV call26) (λw hp=>bh hd hp hz2) ?_
 rintro Γ3 _ _ hl4 ⟨A7,c8,rfl,rfl,hc10,hr9,_⟩
 refine cwV 4 [_] (sV nlV (k:=sV (q_fl 1 tf) (k:=?_)))
 obtain⟨A1_11,c1_11,A2_11,c2_11,r2_11,hrow_11,ho0_11,ho1_11,ho2_11,ho3_11,-⟩:=(hd.mono hl4)
 refine ufR 0 hrow_11 [_,_] ?_
 refine stV 0 (.slice A7 z1.length c8) #[ii d.room,.slice A7 z1.length c8,.slice A2_11 d.todo.length c2_11] sizeOf62 (k:=I3 ?_)
 refine I9 ?_
 refine mV (k:=sV nlV (k:=sV (q_fl 2 ki) (k:=stV 0 (.slice none 0 0) #[ii d.room,.slice A7 z1.length c8,.slice none 0 0] sizeOf94 (k:=?_))))
 refine I6 ?_
 intro w hw
 have hw:=hw.pad
 obtain⟨row_12,hrow_12,hob_12⟩:∃rw:Rowb,rw=([[(gd,.cells #[ii d.room,.slice A7 z1.length c8,.slice none 0 0] ed (0,0))],[]]:List Rowb).flatten∧a7.ob ed Γ3 gd rw (⟨d.room,z1,[]⟩:a7):=⟨_,rfl,A7,c8,none,0,[],rfl,ho0_11,hc10,hr9,(Own.nil cv Γ3 119),trivial⟩
 have hw:=hw.fold (is:=[1,0]) rfl hrow_12
 cases h
 subst hF
 exact aL (is:=[0]) (by kernel_rfl) hw rfl ⟨row_12,rfl,rfl,hob_12,trivial⟩
abbrev ud(gd:Nat)(ed:Nat)(r:a7×(Option af)×(List (List UInt8))×Int)(U:List Rowb)(Γ:Gh)(v:Value):Prop := ∃(rowd':Rowb), ∃(g0:Nat), ∃(row0:Rowb), ∃(A1:Option Addr), ∃(c1:Nat), ∃(row1:Rowb),v = .tuple #[optp r.2.1 g0,.slice A1 r.2.2.1.length c1,.int .i64 r.2.2.2]∧U = [rowd',row0,row1]∧a7.ob ed Γ gd rowd' r.1∧oK (af.ob (109,gd) Γ g0) row0 r.2.1∧Own (slT av) Γ 51 row1 A1 c1 r.2.2.1∧I64 r.2.2.2∧True
theorem tU{gd ed:Nat}{rowd:Rowb}{d:a7}(hd:a7.ob ed Γ gd rowd d)(name:ByteArray)(hname:name.size≤lim)(size:Int)(hsize:I64 size)(hp:Pre [rowd] Γ w0){r:a7×(Option af)×(List (List UInt8))×Int}(h:fA d name size=some r):Calls Tryz.prog 40 #[(pq gd),.string name,ii size] w0 (Outc Γ [rowd] w0 (ud gd ed r)):=by
 refine goV [6,7,8] func40 ntmps40 results40 hp λF hF=>?_
 refine I4 (aV (k:=aV (k:=aV (k:=I3 (I5 (I4 (mV (k:=?_))))))))
 obtain⟨z1,hz2,h⟩:=bnd h
 refine vqV (caV call84) (λw hw=>ul (Γ:=Gh.all w) name hname (Sat.all w) hz2) (k:=sV cY (k:=I3 ?_))
 refine ciV h (λhb3 h=>?_) (λhb3 h=>?_)
 ·
  refine I4 (aV (k:=aV (k:=aV (k:=I3 ?_))))
  refine I8 ?_
  intro w hw
  have hw:=hw.pad
  have hw:=hw.pad
  exact re_ r [2,1,0] h hF hw ⟨rowd,0,[],none,0,[],rfl,rfl,hd,rfl,(Own.nil (slT av) _ 51),iV,trivial⟩
 refine I7 (wc_ (I4 (mV (k:=mV (k:=?_)))))
 obtain⟨z4,hz5,h⟩:=bnd h
 refine ecV [0] (caV call85) (λw hp=>t_firthref09_holds hd name hname hp hz5) ?_
 rintro Γ6 _ _ hl7 ⟨rfl,rfl,hr10,hr11,hr12,_⟩
 refine cwV 27 [_] (mV (k:=sV exV (k:=sV exV (k:=sV exV (k:=aV (k:=aV (k:=aV (k:=?_))))))))
 refine I3 (I5 (I4 (mV (k:=sV bD (k:=I3 ?_)))))
 refine ciV h (λhb13 h=>?_) (λhb13 h=>?_)
 ·
  refine I4 (mV (k:=aV (k:=aV (k:=aV (k:=I3 ?_)))))
  refine I8 ?_
  intro w hw
  have hw:=hw.pad
  have hw:=hw.pad
  exact re_ r [2,1,0] h hF hw ⟨rowd,0,[],none,0,[],rfl,rfl,(hd.mono hl7),rfl,(Own.nil (slT av) _ 51),hr12,trivial⟩
 refine I7 (wc_ ?_)
 refine Id (λσ w => ∃(size_14:Int),fh d name size z4 size_14=some r∧slots σ [(0,(pq gd)),(1,.string name),(2,ii size_14),(9,ii z4.1),(10,ii z4.2.1)]∧CC F Γ6 [rowd] w∧I64 size_14∧True) ?_ ?_
 ·
  refine I4 (mV (k:=sV aG (k:=I3 ?_)))
  refine ciV h (λhb16 h=>?_) (λhb16 h=>?_)
  ·
   refine I9 ?_
   refine aV (k:=?_)
   exact I6 λw hw=>⟨16,h,slK,hw,iV,trivial⟩
  exact I7 λw hw=>⟨size,h,slK,hw,hsize,trivial⟩
 rintro σ w ⟨size_14,h,hsl,hw,hr15,-⟩
 refine slV hsl hw [_] ?_; clear hw hsl
 refine I4 (mV (k:=sV nlV (k:=sV (q_fl 2 ki) (k:=?_))))
 obtain⟨A1_17,c1_17,A2_17,c2_17,r2_17,hrow_17,ho0_17,ho1_17,ho2_17,ho3_17,-⟩:=(hd.mono hl7)
 refine ufR 0 hrow_17 [_,_] ?_
 refine sV (ldV 0 JR) (k:=sV (ag rfl JS) (k:=aV (k:=I3 (I4 (mV (k:=mV (k:=sV (kK rfl rfl rfl hname (show (⟨#[46,109]⟩:ByteArray).size≤lim by decide)) (k:=?_))))))))
 refine mV (k:=?_)
 refine foR [0,0] hrow_17 [_] ?_
 obtain⟨hk19,h⟩:=am h
 obtain⟨z20,hz21,h⟩:=bnd h
 refine ecV [0] (caV call86) (λw hp=>n9 (hd.mono hl7) (name++(⟨#[46,109]⟩:ByteArray)) (Ip hk19) z4.2.1 hr11 hp hz21) ?_
 rintro Γ22 _ _ hl23 ⟨row26,rfl,rfl,hr27,_⟩
 refine cwV 45 [_] (I3 (I4 (mV (k:=mV (k:=mV (k:=?_))))))
 obtain⟨z28,hz29,h⟩:=bnd h
 refine ecV [0] (caV call87) (λw hp=>iP hr27 name hname z4.1 hr10 true 0 iV hp hz29) ?_
 rintro Γ30 _ _ hl31 ⟨row34,rfl,rfl,hr35,_⟩
 refine cwV 49 [_] (I3 (I4 (mV (k:=mV (k:=mV (k:=mV (k:=sV (aZ (v:=.agg #[(pq gd),.string name,ii size_14,ii z4.1,.slice none 0 0,ii 0]) rfl (EQ rfl rfl rfl rfl) (λw=>by kernel_rfl)) (k:=?_))))))))
 refine bxV (v:=.agg #[(pq gd),.string name,ii size_14,ii z4.1,.slice none 0 0,ii 0]) λg36=>?_
 refine aV (k:=I3 (I4 (aV (k:=I3 ?_))))
 refine WC.sub (λw hw=>hw.pad) ?_
 obtain⟨row_37,hrow_37,hob_37⟩:∃rw:Rowb,rw=([[(g36,.cells #[(pq gd),.string name,ii size_14,ii z4.1,.slice none 0 0,ii 0] 109 (0,0))],[]]:List Rowb).flatten∧af.ob (109,gd) Γ30 g36 rw (⟨name,size_14,z4.1,[],0⟩:af):=⟨_,rfl,none,0,[],rfl,hname,hr15,hr10,(Own.nil intT Γ30 3),iV,trivial⟩
 refine foC [1,0] hrow_37 [_,_] ?_
 refine Id (λσ w => ∃(out_40:List (List UInt8)), ∃(o45:af), ∃(o48:a7), ∃(Γ38:Gh), ∃(A41:Option Addr), ∃(c42:Nat), ∃(row43:Rowb), ∃(row46:Rowb), ∃(row49:Rowb),dJ d name size z4 out_40 o45 o48=some r∧slots σ [(0,(pq gd)),(1,.string name),(9,ii z4.1),(12,ii (d.todo.length:Int)),(13,(pq g36)),(14,.slice A41 out_40.length c42)]∧CC F Γ38 [row43,row46,row49] w∧Gh.le Γ30 Γ38∧Own (slT av) Γ38 51 row43 A41 c42 out_40∧af.ob (109,gd) Γ38 g36 row46 o45∧a7.ob ed Γ38 gd row49 o48∧True) ?_ ?_
 ·
  refine Ia ?_
  refine Il h (λ(s:(List (List UInt8))×af×a7) σ w=>match s with | (out_53,o58,o61) => ∃(Γ51:Gh), ∃(A54:Option Addr), ∃(c55:Nat), ∃(row56:Rowb), ∃(row59:Rowb), ∃(row62:Rowb),slots σ [(0,(pq gd)),(1,.string name),(9,ii z4.1),(12,ii (d.todo.length:Int)),(13,(pq g36)),(14,.slice A54 out_53.length c55)]∧CC F Γ51 [row56,row59,row62] w∧Gh.le Γ30 Γ51∧Own (slT av) Γ51 51 row56 A54 c55 out_53∧af.ob (109,gd) Γ51 g36 row59 o58∧a7.ob ed Γ51 gd row62 o61∧True) ?_ ?_
  ·
   intro w hw
   have hw:=hw.pad
   exact⟨Γ30,none,0,[],row_37,row34,slK,hw,gR,(Own.nil (slT av) _ 51),hob_37,hr35,trivial⟩
  rintro f64 ⟨out_53,o58,o61⟩ σ w h ⟨Γ51,A54,c55,row56,row59,row62,hsl,hw,hl52,ho57,ho60,ho63,-⟩
  delta bV at h
  refine slV hsl hw [_,_,_] ?_; clear hw hsl
  refine I5 (I4 (mV (k:=sV nlV (k:=sV (q_fl 4 ft) (k:=?_)))))
  obtain⟨A4_68,c4_68,r4_68,hrow_68,ho0_68,ho1_68,ho2_68,ho3_68,ho4_68,-⟩:=id ho60
  refine ufR 1 hrow_68 [_,_,_,_] ?_
  refine sV (ldV 0 JU) (k:=sV (ag rfl JV) (k:=sV aG (k:=I3 ?_)))
  refine ciV h (λhb69 h=>?_) (λhb69 h=>?_)
  ·
   refine I7 (wc_ (Ia (I4 (mV (k:=mV (k:=mV (k:=sV nlV (k:=?_))))))))
   refine sV (q_fl 4 ft) (k:=sV (ldV 0 JU) (k:=sV (ag rfl JV) (k:=sV bR (k:=?_))))
   obtain⟨z70,hz71,h⟩:=bnd h
   refine vqV (caV call88) (λw hw=>od (Γ:=Gh.all w) name hname z4.1 hr10 (w64 ((o58.parts.length:Int)+1)) (dR _) (Sat.all w) hz71) (k:=aV (k:=I3 (I4 (mV (k:=mV (k:=?_))))))
   obtain⟨hk72,h⟩:=am h
   obtain⟨z73,hz74,h⟩:=bnd h
   refine ecV [3] (caV call89) (λw hp=>jr ho63 z70 (Ip hk72) hp hz74) ?_
   rintro Γ75 _ _ hl76 ⟨A79,c80,row81,rfl,rfl,hr82,_⟩
   refine cwV 74 [_,_,_,_,_] (mV (k:=sV exV (k:=sV exV (k:=aV (k:=aV (k:=I3 (I5 ?_)))))))
   refine I4 (mV (k:=sV cY (k:=I3 ?_)))
   refine ciV h (λhb83 h=>?_) (λhb83 h=>?_)
   ·
    refine Ic ?_
    intro w hw
    have hw:=hw.fold (is:=[2,2]) rfl hrow_68
    exact⟨out_53,o58,o61,Γ75,A54,c55,row56,row59,row62,h,slK,(hw.on [3,0,0]),(hl52.trans hl76),(ho57.mono hl76),(ho60.mono hl76),(ho63.mono hl76),trivial⟩
   refine I7 (wc_ (I4 (mV (k:=?_))))
   have hc89:=hr82.capz
   refine seR 1 [_,_,_,_,_] λΓ85 hl86 hr87=>?_
   have hs88:=hr82.sl hl86 hr87
   obtain⟨z90,hz91,h⟩:=bnd h
   refine ecV [] (caV call90) (λw hp=>oE hs88 hc89 hp hz91) ?_
   rintro Γ92 _ _ hl93 ⟨A96,c97,row98,rfl,rfl,hr99,hr100,hr101,_⟩
   refine cwV 81 [_,_,_,_,_,_] (mV (k:=sV exV (k:=sV exV (k:=sV exV (k:=aV (k:=aV (k:=aV (k:=?_))))))))
   refine I3 (I4 (mV (k:=mV (k:=mV (k:=?_)))))
   obtain⟨z102,hz103,h⟩:=bnd h
   refine ecV [1] (caV call86) (λw hp=>n9 (ho63.mono ((hl76.trans hl86).trans hl93)) z70 (Ip hk72) z90.2.1 hr100 hp hz103) ?_
   rintro Γ104 _ _ hl105 ⟨row108,rfl,rfl,hr109,_⟩
   refine cwV 88 [_,_,_,_,_,_] (I3 (I4 (mV (k:=mV (k:=?_)))))
   obtain⟨hk110,h⟩:=am h
   refine apV 5 z90.1 rG (ho57.mono (((hl76.trans hl86).trans hl93).trans hl105)) (Ip hk110) (λw hw=>lK (i:=1) rfl (hr99.mono hl105) hw) ?_
   intro row111 A112 c113 ho114
   refine aV (k:=I3 (I4 (mV (k:=mV (k:=sV nlV (k:=sV (q_fl 4 ft) (k:=sV (ldV 3 JU) (k:=?_))))))))
   refine mV (k:=?_)
   refine bsV #[ii z90.2.1] 3 λg115=>?_
   obtain⟨hk116,h⟩:=am h
   refine apV 5 [z90.2.1] zI (ho3_68.mono (((hl76.trans hl86).trans hl93).trans hl105)) (Ip hk116) (λw hw=>bM (i:=0) rfl (by exact⟨rfl,hr100⟩) hw) ?_
   intro row117 A118 c119 ho120
   refine sV nlV (k:=sV (q_fl 4 ft) (k:=stV 4 (.slice A118 (o58.parts++[z90.2.1]).length c119) #[(pq gd),.string o58.name,ii o58.size,ii o58.gen,.slice A118 (o58.parts++[z90.2.1]).length c119,ii o58.records] sizeOf107 (k:=I3 (I4 (mV (k:=mV (k:=sV (ag rfl IZ) (k:=?_))))))))
   refine sV aG (k:=I3 ?_)
   refine ciV h (λhb121 h=>?_) (λhb121 h=>?_)
   ·
    refine Ic ?_
    intro w hw
    obtain⟨row_122,hrow_122,hob_122⟩:∃rw:Rowb,rw=([[(g36,.cells #[(pq gd),.string o58.name,ii o58.size,ii o58.gen,.slice A118 (o58.parts++[z90.2.1]).length c119,ii o58.records] 109 (0,0))],row117]:List Rowb).flatten∧af.ob (109,gd) Γ104 g36 rw (⟨o58.name,o58.size,o58.gen,(o58.parts++[z90.2.1]),o58.records⟩:af):=⟨_,rfl,A118,c119,row117,rfl,ho0_68,ho1_68,ho2_68,ho120,ho4_68,trivial⟩
    have hw:=hw.fold (is:=[4,4]) rfl hrow_122
    exact⟨(out_53++z90.1),(⟨o58.name,o58.size,o58.gen,(o58.parts++[z90.2.1]),o58.records⟩:af),z102,Γ104,A112,c113,row111,row_122,row108,h,slK,(hw.on [5,0,1]),((((hl52.trans hl76).trans hl86).trans hl93).trans hl105),ho114,hob_122,hr109,trivial⟩
   refine I7 ?_
   intro w hw
   obtain⟨row_123,hrow_123,hob_123⟩:∃rw:Rowb,rw=([[(g36,.cells #[(pq gd),.string o58.name,ii o58.size,ii o58.gen,.slice A118 (o58.parts++[z90.2.1]).length c119,ii o58.records] 109 (0,0))],row117]:List Rowb).flatten∧af.ob (109,gd) Γ104 g36 rw (⟨o58.name,o58.size,o58.gen,(o58.parts++[z90.2.1]),o58.records⟩:af):=⟨_,rfl,A118,c119,row117,rfl,ho0_68,ho1_68,ho2_68,ho120,ho4_68,trivial⟩
   have hw:=hw.fold (is:=[4,4]) rfl hrow_123
   exact⟨((out_53++z90.1),(⟨o58.name,o58.size,o58.gen,(o58.parts++[z90.2.1]),o58.records⟩:af),z102),h,Γ104,A112,c113,row111,row_123,row108,slK,(hw.on [5,0,1]),((((hl52.trans hl76).trans hl86).trans hl93).trans hl105),ho114,hob_123,hr109,trivial⟩
  refine Ic ?_
  intro w hw
  have hw:=hw.fold (is:=[0,0]) rfl hrow_68
  exact⟨out_53,o58,o61,Γ51,A54,c55,row56,row59,row62,h,slK,(hw.on [1,0,0]),hl52,ho57,ho60,ho63,trivial⟩
 rintro σ w ⟨out_40,o45,o48,Γ38,A41,c42,row43,row46,row49,h,hsl,hw,hl39,ho44,ho47,ho50,-⟩
 refine slV hsl hw [_,_,_] ?_; clear hw hsl
 refine I4 (mV (k:=mV (k:=mV (k:=mV (k:=sV nlV (k:=sV (q_fl 4 ft) (k:=?_)))))))
 obtain⟨A4_125,c4_125,r4_125,hrow_125,ho0_125,ho1_125,ho2_125,ho3_125,ho4_125,-⟩:=id ho47
 refine ufR 1 hrow_125 [_,_,_,_] ?_
 refine sV (ldV 0 JU) (k:=sV (ag rfl JV) (k:=?_))
 obtain⟨z126,hz127,h⟩:=bnd h
 refine ecV [3] (caV call87) (λw hp=>iP ho50 name hname z4.1 hr10 false (o45.parts.length:Int) (mL ho3_125.le) hp hz127) ?_
 rintro Γ128 _ _ hl129 ⟨row132,rfl,rfl,hr133,_⟩
 refine cwV 114 [_,_,_,_] (I3 ?_)
 refine foC [1,1] hrow_125 [_,_,_] ?_
 refine Id (λσ w => ∃(o137:a7), ∃(Γ135:Gh), ∃(row138:Rowb),kl name size out_40 o45 o137=some r∧slots σ [(13,(pq g36)),(14,.slice A41 out_40.length c42)]∧CC F Γ135 [row46,row138,row43] w∧Gh.le Γ128 Γ135∧a7.ob ed Γ135 gd row138 o137∧True) ?_ ?_
 ·
  refine I4 (mV (k:=sV nlV (k:=sV (q_fl 2 ki) (k:=?_))))
  obtain⟨A1_140,c1_140,A2_140,c2_140,r2_140,hrow_140,ho0_140,ho1_140,ho2_140,ho3_140,-⟩:=id hr133
  refine ufR 1 hrow_140 [_,_,_,_] ?_
  refine sV (ldV 0 JR) (k:=sV (ag rfl JS) (k:=mV (k:=sV bD (k:=I3 ?_))))
  refine ciV h (λhb141 h=>?_) (λhb141 h=>?_)
  ·
   refine I9 ?_
   refine mV (k:=?_)
   refine foR [0,0] hrow_140 [_,_,_] ?_
   obtain⟨z143,hz144,h⟩:=bnd h
   refine ecV [0] (caV call45) (λw hp=>ec hr133 hp hz144) ?_
   rintro Γ145 _ _ hl146 ⟨row149,rfl,rfl,hr150,_⟩
   refine cwV 123 [_,_,_] ?_
   exact I6 λw hw=>⟨z143,Γ145,row149,h,slK,(hw.on [1,0,0]),hl146,hr150,trivial⟩
  refine I7 ?_
  intro w hw
  have hw:=hw.fold (is:=[0,0]) rfl hrow_140
  exact⟨z126,Γ128,row132,h,slK,(hw.on [1,0,0]),gR,hr133,trivial⟩
 rintro σ w ⟨o137,Γ135,row138,h,hsl,hw,hl136,ho139,-⟩
 refine slV hsl hw [_,_,_] ?_; clear hw hsl
 refine I4 (mV (k:=mV (k:=sV (ag rfl J7) (k:=sV nlV (k:=sV (q_fl 5 nB) (k:=?_))))))
 obtain⟨A4_152,c4_152,r4_152,hrow_152,ho0_152,ho1_152,ho2_152,ho3_152,ho4_152,-⟩:=(ho47.mono (hl129.trans hl136))
 refine ufR 0 hrow_152 [_,_,_,_] ?_
 refine stV 0 (ii (out_40.length:Int)) #[(pq gd),.string o45.name,ii o45.size,ii o45.gen,.slice A4_152 o45.parts.length c4_152,ii (out_40.length:Int)] Jb (k:=I3 (I4 (mV (k:=mV (k:=aV (k:=aV (k:=aV (k:=?_))))))))
 refine I3 ?_
 refine I8 ?_
 intro w hw
 obtain⟨row_153,hrow_153,hob_153⟩:∃rw:Rowb,rw=([[(g36,.cells #[(pq gd),.string o45.name,ii o45.size,ii o45.gen,.slice A4_152 o45.parts.length c4_152,ii (out_40.length:Int)] 109 (0,0))],r4_152]:List Rowb).flatten∧af.ob (109,gd) Γ135 g36 rw (⟨o45.name,o45.size,o45.gen,o45.parts,(out_40.length:Int)⟩:af):=⟨_,rfl,A4_152,c4_152,r4_152,rfl,ho0_152,ho1_152,ho2_152,ho3_152,(mL (ho44.mono (hl129.trans hl136)).le),trivial⟩
 have hw:=hw.fold (is:=[0,0]) rfl hrow_153
 cases h
 subst hF
 exact aL (is:=[1,0,0]) (by kernel_rfl) hw rfl ⟨row138,g36,row_153,A41,c42,row43,rfl,rfl,ho139,hob_153,(ho44.mono (hl129.trans hl136)),iV,trivial⟩
theorem uf{Ab:Option Addr}{cb:Nat}{b:List UInt8}(hb:Sl av Γ Ab b)(hbc:b.length≤cb)(at_:Int)(hat_:I64 at_)(most:Int)(hmost:I64 most)(hs:Sat Γ w0){r:ByteArray×Int×Int}(h:jY b at_ most=some r):CQ Tryz.prog 174 #[.slice Ab b.length cb,ii at_,ii most] w0 (.tuple #[.string r.1,ii r.2.1,ii r.2.2]):=by
 refine goQ [6,7,8] func174 ntmps174 results174 hs λF hF=>?_
 refine I4 (aV (k:=aV (k:=aV (k:=I3 (I4 (mV (k:=mV (k:=?_))))))))
 obtain⟨z1,hz2,h⟩:=bnd h
 refine vqV (caV call132) (λw hw=>kr (Γ:=Gh.all w) (hb.mono hw.sat.le_all) hbc at_ hat_ (Sat.all w) hz2) (k:=mV (k:=sV exV (k:=sV exV (k:=sV exV (k:=aV (k:=aV (k:=aV (k:=?_))))))))
 refine I3 (I5 (I4 (mV (k:=sV bD (k:=I3 ?_)))))
 refine ciV h (λhb3 h=>?_) (λhb3 h=>?_)
 ·
  refine I4 (mV (k:=aV (k:=aV (k:=aV (k:=I3 ?_)))))
  exact I8 λw hw=>by obtain rfl:=Option.some.inj h; exact⟨by kernel_rfl,fr_ hF hw⟩
 refine I7 (wc_ ?_)
 refine Id (λσ w => ∃(most_4:Int),ka b z1 most_4=some r∧slots σ [(0,.slice Ab b.length cb),(2,ii most_4),(9,ii z1.1),(10,ii z1.2.1)]∧CC F Γ [] w∧I64 most_4∧True) ?_ ?_
 ·
  refine I4 (mV (k:=sV aG (k:=I3 ?_)))
  refine ciV h (λhb6 h=>?_) (λhb6 h=>?_)
  ·
   refine I9 ?_
   refine aV (k:=?_)
   exact I6 λw hw=>⟨0,h,slK,hw,iV,trivial⟩
  exact I7 λw hw=>⟨most,h,slK,hw,hmost,trivial⟩
 rintro σ w ⟨most_4,h,hsl,hw,hr5,-⟩
 refine slV hsl hw [] ?_; clear hw hsl
 refine I5 (I4 (mV (k:=mV (k:=sV bi (k:=I3 ?_)))))
 refine ciV h (λhb7 h=>?_) (λhb7 h=>?_)
 ·
  refine I4 (aV (k:=aV (k:=aV (k:=I3 ?_))))
  exact I8 λw hw=>by obtain rfl:=Option.some.inj h; exact⟨by kernel_rfl,fr_ hF hw⟩
 refine I7 (wc_ (I5 (I4 (mV (k:=mV (k:=sV (ag rfl IZ) (k:=mV (k:=?_))))))))
 refine sV fO (k:=sV bi (k:=I3 ?_))
 refine ciV h (λhb8 h=>?_) (λhb8 h=>?_)
 ·
  refine I4 (aV (k:=aV (k:=aV (k:=I3 ?_))))
  exact I8 λw hw=>by obtain rfl:=Option.some.inj h; exact⟨by kernel_rfl,fr_ hF hw⟩
 refine I7 (wc_ (I4 (mV (k:=mV (k:=sV bR (k:=aV (k:=I3 ?_)))))))
 refine I4 (mV (k:=mV (k:=mV (k:=?_))))
 obtain⟨hk9,h⟩:=am h
 obtain⟨hk10,h⟩:=am h
 obtain⟨hk11,h⟩:=am h
 refine sV (xW (c:=cb) (lo:=z1.2.1.toNat) (hi:=(w64 (z1.2.1+z1.1)).toNat) (xs:=b) IZ J3 rfl rfl (yb rfl hk10) (fU rfl hk9) (Ip hk11) (bC hk9) hbc) (k:=sV (wC (hb.cut (cap:=cb) (lo:=z1.2.1.toNat) (hi:=(w64 (z1.2.1+z1.1)).toNat) (Ip hk11) (bC hk9) hbc) IZ J5 IX rfl rfl) (k:=mV (k:=aV (k:=aV (k:=aV (k:=I3 ?_))))))
 exact I8 λw hw=>by obtain rfl:=Option.some.inj h; exact⟨by kernel_rfl,fr_ hF hw⟩
abbrev qa(gr_:Nat)(er_:Nat)(r:ac×ByteArray)(U:List Rowb)(Γ:Gh)(v:Value):Prop := ∃(rowr_':Rowb),v = .string r.2∧U = [rowr_']∧ac.ob er_ Γ gr_ rowr_' r.1∧r.2.size≤lim∧True
theorem lA{gr_ er_:Nat}{rowr_:Rowb}{r_:ac}(hr_:ac.ob er_ Γ gr_ rowr_ r_)(hp:Pre [rowr_] Γ w0){r:ac×ByteArray}(h:ce r_=some r):Calls Tryz.prog 138 #[(pq gr_)] w0 (Outc Γ [rowr_] w0 (qa gr_ er_ r)):=by
 refine goV [2] func138 ntmps138 results138 hp λF hF=>?_
 refine I4 (aV (k:=I3 (I5 (I4 (mV (k:=sV nlV (k:=sV (q_fl 2 jE) (k:=?_))))))))
 obtain⟨A0_1,c0_1,hrow_1,ho0_1,ho1_1,ho2_1,-⟩:=id hr_
 refine ufR 0 hrow_1 [_] ?_
 refine sV (ldV 0 JD) (k:=I3 ?_)
 refine ciV h (λhb2 h=>?_) (λhb2 h=>?_)
 ·
  refine I4 (aV (k:=I3 ?_))
  refine I8 ?_
  intro w hw
  have hw:=hw.fold (is:=[0]) rfl hrow_1
  exact re_ r [0] h hF hw ⟨rowr_,rfl,rfl,hr_,(show (ByteArray.empty:ByteArray).size≤lim by decide),trivial⟩
 refine I7 (wc_ (I5 ?_))
 refine drV ?_
 refine zV moV (k:=zV nlV (k:=zV (q_fl 0 rH) (k:=zV (ldV 0 J9) (k:=zV moV (k:=zV nlV (k:=zV (q_fl 1 nC) (k:=zV (ldV 0 Jc) (k:=?_))))))))
 refine zV moV (k:=zV nlV (k:=zV (q_fl 0 rH) (k:=zV (ldV 0 J9) (k:=zV (ag rfl IZ) (k:=?_)))))
 obtain⟨z4,hz5,h⟩:=bnd h
 refine wc rfl rfl rfl (bK (caV call174) (λw hw=>uf (Γ:=Gh.all w) (ho1_1.mono hw.sat.le_all) ho0_1 r_.at_ ho2_1 (r_.b.length:Int) (mL ho1_1.le) (Sat.all w) hz5)) (zV moV (k:=zV exV (k:=zV exV (k:=zV exV (k:=zV aoV (k:=zV aoV (k:=zV aoV (k:=?_))))))))
 refine Ij ?_
 change WC _ _ _ _ _ _
 refine I5 (I4 (mV (k:=sV bD (k:=I3 ?_))))
 refine ciV h (λhb6 h=>?_) (λhb6 h=>?_)
 ·
  refine I4 (mV (k:=sV nlV (k:=sV (q_fl 2 jE) (k:=stV 0 (.bool true) #[.slice A0_1 r_.b.length c0_1,ii r_.at_,.bool true] Jw (k:=I3 (I4 (aV (k:=?_))))))))
  refine I3 ?_
  refine I8 ?_
  intro w hw
  obtain⟨row_7,hrow_7,hob_7⟩:∃rw:Rowb,rw=([[(gr_,.cells #[.slice A0_1 r_.b.length c0_1,ii r_.at_,.bool true] er_ (0,0))]]:List Rowb).flatten∧ac.ob er_ Γ gr_ rw (⟨r_.b,r_.at_,true⟩:ac):=⟨_,rfl,A0_1,c0_1,rfl,ho0_1,ho1_1,ho2_1,trivial⟩
  have hw:=hw.fold (is:=[0]) rfl hrow_7
  cases h
  subst hF
  exact aL (is:=[0]) (by kernel_rfl) hw rfl ⟨row_7,rfl,rfl,hob_7,(show (ByteArray.empty:ByteArray).size≤lim by decide),trivial⟩
 refine I7 (wc_ (I4 (mV (k:=mV (k:=sV nlV (k:=sV (q_fl 1 nC) (k:=stV 0 (ii z4.2.1) #[.slice A0_1 r_.b.length c0_1,ii z4.2.1,.bool r_.bad] Jb (k:=?_))))))))
 refine I3 (I4 (mV (k:=aV (k:=I3 ?_))))
 refine I8 ?_
 intro w hw
 obtain⟨hk9,h⟩:=am h
 obtain⟨row_8,hrow_8,hob_8⟩:∃rw:Rowb,rw=([[(gr_,.cells #[.slice A0_1 r_.b.length c0_1,ii z4.2.1,.bool r_.bad] er_ (0,0))]]:List Rowb).flatten∧ac.ob er_ Γ gr_ rw (⟨r_.b,z4.2.1,r_.bad⟩:ac):=⟨_,rfl,A0_1,c0_1,rfl,ho0_1,ho1_1,(gM hk9),trivial⟩
 have hw:=hw.fold (is:=[0]) rfl hrow_8
 obtain⟨hk10,h⟩:=am h
 cases h
 subst hF
 exact aL (is:=[0]) (by kernel_rfl) hw rfl ⟨row_8,rfl,rfl,hob_8,(Ip hk10),trivial⟩
abbrev qq(gr_:Nat)(er_:Nat)(r:ac×Int)(U:List Rowb)(Γ:Gh)(v:Value):Prop := ∃(rowr_':Rowb),v = .int .i64 r.2∧U = [rowr_']∧ac.ob er_ Γ gr_ rowr_' r.1∧I64 r.2∧True
theorem cx{gr_ er_:Nat}{rowr_:Rowb}{r_:ac}(hr_:ac.ob er_ Γ gr_ rowr_ r_)(hp:Pre [rowr_] Γ w0){r:ac×Int}(h:b9 r_=some r):Calls Tryz.prog 140 #[(pq gr_)] w0 (Outc Γ [rowr_] w0 (qq gr_ er_ r)):=by
 refine goV [2] func140 ntmps140 results140 hp λF hF=>?_
 refine I4 (aV (k:=I3 (I5 (I4 (mV (k:=sV nlV (k:=sV (q_fl 2 jE) (k:=?_))))))))
 obtain⟨A0_1,c0_1,hrow_1,ho0_1,ho1_1,ho2_1,-⟩:=id hr_
 refine ufR 0 hrow_1 [_] ?_
 refine sV (ldV 0 JD) (k:=I3 ?_)
 refine ciV h (λhb2 h=>?_) (λhb2 h=>?_)
 ·
  refine I4 (aV (k:=I3 ?_))
  refine I8 ?_
  intro w hw
  have hw:=hw.fold (is:=[0]) rfl hrow_1
  exact re_ r [0] h hF hw ⟨rowr_,rfl,rfl,hr_,iV,trivial⟩
 refine I7 (wc_ (I5 ?_))
 refine drV ?_
 refine zV moV (k:=zV nlV (k:=zV (q_fl 0 rH) (k:=zV (ldV 0 J9) (k:=zV moV (k:=zV nlV (k:=zV (q_fl 1 nC) (k:=zV (ldV 0 Jc) (k:=?_))))))))
 obtain⟨z4,hz5,h⟩:=bnd h
 refine wc rfl rfl rfl (bK (caV call132) (λw hw=>kr (Γ:=Gh.all w) (ho1_1.mono hw.sat.le_all) ho0_1 r_.at_ ho2_1 (Sat.all w) hz5)) (zV moV (k:=zV exV (k:=zV exV (k:=zV exV (k:=zV aoV (k:=zV aoV (k:=zV aoV (k:=?_))))))))
 refine Ij ?_
 change WC _ _ _ _ _ _
 refine I5 (I4 (mV (k:=sV bD (k:=I3 ?_))))
 refine ciV h (λhb6 h=>?_) (λhb6 h=>?_)
 ·
  refine I4 (mV (k:=sV nlV (k:=sV (q_fl 2 jE) (k:=stV 0 (.bool true) #[.slice A0_1 r_.b.length c0_1,ii r_.at_,.bool true] Jw (k:=I3 (I4 (aV (k:=?_))))))))
  refine I3 ?_
  refine I8 ?_
  intro w hw
  obtain⟨row_7,hrow_7,hob_7⟩:∃rw:Rowb,rw=([[(gr_,.cells #[.slice A0_1 r_.b.length c0_1,ii r_.at_,.bool true] er_ (0,0))]]:List Rowb).flatten∧ac.ob er_ Γ gr_ rw (⟨r_.b,r_.at_,true⟩:ac):=⟨_,rfl,A0_1,c0_1,rfl,ho0_1,ho1_1,ho2_1,trivial⟩
  have hw:=hw.fold (is:=[0]) rfl hrow_7
  cases h
  subst hF
  exact aL (is:=[0]) (by kernel_rfl) hw rfl ⟨row_7,rfl,rfl,hob_7,iV,trivial⟩
 refine I7 (wc_ (I4 (mV (k:=mV (k:=sV nlV (k:=sV (q_fl 1 nC) (k:=stV 0 (ii z4.2.1) #[.slice A0_1 r_.b.length c0_1,ii z4.2.1,.bool r_.bad] Jb (k:=?_))))))))
 refine I3 (I4 (mV (k:=aV (k:=I3 ?_))))
 refine I8 ?_
 intro w hw
 obtain⟨hk9,h⟩:=am h
 obtain⟨row_8,hrow_8,hob_8⟩:∃rw:Rowb,rw=([[(gr_,.cells #[.slice A0_1 r_.b.length c0_1,ii z4.2.1,.bool r_.bad] er_ (0,0))]]:List Rowb).flatten∧ac.ob er_ Γ gr_ rw (⟨r_.b,z4.2.1,r_.bad⟩:ac):=⟨_,rfl,A0_1,c0_1,rfl,ho0_1,ho1_1,(gM hk9),trivial⟩
 have hw:=hw.fold (is:=[0]) rfl hrow_8
 obtain⟨hk10,h⟩:=am h
 cases h
 subst hF
 exact aL (is:=[0]) (by kernel_rfl) hw rfl ⟨row_8,rfl,rfl,hob_8,(gM hk10),trivial⟩
abbrev oH(gr_:Nat)(er_:Nat)(r:ac×Int)(U:List Rowb)(Γ:Gh)(v:Value):Prop := ∃(rowr_':Rowb),v = .int .i64 r.2∧U = [rowr_']∧ac.ob er_ Γ gr_ rowr_' r.1∧I64 r.2∧True
theorem lm{gr_ er_:Nat}{rowr_:Rowb}{r_:ac}(hr_:ac.ob er_ Γ gr_ rowr_ r_)(hp:Pre [rowr_] Γ w0){r:ac×Int}(h:bS r_=some r):Calls Tryz.prog 139 #[(pq gr_)] w0 (Outc Γ [rowr_] w0 (oH gr_ er_ r)):=by
 refine goV [2] func139 ntmps139 results139 hp λF hF=>?_
 refine I4 (aV (k:=I3 (I4 (mV (k:=?_)))))
 obtain⟨z1,hz2,h⟩:=bnd h
 refine ecV [0] (caV call140) (λw hp=>cx hr_ hp hz2) ?_
 rintro Γ3 _ _ hl4 ⟨row7,rfl,rfl,hr8,hr9,_⟩
 refine cwV 5 [_] (aV (k:=I3 (I5 (I5 ?_))))
 obtain⟨A0_10,c0_10,hrow_10,ho0_10,ho1_10,ho2_10,-⟩:=id hr8
 refine ufC 0 hrow_10 [_] ?_
 refine drV ?_
 refine zV moV (k:=zV moV (k:=zV nlV (k:=zV (q_fl 0 rH) (k:=zV (ldV 0 J9) (k:=zV (ag rfl IZ) (k:=zV moV (k:=zV nlV (k:=?_))))))))
 refine zV (q_fl 1 nC) (k:=zV (ldV 0 Jc) (k:=zV fO (k:=zV bi (k:=?_))))
 refine Ij ?_
 change WC _ _ _ _ _ _
 refine ciV h (λhb11 h=>?_) (λhb11 h=>?_)
 ·
  refine I4 (mV (k:=sV nlV (k:=sV (q_fl 2 jE) (k:=stV 0 (.bool true) #[.slice A0_10 z1.1.b.length c0_10,ii z1.1.at_,.bool true] Jw (k:=I3 (I4 (aV (k:=?_))))))))
  refine I3 ?_
  refine I8 ?_
  intro w hw
  obtain⟨row_12,hrow_12,hob_12⟩:∃rw:Rowb,rw=([[(gr_,.cells #[.slice A0_10 z1.1.b.length c0_10,ii z1.1.at_,.bool true] er_ (0,0))]]:List Rowb).flatten∧ac.ob er_ Γ3 gr_ rw (⟨z1.1.b,z1.1.at_,true⟩:ac):=⟨_,rfl,A0_10,c0_10,rfl,ho0_10,ho1_10,ho2_10,trivial⟩
  have hw:=hw.fold (is:=[0]) rfl hrow_12
  cases h
  subst hF
  exact aL (is:=[0]) (by kernel_rfl) hw rfl ⟨row_12,rfl,rfl,hob_12,iV,trivial⟩
 refine I7 (wc_ (I4 (mV (k:=aV (k:=I3 ?_)))))
 refine I8 ?_
 intro w hw
 have hw:=hw.fold (is:=[0]) rfl hrow_10
 exact re_ r [0] h hF hw ⟨row7,rfl,rfl,hr8,hr9,trivial⟩
abbrev pc(gr_:Nat)(er_:Nat)(r:ac×(List Span))(U:List Rowb)(Γ:Gh)(v:Value):Prop := ∃(rowr_':Rowb), ∃(A0:Option Addr), ∃(c0:Nat), ∃(row0:Rowb),v = .slice A0 r.2.length c0∧U = [rowr_',row0]∧ac.ob er_ Γ gr_ rowr_' r.1∧Own gS Γ 41 row0 A0 c0 r.2∧True
theorem pk{gr_ er_:Nat}{rowr_:Rowb}{r_:ac}(hr_:ac.ob er_ Γ gr_ rowr_ r_)(hp:Pre [rowr_] Γ w0){r:ac×(List Span)}(h:cD r_=some r):Calls Tryz.prog 141 #[(pq gr_)] w0 (Outc Γ [rowr_] w0 (pc gr_ er_ r)):=by
 refine goV [2] func141 ntmps141 results141 hp λF hF=>?_
 refine I4 (aV (k:=I3 (I4 (aV (k:=I3 (I4 (mV (k:=?_))))))))
 obtain⟨z1,hz2,h⟩:=bnd h
 refine ecV [0] (caV call139) (λw hp=>lm hr_ hp hz2) ?_
 rintro Γ3 _ _ hl4 ⟨row7,rfl,rfl,hr8,hr9,_⟩
 refine cwV 10 [_] (aV (k:=I3 (I5 (I4 (aV (k:=I3 (Ia ?_)))))))
 refine Il h (λ(s:(List Span)×Int×ac) σ w=>match s with | (out_12,i_17,o19) => ∃(Γ10:Gh), ∃(A13:Option Addr), ∃(c14:Nat), ∃(row15:Rowb), ∃(row20:Rowb),slots σ [(0,(pq gr_)),(3,.slice A13 out_12.length c14),(4,ii z1.2),(5,ii i_17)]∧CC F Γ10 [row15,row20] w∧Gh.le Γ3 Γ10∧Own gS Γ10 41 row15 A13 c14 out_12∧I64 i_17∧ac.ob er_ Γ10 gr_ row20 o19∧True) ?_ ?_
 ·
  intro w hw
  have hw:=hw.pad
  exact⟨Γ3,none,0,[],row7,slK,hw,gR,(Own.nil gS _ 41),iV,hr8,trivial⟩
 rintro f22 ⟨out_12,i_17,o19⟩ σ w h ⟨Γ10,A13,c14,row15,row20,hsl,hw,hl11,ho16,hr18,ho21,-⟩
 refine slV hsl hw [_,_] ?_; clear hw hsl
 refine I5 (I4 (mV (k:=mV (k:=sV aG (k:=mV (k:=vG1 (h:=λhg26=>moV) (k:=vG1 (h:=λhg27=>nlV (hv:=grV hg27)) (k:=?_))))))))
 refine vG1 (h:=λhg28=>q_fl 2 jE rfl (grV hg28)) (k:=?_)
 obtain⟨A0_30,c0_30,hrow_30,ho0_30,ho1_30,ho2_30,-⟩:=id ho21
 refine ufR 1 hrow_30 [_,_] ?_
 refine vG1 (h:=λhg31=>ldV 0 JD (hx:=grV hg31)) (k:=vG1 (h:=λhg32=>cY rfl (grV hg32)) (k:=sV pkA (k:=I3 ?_)))
 refine ciV h (λhb33 h=>?_) (λhb33 h=>?_)
 ·
  refine I7 (wc_ (I5 (Ia (I4 (mV (k:=?_))))))
  refine foR [0] hrow_30 [_,_] ?_
  obtain⟨z35,hz36,h⟩:=bnd h
  refine ecV [0] (caV call140) (λw hp=>cx ho21 hp hz36) ?_
  rintro Γ37 _ _ hl38 ⟨row41,rfl,rfl,hr42,hr43,_⟩
  refine cwV 24 [_,_] (aV (k:=I3 (I4 (mV (k:=?_)))))
  obtain⟨z44,hz45,h⟩:=bnd h
  refine ecV [0] (caV call140) (λw hp=>cx hr42 hp hz45) ?_
  rintro Γ46 _ _ hl47 ⟨row50,rfl,rfl,hr51,hr52,_⟩
  refine cwV 26 [_,_] (aV (k:=I3 (I4 (mV (k:=?_)))))
  obtain⟨z53,hz54,h⟩:=bnd h
  refine ecV [0] (caV call140) (λw hp=>cx hr51 hp hz54) ?_
  rintro Γ55 _ _ hl56 ⟨row59,rfl,rfl,hr60,hr61,_⟩
  refine cwV 28 [_,_] (aV (k:=I3 (I5 (I4 (mV (k:=sV bi (k:=mV (k:=?_))))))))
  refine vG0 (h:=λhg62=>moV) (k:=vG0 (h:=λhg63=>bi rfl (grV hg63)) (k:=sV pkO (k:=I3 ?_)))
  refine ciV h (λhb64 h=>?_) (λhb64 h=>?_)
  ·
   refine I4 (mV (k:=sV nlV (k:=sV (q_fl 2 jE) (k:=?_))))
   obtain⟨A0_65,c0_65,hrow_65,ho0_65,ho1_65,ho2_65,-⟩:=id hr60
   refine ufR 0 hrow_65 [_,_] ?_
   refine stV 0 (.bool true) #[.slice A0_65 z53.1.b.length c0_65,ii z53.1.at_,.bool true] Jw (k:=I3 (I4 (aV (k:=I3 ?_))))
   refine I8 ?_
   intro w hw
   obtain⟨row_66,hrow_66,hob_66⟩:∃rw:Rowb,rw=([[(gr_,.cells #[.slice A0_65 z53.1.b.length c0_65,ii z53.1.at_,.bool true] er_ (0,0))]]:List Rowb).flatten∧ac.ob er_ Γ55 gr_ rw (⟨z53.1.b,z53.1.at_,true⟩:ac):=⟨_,rfl,A0_65,c0_65,rfl,ho0_65,ho1_65,ho2_65,trivial⟩
   have hw:=hw.fold (is:=[0]) rfl hrow_66
   have hw:=hw.pad
   cases h
   subst hF
   exact aL (is:=[1,0]) (by kernel_rfl) hw rfl ⟨row_66,none,0,[],rfl,rfl,hob_66,(Own.nil gS _ 41),trivial⟩
  refine I7 (wc_ ?_)
  refine I9 ?_
  refine mV (k:=mV (k:=mV (k:=mV (k:=mV (k:=sV bR (k:=sV (aZ (v:=.agg #[ii z35.2,ii z44.2,ii (w64 (z44.2+z53.2))]) rfl (uV rfl rfl rfl) (λw=>by kernel_rfl)) (k:=?_)))))))
  refine bsV #[ii z35.2,ii z44.2,ii (w64 (z44.2+z53.2))] 41 λg67=>?_
  obtain⟨hk68,h⟩:=am h
  refine apV 2 [(⟨z35.2,z44.2,(w64 (z44.2+z53.2))⟩:Span)] vV (ho16.mono ((hl38.trans hl47).trans hl56)) (Ip hk68) (λw hw=>bM (i:=0) rfl (by exact⟨rfl,⟨hr43,hr52,(dR _)⟩⟩) hw) ?_
  intro row69 A70 c71 ho72
  refine aV (k:=?_)
  refine I6 ?_
  change WC _ _ _ _ _ _
  refine I9 ?_
  refine mV (k:=sV bR (k:=aV (k:=?_)))
  exact I6 λw hw=>⟨((out_12++[(⟨z35.2,z44.2,(w64 (z44.2+z53.2))⟩:Span)]),(w64 (i_17+1)),z53.1),h,Γ55,A70,c71,row69,row59,slK,(hw.on [2,1]),(((hl11.trans hl38).trans hl47).trans hl56),ho72,(dR _),hr60,trivial⟩
 refine Ic ?_
 change WC _ _ _ _ _ _
 refine I4 (mV (k:=aV (k:=I3 ?_)))
 refine I8 ?_
 intro w hw
 have hw:=hw.fold (is:=[0]) rfl hrow_30
 exact re_ r [0,0] h hF hw ⟨row20,A13,c14,row15,rfl,rfl,ho21,ho16,trivial⟩
abbrev qk(gr_:Nat)(er_:Nat)(r:ac×Rec)(U:List Rowb)(Γ:Gh)(v:Value):Prop := ∃(rowr_':Rowb), ∃(A0_1:Option Addr), ∃(c0_1:Nat),v = .agg #[.string r.2.key,.slice A0_1 r.2.vers.length c0_1]∧U = [rowr_']∧ac.ob er_ Γ gr_ rowr_' r.1∧Rec.fits Γ A0_1 c0_1 r.2∧True
theorem ql{gr_ er_:Nat}{rowr_:Rowb}{r_:ac}(hr_:ac.ob er_ Γ gr_ rowr_ r_)(hp:Pre [rowr_] Γ w0){r:ac×Rec}(h:df r_=some r):Calls Tryz.prog 91 #[(pq gr_)] w0 (Outc Γ [rowr_] w0 (qk gr_ er_ r)):=by
 refine fH (N:=59) (rs:=[.cell 2 24]) (args:=[(pq gr_)]) func91 rfl ntmps91 results91 rfl ?_
 obtain⟨F,hF⟩:∃F:Fm,F=⟨ids [rowr_],w0,Γ⟩:=⟨_,rfl⟩
 refine Ik (C:=CC F Γ [rowr_]) ?_ (hF▸hp.start)
 refine I4 ?_
 refine alV Jy λg1=>?_
 refine I3 (I4 (mV (k:=?_)))
 obtain⟨z2,hz3,h⟩:=bnd h
 refine ecV [1] (caV call138) (λw hp=>lA hr_ hp hz3) ?_
 rintro Γ4 _ _ hl5 ⟨row8,rfl,rfl,hr9,hr10,_⟩
 refine cwV 9 [_,_] (sV (aZ (v:=.agg #[.string z2.2,.slice none 0 0]) rfl (l7 rfl) (λw=>by kernel_rfl)) (k:=?_))
 refine alV Jy λg11=>?_
 refine stV 0 (.agg #[.string z2.2,.slice none 0 0]) #[.string z2.2,.slice none 0 0] Jz (k:=I3 (I4 (mV (k:=?_))))
 obtain⟨z12,hz13,h⟩:=bnd h
 refine ecV [1] (caV call139) (λw hp=>lm hr9 hp hz13) ?_
 rintro Γ14 _ _ hl15 ⟨row18,rfl,rfl,hr19,hr20,_⟩
 refine cwV 12 [_,_,_] (aV (k:=I3 (I5 (I4 (aV (k:=I3 (Ia ?_)))))))
 refine Il h (λ(s:Int×(List Ver)×ac) σ w=>match s with | (i_23,x25,o30) => ∃(Γ21:Gh), ∃(A26:Option Addr), ∃(c27:Nat), ∃(row28:Rowb), ∃(row31:Rowb),slots σ [(0,(pq gr_)),(2,(pq g1)),(3,(pq g11)),(4,ii z12.2),(5,ii i_23)]∧CC F Γ21 [row28,row31,[(g11,.cells #[.string z2.2,.slice A26 x25.length c27] 24 (0,0))],[(g1,.cells #[.string ByteArray.empty,.slice none 0 0] 24 (0,0))]] w∧Gh.le Γ14 Γ21∧I64 i_23∧Own verT Γ21 39 row28 A26 c27 x25∧ac.ob er_ Γ21 gr_ row31 o30∧True) ?_ ?_
 ·
  intro w hw
  have hw:=hw.pad
  exact⟨Γ14,none,0,[],row18,slK,hw,gR,iV,(Own.nil verT _ 39),hr19,trivial⟩
 rintro f33 ⟨i_23,x25,o30⟩ σ w h ⟨Γ21,A26,c27,row28,row31,hsl,hw,hl22,hr24,ho29,ho32,-⟩
 refine slV hsl hw [_,_,_,_] ?_; clear hw hsl
 refine I5 (I4 (mV (k:=mV (k:=sV aG (k:=mV (k:=vG1 (h:=λhg37=>moV) (k:=vG1 (h:=λhg38=>nlV (hv:=grV hg38)) (k:=?_))))))))
 refine vG1 (h:=λhg39=>q_fl 2 jE rfl (grV hg39)) (k:=?_)
 obtain⟨A0_41,c0_41,hrow_41,ho0_41,ho1_41,ho2_41,-⟩:=id ho32
 refine ufR 1 hrow_41 [_,_,_,_] ?_
 refine vG1 (h:=λhg42=>ldV 0 JD (hx:=grV hg42)) (k:=vG1 (h:=λhg43=>cY rfl (grV hg43)) (k:=sV pkA (k:=I3 ?_)))
 refine ciV h (λhb44 h=>?_) (λhb44 h=>?_)
 ·
  refine I7 (wc_ (I5 (Ia (I4 (sV (fl (v:=.agg #[ii 0,ii 0,.slice none 0 0,.bool false,.string ByteArray.empty]) rfl (λw=>by kernel_rfl)) (k:=?_))))))
  refine alV Jt λg45=>?_
  refine stV 0 (.agg #[ii 0,ii 0,.slice none 0 0,.bool false,.string ByteArray.empty]) #[ii 0,ii 0,.slice none 0 0,.bool false,.string ByteArray.empty] Ju (k:=I3 (I4 (mV (k:=?_))))
  refine foR [1] hrow_41 [_,_,_,_,_] ?_
  obtain⟨z47,hz48,h⟩:=bnd h
  refine ecV [0] (caV call140) (λw hp=>cx ho32 hp hz48) ?_
  rintro Γ49 _ _ hl50 ⟨row53,rfl,rfl,hr54,hr55,_⟩
  refine cwV 27 [_,_,_,_,_] (sV (q_fl 0 bO) (k:=sV (q_fl 0 cJ) (k:=stV 1 (ii z47.2) #[ii z47.2,ii 0,.slice none 0 0,.bool false,.string ByteArray.empty] Jb (k:=I3 (I4 (mV (k:=?_)))))))
  obtain⟨z56,hz57,h⟩:=bnd h
  refine ecV [0] (caV call140) (λw hp=>cx hr54 hp hz57) ?_
  rintro Γ58 _ _ hl59 ⟨row62,rfl,rfl,hr63,hr64,_⟩
  refine cwV 31 [_,_,_,_,_] (sV (q_fl 0 bO) (k:=sV (q_fl 1 cA) (k:=stV 1 (ii z56.2) #[ii z47.2,ii z56.2,.slice none 0 0,.bool false,.string ByteArray.empty] Jk (k:=I3 (I4 (mV (k:=?_)))))))
  obtain⟨z65,hz66,h⟩:=bnd h
  refine ecV [0] (caV call141) (λw hp=>pk hr63 hp hz66) ?_
  rintro Γ67 _ _ hl68 ⟨row71,A73,c74,row75,rfl,rfl,hr72,hr76,_⟩
  refine cwV 35 [_,_,_,_,_,_] (sV (q_fl 2 fI) (k:=stV 2 (.slice A73 z65.2.length c74) #[ii z47.2,ii z56.2,.slice A73 z65.2.length c74,.bool false,.string ByteArray.empty] sizeOf37 (k:=I3 (I4 (mV (k:=?_))))))
  obtain⟨z77,hz78,h⟩:=bnd h
  refine ecV [0] (caV call140) (λw hp=>cx hr72 hp hz78) ?_
  rintro Γ79 _ _ hl80 ⟨row83,rfl,rfl,hr84,hr85,_⟩
  refine cwV 38 [_,_,_,_,_,_] (aV (k:=I3 ?_))
  refine Id (λσ w => ∃(x88:ByteArray), ∃(o90:ac), ∃(Γ86:Gh), ∃(row91:Rowb),cn i_23 x25 f33 z47 z56 z65 z77 x88 o90=some r∧slots σ [(0,(pq gr_)),(2,(pq g1)),(3,(pq g11)),(4,ii z12.2),(5,ii i_23),(6,(pq g45)),(7,ii z77.2)]∧CC F Γ86 [row91,row75,[(g45,.cells #[ii z47.2,ii z56.2,.slice A73 z65.2.length c74,.bool false,.string x88] 39 (0,0))],row28,[(g11,.cells #[.string z2.2,.slice A26 x25.length c27] 24 (0,0))],[(g1,.cells #[.string ByteArray.empty,.slice none 0 0] 24 (0,0))]] w∧Gh.le Γ79 Γ86∧x88.size≤lim∧ac.ob er_ Γ86 gr_ row91 o90∧True) ?_ ?_
  ·
   refine I4 (mV (k:=sV bp (k:=I3 ?_)))
   refine ciV h (λhb93 h=>?_) (λhb93 h=>?_)
   ·
    refine I9 ?_
    refine mV (k:=?_)
    obtain⟨z94,hz95,h⟩:=bnd h
    refine ecV [0] (caV call138) (λw hp=>lA hr84 hp hz95) ?_
    rintro Γ96 _ _ hl97 ⟨row100,rfl,rfl,hr101,hr102,_⟩
    refine cwV 42 [_,_,_,_,_,_] (sV (q_fl 4 jw) (k:=stV 2 (.string z94.2) #[ii z47.2,ii z56.2,.slice A73 z65.2.length c74,.bool false,.string z94.2] Ji (k:=?_)))
    exact I6 λw hw=>⟨z94.2,z94.1,Γ96,row100,h,slK,hw,hl97,hr102,hr101,trivial⟩
   exact I7 λw hw=>⟨ByteArray.empty,z77.1,Γ79,row83,h,slK,hw,gR,(show (ByteArray.empty:ByteArray).size≤lim by decide),hr84,trivial⟩
  rintro σ w ⟨x88,o90,Γ86,row91,h,hsl,hw,hl87,hr89,ho92,-⟩
  refine slV hsl hw [_,_,_,_,_,_] ?_; clear hw hsl
  refine I4 (mV (k:=sV bp (k:=sV (q_fl 3 jC) (k:=stV 2 (.bool (z77.2==1)) #[ii z47.2,ii z56.2,.slice A73 z65.2.length c74,.bool (z77.2==1),.string x88] Jw (k:=I3 ?_)))))
  refine Id (λσ w => ∃(o103:ac), ∃(row104:Rowb),cm i_23 x25 f33 z47 z56 z65 z77 x88 o103=some r∧slots σ [(0,(pq gr_)),(2,(pq g1)),(3,(pq g11)),(4,ii z12.2),(5,ii i_23),(6,(pq g45))]∧CC F Γ86 [row104,row75,[(g45,.cells #[ii z47.2,ii z56.2,.slice A73 z65.2.length c74,.bool (z77.2==1),.string x88] 39 (0,0))],row28,[(g11,.cells #[.string z2.2,.slice A26 x25.length c27] 24 (0,0))],[(g1,.cells #[.string ByteArray.empty,.slice none 0 0] 24 (0,0))]] w∧ac.ob er_ Γ86 gr_ row104 o103∧True) ?_ ?_
  ·
   refine I4 (mV (k:=sV bi (k:=I3 ?_)))
   refine ciV h (λhb106 h=>?_) (λhb106 h=>?_)
   ·
    refine I9 ?_
    refine mV (k:=sV nlV (k:=sV (q_fl 2 jE) (k:=?_)))
    obtain⟨A0_107,c0_107,hrow_107,ho0_107,ho1_107,ho2_107,-⟩:=id ho92
    refine ufR 0 hrow_107 [_,_,_,_,_,_] ?_
    refine stV 0 (.bool true) #[.slice A0_107 o90.b.length c0_107,ii o90.at_,.bool true] Jw (k:=?_)
    refine I6 ?_
    intro w hw
    obtain⟨row_108,hrow_108,hob_108⟩:∃rw:Rowb,rw=([[(gr_,.cells #[.slice A0_107 o90.b.length c0_107,ii o90.at_,.bool true] er_ (0,0))]]:List Rowb).flatten∧ac.ob er_ Γ86 gr_ rw (⟨o90.b,o90.at_,true⟩:ac):=⟨_,rfl,A0_107,c0_107,rfl,ho0_107,ho1_107,ho2_107,trivial⟩
    have hw:=hw.fold (is:=[0]) rfl hrow_108
    exact⟨(⟨o90.b,o90.at_,true⟩:ac),row_108,h,slK,hw,hob_108,trivial⟩
   exact I7 λw hw=>⟨o90,row91,h,slK,hw,ho92,trivial⟩
  rintro σ w ⟨o103,row104,h,hsl,hw,ho105,-⟩
  refine slV hsl hw [_,_,_,_,_,_] ?_; clear hw hsl
  refine I9 ?_
  refine sV (q_fl 1 ci) (k:=sV (ldV 4 JH) (k:=sV (ldaV 2 [ii z47.2,ii z56.2,.slice A73 z65.2.length c74,.bool (z77.2==1),.string x88] Jx Ju) (k:=?_)))
  have hc113:=(hr76.mono (hl80.trans hl87)).capz
  refine seR 1 [_,_,_,_,_,_] λΓ109 hl110 hr111=>?_
  have hs112:=(hr76.mono (hl80.trans hl87)).sl hl110 hr111
  refine bsV #[ii z47.2,ii z56.2,.slice A73 z65.2.length c74,.bool (z77.2==1),.string x88] 39 λg114=>?_
  obtain⟨hk115,h⟩:=am h
  refine apV 4 [(⟨(⟨z47.2,z56.2⟩:Dot),z65.2,(z77.2==1),x88⟩:Ver)] vZ (ho29.mono (((((hl50.trans hl59).trans hl68).trans hl80).trans hl87).trans hl110)) (Ip hk115) (λw hw=>bM (i:=0) rfl (by exact⟨A73,c74,rfl,⟨hr55,hr64,⟨hc113,hs112⟩,hr89⟩⟩) hw) ?_
  intro row116 A117 c118 ho119
  refine sV (q_fl 1 ci) (k:=stV 5 (.slice A117 (x25++[(⟨(⟨z47.2,z56.2⟩:Dot),z65.2,(z77.2==1),x88⟩:Ver)]).length c118) #[.string z2.2,.slice A117 (x25++[(⟨(⟨z47.2,z56.2⟩:Dot),z65.2,(z77.2==1),x88⟩:Ver)]).length c118] sizeOf22 (k:=?_))
  refine I6 ?_
  change WC _ _ _ _ _ _
  refine I9 ?_
  refine mV (k:=sV bR (k:=aV (k:=?_)))
  exact I6 λw hw=>⟨((w64 (i_23+1)),(x25++[(⟨(⟨z47.2,z56.2⟩:Dot),z65.2,(z77.2==1),x88⟩:Ver)]),o103),h,Γ109,A117,c118,row116,row104,slK,(hw.on [4,1,3,3]),((((((hl22.trans hl50).trans hl59).trans hl68).trans hl80).trans hl87).trans hl110),(dR _),ho119,(ho105.mono hl110),trivial⟩
 refine Ic ?_
 change WC _ _ _ _ _ _
 refine I4 (sV (ldaV 2 [.string z2.2,.slice A26 x25.length c27] JA Jz) (k:=stV 3 (.agg #[.string z2.2,.slice A26 x25.length c27]) #[.string z2.2,.slice A26 x25.length c27] Jz (k:=I3 ?_)))
 refine I8 ?_
 intro w hw
 have hc124:=ho29.capz
 obtain⟨Γ120,hw,hl121,hr122⟩:=hw.seal (i:=1) rfl; have hs123:=ho29.sl hl121 hr122
 have hw:=hw.fold (is:=[0]) rfl hrow_41
 cases h
 subst hF
 exact⟨[.agg #[.string z2.2,.slice A26 x25.length c27]],(j8 (i:=3) (us:=[.string z2.2,.slice A26 x25.length c27]) hw rfl JA Jz (by kernel_rfl) rfl jh),aL (is:=[0]) (by kernel_rfl) hw rfl ⟨row31,A26,c27,rfl,rfl,(ho32.mono hl121),⟨hr10,⟨hc124,hs123⟩⟩,trivial⟩⟩
theorem mi(d:Dot)(hd:Dot.fits Γ  d)(hs:Sat Γ w0){r:Bool}(h:iZ d=some r):CQ Tryz.prog 112 #[.agg (Dot.cs d).toArray] w0 (.bool r):=by
 refine goQ [2] func112 ntmps112 results112 hs λF hF=>?_
 refine I4 ?_
 refine bxV (v:=.agg (Dot.cs d).toArray) λg1=>?_
 refine aV (k:=I3 (I4 (sV (q_fl 0 cJ) (k:=sV (ldV 0 Jc) (k:=sV lz (k:=mV (k:=vG1 (h:=λhg2=>q_fl 0 cJ) (k:=?_))))))))
 refine vG1 (h:=λhg3=>ldV 0 Jc (hx:=grV hg3)) (k:=vG1 (h:=λhg4=>kM rfl (grV hg4)) (k:=sV pkA (k:=mV (k:=vG1 (h:=λhg5=>q_fl 1 cA) (k:=vG1 (h:=λhg6=>ldV 0 Jl (hx:=grV hg6)) (k:=vG1 (h:=λhg7=>lz rfl (grV hg7)) (k:=sV pkA (k:=?_))))))))
 refine mV (k:=vG1 (h:=λhg8=>q_fl 1 cA) (k:=vG1 (h:=λhg9=>ldV 0 Jl (hx:=grV hg9)) (k:=vG1 (h:=λhg10=>kM rfl (grV hg10)) (k:=sV pkA (k:=aV (k:=I3 ?_))))))
 exact I8 λw hw=>rq_ r h hF hw
theorem sC{Al:Option Addr}{cl:Nat}{l:List Span}(hl:Sl gS Γ Al l)(hlc:l.length≤cl)(hs:Sat Γ w0){r:Bool}(h:jn l=some r):CQ Tryz.prog 113 #[.slice Al l.length cl] w0 (.bool r):=by
 refine goQ [2] func113 ntmps113 results113 hs λF hF=>?_
 refine I4 (aV (k:=I3 (I5 (I4 (mV (k:=sV (ag rfl JB) (k:=sV bi (k:=?_))))))))
 refine I3 ?_
 refine ciV h (λhb1 h=>?_) (λhb1 h=>?_)
 ·
  refine I4 (aV (k:=I3 ?_))
  exact I8 λw hw=>rq_ r h hF hw
 refine I7 (wc_ (I5 (I4 (aV (k:=I3 (Ia ?_))))))
 refine Ie h (λ(i3:Nat) (s:Unit) σ w=>match s with | ()=>slots σ [(0,.slice Al l.length cl),(3,ii (i3:Int))]∧CC F Γ [] w∧True) ?_ ?_
 ·
  intro w hw
  exact⟨slK,hw,trivial⟩
 rintro f2 i3 ⟨⟩ σ w hi4 hlt5 hge6 ⟨hsl,hw,-⟩
 refine slV hsl hw [] ?_; clear hw hsl
 refine I5 (I4 (mV (k:=mV (k:=sV (ag rfl JB) (k:=sV aG (k:=I3 ?_))))))
 refine coV (λhb7=>?_) (λhb7=>?_)
 ·
  have hl8:=ilt hb7
  have h:=hlt5 hl8
  refine I7 (wc_ (I5 (Ia (I5 (I5 ?_)))))
  refine drV ?_
  refine zV moV (k:=zV moV (k:=zV (aN (i:=i3) JB Jr rfl rfl rfl hl8 (hl.some_ hl8)) (k:=zV (ay (i3*3) eM rfl rfl (hl.some_ hl8) rfl) (k:=zV (q_ld (c:=0) (v:=ii (gt l i3).s) (hl.spanT_at hl8).2 rfl Jc rfl rfl) (k:=zV moV (k:=zV moV (k:=zV (aN (i:=i3) JB Jr rfl rfl rfl hl8 (hl.some_ hl8)) (k:=?_))))))))
  refine zV (ay (i3*3+1) eI rfl rfl (hl.some_ hl8) rfl) (k:=zV (q_ld (c:=1) (v:=ii (gt l i3).f) (hl.spanT_at hl8).2 rfl Jl rfl rfl) (k:=zV (aZ (v:=.agg #[ii (gt l i3).s,ii (gt l i3).f]) rfl (jI rfl rfl) (λw=>by kernel_rfl)) (k:=?_)))
  obtain⟨z9,hz10,h⟩:=bnd h
  refine wc rfl rfl rfl (bK (caV call112) (λw hw=>mi (Γ:=Gh.all w) (⟨(gt l i3).s,(gt l i3).f⟩:Dot) ⟨(hl.spanT_at hl8).1.1,(hl.spanT_at hl8).1.2.1⟩ (Sat.all w) hz10)) (zV cY (k:=zV moV (k:=wG0 (h:=λhg11=>moV) (k:=wG0 (h:=λhg12=>moV) (k:=wG0 (h:=λhg13=>aN (i:=i3) JB Jr rfl (grV hg13) (grV hg13) hl8 (hl.some_ hl8)) (k:=wG0 (h:=λhg14=>ay (i3*3) eM rfl (grV hg14) (hl.some_ hl8) rfl) (k:=wG0 (h:=λhg15=>q_ld (c:=0) (v:=ii (gt l i3).s) (hl.spanT_at hl8).2 rfl Jc (grV hg15) rfl) (k:=?_))))))))
  refine wG0 (h:=λhg16=>moV) (k:=wG0 (h:=λhg17=>moV) (k:=wG0 (h:=λhg18=>aN (i:=i3) JB Jr rfl (grV hg18) (grV hg18) hl8 (hl.some_ hl8)) (k:=wG0 (h:=λhg19=>ay (i3*3+2) eu rfl (grV hg19) (hl.some_ hl8) rfl) (k:=wG0 (h:=λhg20=>q_ld (c:=2) (v:=ii (gt l i3).t) (hl.spanT_at hl8).2 rfl Jl (grV hg20) rfl) (k:=wG0 (h:=λhg21=>aZ (v:=.agg #[ii (gt l i3).s,ii (gt l i3).t]) rfl (jI (grV hg21) (grV hg21)) (λw=>by kernel_rfl)) (k:=?_))))))
  obtain⟨z23,hz24,h⟩:=bnd h
  refine wC0 (h:=λhg22=>bK (bb call112 rfl rfl (lT (grV hg22))) (λw hw=>mi (Γ:=Gh.all w) (⟨(gt l i3).s,(gt l i3).t⟩:Dot) ⟨(hl.spanT_at hl8).1.1,(hl.spanT_at hl8).1.2.2⟩ (Sat.all w) (jv hz24 hg22))) (k:=wG0 (h:=λhg25=>cY rfl (grV hg25)) (k:=zV pkO (k:=zV moV (k:=wG0 (h:=λhg26=>moV) (k:=wG0 (h:=λhg27=>moV) (k:=wG0 (h:=λhg28=>aN (i:=i3) JB Jr rfl (grV hg28) (grV hg28) hl8 (hl.some_ hl8)) (k:=wG0 (h:=λhg29=>ay (i3*3+1) eI rfl (grV hg29) (hl.some_ hl8) rfl) (k:=?_))))))))
  refine wG0 (h:=λhg30=>q_ld (c:=1) (v:=ii (gt l i3).f) (hl.spanT_at hl8).2 rfl Jl (grV hg30) rfl) (k:=wG0 (h:=λhg31=>moV) (k:=wG0 (h:=λhg32=>moV) (k:=wG0 (h:=λhg33=>aN (i:=i3) JB Jr rfl (grV hg33) (grV hg33) hl8 (hl.some_ hl8)) (k:=wG0 (h:=λhg34=>ay (i3*3+2) eu rfl (grV hg34) (hl.some_ hl8) rfl) (k:=wG0 (h:=λhg35=>q_ld (c:=2) (v:=ii (gt l i3).t) (hl.spanT_at hl8).2 rfl Jl (grV hg35) rfl) (k:=wG0 (h:=λhg36=>bi rfl (grV hg36) (grV hg36)) (k:=zV pkO (k:=?_))))))))
  refine Ij ?_
  change WC _ _ _ _ _ _
  refine ciV h (λhb37 h=>?_) (λhb37 h=>?_)
  ·
   refine I4 (aV (k:=I3 ?_))
   exact I8 λw hw=>rq_ r h hF hw
  refine I7 (wc_ (I5 ?_))
  refine drV ?_
  refine zV moV (k:=zV bi (k:=zV moV (k:=wG1 (h:=λhg38=>moV) (k:=wG1 (h:=λhg39=>moV) (k:=wG1 (h:=λhg40=>aN (i:=i3) JB Jr rfl (grV hg40) (grV hg40) hl8 (hl.some_ hl8)) (k:=wG1 (h:=λhg41=>ay (i3*3) eM rfl (grV hg41) (hl.some_ hl8) rfl) (k:=wG1 (h:=λhg42=>q_ld (c:=0) (v:=ii (gt l i3).s) (hl.spanT_at hl8).2 rfl Jc (grV hg42) rfl) (k:=?_))))))))
  refine wG1 (h:=λhg43=>moV) (k:=wG1 (h:=λhg44=>moV) (k:=wG1 (h:=λhg45=>fO rfl (grV hg45)) (k:=?_)))
  obtain⟨hk47,h⟩:=am h
  refine wG1 (h:=λhg46=>q_ix JB Jr rfl (grV hg46) (grV hg46) (b5 hk47 hg46) (hl.some_ (bc (b5 hk47 hg46)))) (k:=wG1 (h:=λhg48=>ay (((w64 ((i3:Int) - 1)).toNat)*3) eM rfl (grV hg48) (hl.some_ (bc (b5 hk47 hg48))) rfl) (k:=wG1 (h:=λhg49=>q_ld (c:=0) (v:=ii (gt l ((w64 ((i3:Int) - 1)).toNat)).s) (hl.spanT_at (bc (b5 hk47 hg49))).2 rfl Jc (grV hg49) rfl) (k:=wG1 (h:=λhg50=>aG rfl (grV hg50) (grV hg50)) (k:=wG1 (h:=λhg51=>bv (v:=.bool (decide ((gt l i3).s<(gt l ((w64 ((i3:Int) - 1)).toNat)).s))) rfl (grV hg51)) (k:=wh0 (c0:=(decide (0<(i3:Int)))) (g:=(decide ((gt l i3).s<(gt l ((w64 ((i3:Int) - 1)).toNat)).s))) rfl rfl rfl rfl rfl (λ_=>QV.qo moV) (wh0 (c0:=(decide (0<(i3:Int)))) (g:=(decide ((gt l i3).s<(gt l ((w64 ((i3:Int) - 1)).toNat)).s))) rfl rfl rfl rfl rfl (λ_=>QV.qo moV) (wh0 (c0:=(decide (0<(i3:Int)))) (g:=(decide ((gt l i3).s<(gt l ((w64 ((i3:Int) - 1)).toNat)).s))) rfl rfl rfl rfl rfl (λhg54=>QV.qo (aN (i:=i3) JB Jr rfl (grV hg54) (grV hg54) hl8 (hl.some_ hl8))) ?_)))))))
  refine wh0 (c0:=(decide (0<(i3:Int)))) (g:=(decide ((gt l i3).s<(gt l ((w64 ((i3:Int) - 1)).toNat)).s))) rfl rfl rfl rfl rfl (λhg55=>QV.qo (ay (i3*3) eM rfl (grV hg55) (hl.some_ hl8) rfl)) (wh0 (c0:=(decide (0<(i3:Int)))) (g:=(decide ((gt l i3).s<(gt l ((w64 ((i3:Int) - 1)).toNat)).s))) rfl rfl rfl rfl rfl (λhg56=>QV.qo (q_ld (c:=0) (v:=ii (gt l i3).s) (hl.spanT_at hl8).2 rfl Jc (grV hg56) rfl)) (wh0 (c0:=(decide (0<(i3:Int)))) (g:=(decide ((gt l i3).s<(gt l ((w64 ((i3:Int) - 1)).toNat)).s))) rfl rfl rfl rfl rfl (λ_=>QV.qo moV) (wh0 (c0:=(decide (0<(i3:Int)))) (g:=(decide ((gt l i3).s<(gt l ((w64 ((i3:Int) - 1)).toNat)).s))) rfl rfl rfl rfl rfl (λ_=>QV.qo moV) (wh0 (c0:=(decide (0<(i3:Int)))) (g:=(decide ((gt l i3).s<(gt l ((w64 ((i3:Int) - 1)).toNat)).s))) rfl rfl rfl rfl rfl (λhg59=>QV.qo (fO rfl (grV hg59))) (wh0 (c0:=(decide (0<(i3:Int)))) (g:=(decide ((gt l i3).s<(gt l ((w64 ((i3:Int) - 1)).toNat)).s))) rfl rfl rfl rfl rfl (λhg60=>QV.qo (q_ix JB Jr rfl (grV hg60) (grV hg60) (b5 hk47 (dQ hg60)) (hl.some_ (bc (b5 hk47 (dQ hg60)))))) ?_)))))
  refine wh0 (c0:=(decide (0<(i3:Int)))) (g:=(decide ((gt l i3).s<(gt l ((w64 ((i3:Int) - 1)).toNat)).s))) rfl rfl rfl rfl rfl (λhg61=>QV.qo (ay (((w64 ((i3:Int) - 1)).toNat)*3) eM rfl (grV hg61) (hl.some_ (bc (b5 hk47 (dQ hg61)))) rfl)) (wh0 (c0:=(decide (0<(i3:Int)))) (g:=(decide ((gt l i3).s<(gt l ((w64 ((i3:Int) - 1)).toNat)).s))) rfl rfl rfl rfl rfl (λhg62=>QV.qo (q_ld (c:=0) (v:=ii (gt l ((w64 ((i3:Int) - 1)).toNat)).s) (hl.spanT_at (bc (b5 hk47 (dQ hg62)))).2 rfl Jc (grV hg62) rfl)) (wh0 (c0:=(decide (0<(i3:Int)))) (g:=(decide ((gt l i3).s<(gt l ((w64 ((i3:Int) - 1)).toNat)).s))) rfl rfl rfl rfl rfl (λhg63=>QV.qo (bp rfl (grV hg63) (grV hg63))) (wh0 (c0:=(decide (0<(i3:Int)))) (g:=(decide ((gt l i3).s<(gt l ((w64 ((i3:Int) - 1)).toNat)).s))) rfl rfl rfl rfl rfl (λhg64=>QV.qo (bv (v:=.bool ((gt l i3).s==(gt l ((w64 ((i3:Int) - 1)).toNat)).s)) rfl (grV hg64))) (wh1 (c0:=((decide (0<(i3:Int)))&&(!(decide ((gt l i3).s<(gt l ((w64 ((i3:Int) - 1)).toNat)).s))))) (g:=((gt l i3).s==(gt l ((w64 ((i3:Int) - 1)).toNat)).s)) rfl rfl rfl rfl rfl (λ_=>QV.qo moV) ?_))))
  refine wh1 (c0:=((decide (0<(i3:Int)))&&(!(decide ((gt l i3).s<(gt l ((w64 ((i3:Int) - 1)).toNat)).s))))) (g:=((gt l i3).s==(gt l ((w64 ((i3:Int) - 1)).toNat)).s)) rfl rfl rfl rfl rfl (λ_=>QV.qo moV) (wh1 (c0:=((decide (0<(i3:Int)))&&(!(decide ((gt l i3).s<(gt l ((w64 ((i3:Int) - 1)).toNat)).s))))) (g:=((gt l i3).s==(gt l ((w64 ((i3:Int) - 1)).toNat)).s)) rfl rfl rfl rfl rfl (λhg67=>QV.qo (aN (i:=i3) JB Jr rfl (grV hg67) (grV hg67) hl8 (hl.some_ hl8))) (wh1 (c0:=((decide (0<(i3:Int)))&&(!(decide ((gt l i3).s<(gt l ((w64 ((i3:Int) - 1)).toNat)).s))))) (g:=((gt l i3).s==(gt l ((w64 ((i3:Int) - 1)).toNat)).s)) rfl rfl rfl rfl rfl (λhg68=>QV.qo (ay (i3*3+1) eI rfl (grV hg68) (hl.some_ hl8) rfl)) (wh1 (c0:=((decide (0<(i3:Int)))&&(!(decide ((gt l i3).s<(gt l ((w64 ((i3:Int) - 1)).toNat)).s))))) (g:=((gt l i3).s==(gt l ((w64 ((i3:Int) - 1)).toNat)).s)) rfl rfl rfl rfl rfl (λhg69=>QV.qo (q_ld (c:=1) (v:=ii (gt l i3).f) (hl.spanT_at hl8).2 rfl Jl (grV hg69) rfl)) (wh1 (c0:=((decide (0<(i3:Int)))&&(!(decide ((gt l i3).s<(gt l ((w64 ((i3:Int) - 1)).toNat)).s))))) (g:=((gt l i3).s==(gt l ((w64 ((i3:Int) - 1)).toNat)).s)) rfl rfl rfl rfl rfl (λhg70=>QV.qo (fO rfl (grV hg70))) ?_))))
  refine wh1 (c0:=((decide (0<(i3:Int)))&&(!(decide ((gt l i3).s<(gt l ((w64 ((i3:Int) - 1)).toNat)).s))))) (g:=((gt l i3).s==(gt l ((w64 ((i3:Int) - 1)).toNat)).s)) rfl rfl rfl rfl rfl (λ_=>QV.qo moV) (wh1 (c0:=((decide (0<(i3:Int)))&&(!(decide ((gt l i3).s<(gt l ((w64 ((i3:Int) - 1)).toNat)).s))))) (g:=((gt l i3).s==(gt l ((w64 ((i3:Int) - 1)).toNat)).s)) rfl rfl rfl rfl rfl (λ_=>QV.qo moV) (wh1 (c0:=((decide (0<(i3:Int)))&&(!(decide ((gt l i3).s<(gt l ((w64 ((i3:Int) - 1)).toNat)).s))))) (g:=((gt l i3).s==(gt l ((w64 ((i3:Int) - 1)).toNat)).s)) rfl rfl rfl rfl rfl (λhg73=>QV.qo (fO rfl (grV hg73))) (wh1 (c0:=((decide (0<(i3:Int)))&&(!(decide ((gt l i3).s<(gt l ((w64 ((i3:Int) - 1)).toNat)).s))))) (g:=((gt l i3).s==(gt l ((w64 ((i3:Int) - 1)).toNat)).s)) rfl rfl rfl rfl rfl (λhg74=>QV.qo (q_ix JB Jr rfl (grV hg74) (grV hg74) (b5 hk47 (dQ (dQ hg74))) (hl.some_ (bc (b5 hk47 (dQ (dQ hg74))))))) (wh1 (c0:=((decide (0<(i3:Int)))&&(!(decide ((gt l i3).s<(gt l ((w64 ((i3:Int) - 1)).toNat)).s))))) (g:=((gt l i3).s==(gt l ((w64 ((i3:Int) - 1)).toNat)).s)) rfl rfl rfl rfl rfl (λhg75=>QV.qo (ay (((w64 ((i3:Int) - 1)).toNat)*3+2) eu rfl (grV hg75) (hl.some_ (bc (b5 hk47 (dQ (dQ hg75))))) rfl)) ?_))))
  refine wh1 (c0:=((decide (0<(i3:Int)))&&(!(decide ((gt l i3).s<(gt l ((w64 ((i3:Int) - 1)).toNat)).s))))) (g:=((gt l i3).s==(gt l ((w64 ((i3:Int) - 1)).toNat)).s)) rfl rfl rfl rfl rfl (λhg76=>QV.qo (q_ld (c:=2) (v:=ii (gt l ((w64 ((i3:Int) - 1)).toNat)).t) (hl.spanT_at (bc (b5 hk47 (dQ (dQ hg76))))).2 rfl Jl (grV hg76) rfl)) (wh1 (c0:=((decide (0<(i3:Int)))&&(!(decide ((gt l i3).s<(gt l ((w64 ((i3:Int) - 1)).toNat)).s))))) (g:=((gt l i3).s==(gt l ((w64 ((i3:Int) - 1)).toNat)).s)) rfl rfl rfl rfl rfl (λhg77=>QV.qo (kM rfl (grV hg77) (grV hg77))) (wh0 (c0:=(decide (0<(i3:Int)))) (g:=(decide ((gt l i3).s<(gt l ((w64 ((i3:Int) - 1)).toNat)).s))) rfl rfl rfl rfl rfl (λhg78=>QV.qo (gq rfl (grV hg78) (ly (c:=((decide (0<(i3:Int)))&&(!(decide ((gt l i3).s<(gt l ((w64 ((i3:Int) - 1)).toNat)).s))))) (g:=((gt l i3).s==(gt l ((w64 ((i3:Int) - 1)).toNat)).s)) (y:=(decide ((w64 ((gt l i3).f - 1))≤(gt l ((w64 ((i3:Int) - 1)).toNat)).t))) hg78))) (wG1 (h:=λhg79=>gq rfl (grV hg79) (Dw (c:=(decide (0<(i3:Int)))) (g:=(decide ((gt l i3).s<(gt l ((w64 ((i3:Int) - 1)).toNat)).s))) (y:=(((gt l i3).s==(gt l ((w64 ((i3:Int) - 1)).toNat)).s)&&(decide ((w64 ((gt l i3).f - 1))≤(gt l ((w64 ((i3:Int) - 1)).toNat)).t)))) hg79)) (k:=zV pkA (k:=?_)))))
  refine Ij ?_
  change WC _ _ _ _ _ _
  refine ciV h (λhb80 h=>?_) (λhb80 h=>?_)
  ·
   refine I4 (aV (k:=I3 ?_))
   exact I8 λw hw=>rq_ r h hF hw
  refine I7 (wc_ ?_)
  refine I9 ?_
  refine mV (k:=sV (aF rfl rfl rfl (aJ hl8 hl.le)) (k:=aV (k:=?_)))
  exact I6 λw hw=>⟨hl8,(),h,slK,hw,trivial⟩
 have h:=hge6 (ige hb7)
 refine Ic ?_
 change WC _ _ _ _ _ _
 refine I4 (aV (k:=I3 ?_))
 exact I8 λw hw=>rq_ r h hF hw
theorem vb{Al:Option Addr}{cl:Nat}{l:List Span}(hl:Sl gS Γ Al l)(hlc:l.length≤cl)(s_:Int)(hs_:I64 s_)(hs:Sat Γ w0){r:Int}(h:kF l s_=some r):CQ Tryz.prog 114 #[.slice Al l.length cl,ii s_] w0 (ii r):=by
 refine goQ [4] func114 ntmps114 results114 hs λF hF=>?_
 refine I4 (aV (k:=I3 (I4 (aV (k:=I3 (I5 (I4 ?_)))))))
 refine aV (k:=I3 (Ia ?_))
 refine Ie h (λ(i4:Nat) (n_1:Int) σ w=>slots σ [(0,.slice Al l.length cl),(1,ii s_),(5,ii n_1),(6,ii (i4:Int))]∧CC F Γ [] w∧I64 n_1∧True) ?_ ?_
 ·
  intro w hw
  exact⟨slK,hw,iV,trivial⟩
 rintro f3 i4 n_1 σ w hi5 hlt6 hge7 ⟨hsl,hw,hr2,-⟩
 refine slV hsl hw [] ?_; clear hw hsl
 refine I5 (I4 (mV (k:=mV (k:=sV (ag rfl JB) (k:=sV aG (k:=I3 ?_))))))
 refine coV (λhb8=>?_) (λhb8=>?_)
 ·
  have hl9:=ilt hb8
  have h:=hlt6 hl9
  refine I7 (wc_ ?_)
  refine Id (λσ w => ∃(n_10:Int),iG f3 n_10=some r∧slots σ [(0,.slice Al l.length cl),(1,ii s_),(5,ii n_10),(6,ii (i4:Int))]∧CC F Γ [] w∧I64 n_10∧True) ?_ ?_
  ·
   refine Ia (I4 (mV (k:=mV (k:=sV (aN (i:=i4) JB Jr rfl rfl rfl hl9 (hl.some_ hl9)) (k:=sV (ay (i4*3) eM rfl rfl (hl.some_ hl9) rfl) (k:=sV (q_ld (c:=0) (v:=ii (gt l i4).s) (hl.spanT_at hl9).2 rfl Jc rfl rfl) (k:=mV (k:=?_))))))))
   refine sV bp (k:=mV (k:=vG1 (h:=λhg12=>moV) (k:=vG1 (h:=λhg13=>moV) (k:=vG1 (h:=λhg14=>aN (i:=i4) JB Jr rfl (grV hg14) (grV hg14) hl9 (hl.some_ hl9)) (k:=vG1 (h:=λhg15=>ay (i4*3+2) eu rfl (grV hg15) (hl.some_ hl9) rfl) (k:=vG1 (h:=λhg16=>q_ld (c:=2) (v:=ii (gt l i4).t) (hl.spanT_at hl9).2 rfl Jl (grV hg16) rfl) (k:=vG1 (h:=λhg17=>moV) (k:=?_))))))))
   refine vG1 (h:=λhg18=>bi rfl (grV hg18) (grV hg18)) (k:=sV pkA (k:=I3 ?_))
   refine ciV h (λhb19 h=>?_) (λhb19 h=>?_)
   ·
    refine I9 ?_
    refine mV (k:=mV (k:=sV (aN (i:=i4) JB Jr rfl rfl rfl hl9 (hl.some_ hl9)) (k:=sV (ay (i4*3+2) eu rfl rfl (hl.some_ hl9) rfl) (k:=sV (q_ld (c:=2) (v:=ii (gt l i4).t) (hl.spanT_at hl9).2 rfl Jl rfl rfl) (k:=aV (k:=?_))))))
    exact I6 λw hw=>⟨(gt l i4).t,h,slK,hw,(hl.spanT_at hl9).1.2.2,trivial⟩
   exact I7 λw hw=>⟨n_1,h,slK,hw,hr2,trivial⟩
  rintro σ w ⟨n_10,h,hsl,hw,hr11,-⟩
  refine slV hsl hw [] ?_; clear hw hsl
  refine I9 ?_
  refine mV (k:=sV (aF rfl rfl rfl (aJ hl9 hl.le)) (k:=aV (k:=?_)))
  exact I6 λw hw=>⟨hl9,n_10,h,slK,hw,hr11,trivial⟩
 have h:=hge7 (ige hb8)
 refine Ic ?_
 change WC _ _ _ _ _ _
 refine I4 (mV (k:=aV (k:=I3 ?_)))
 exact I8 λw hw=>rq_ r h hF hw
theorem qf{Av_2:Option Addr}{cv_2:Nat}(v_:Ver)(hv_:Ver.fits Γ Av_2 cv_2 v_)(hs:Sat Γ w0){r:Bool}(h:gO v_=some r):CQ Tryz.prog 64 #[.agg (Ver.cs Av_2 cv_2 v_).toArray] w0 (.bool r):=by
 refine goQ [2] func64 ntmps64 results64 hs λF hF=>?_
 refine I4 ?_
 refine bxV (v:=.agg (Ver.cs Av_2 cv_2 v_).toArray) λg1=>?_
 refine aV (k:=I3 (I5 (I5 ?_)))
 refine drV ?_
 refine zV (q_fl 0 bO) (k:=zV (ldaV 0 (Dot.cs v_.dot) JF JG) (k:=?_))
 obtain⟨z2,hz3,h⟩:=bnd h
 refine wc rfl rfl rfl (bK (caV call112) (λw hw=>mi (Γ:=Gh.all w) v_.dot ⟨hv_.1,hv_.2.1⟩ (Sat.all w) hz3)) (zV cY (k:=zV moV (k:=wG0 (h:=λhg4=>q_fl 2 fI) (k:=wG0 (h:=λhg5=>ldV 0 JC (hx:=grV hg5)) (k:=?_)))))
 obtain⟨z7,hz8,h⟩:=bnd h
 refine wC0 (h:=λhg6=>bK (bb call113 rfl rfl (lT (grV hg6))) (λw hw=>sC (Γ:=Gh.all w) (hv_.2.2.1.2.mono hw.sat.le_all) hv_.2.2.1.1 (Sat.all w) (jv hz8 hg6))) (k:=wG0 (h:=λhg9=>cY rfl (grV hg9)) (k:=zV pkO (k:=zV moV (k:=wG0 (h:=λhg10=>q_fl 2 fI) (k:=wG0 (h:=λhg11=>ldV 0 JC (hx:=grV hg11)) (k:=wG0 (h:=λhg12=>q_fl 0 bO) (k:=wG0 (h:=λhg13=>q_fl 0 cJ rfl (grV hg13)) (k:=?_))))))))
 refine wG0 (h:=λhg14=>ldV 0 Jc (hx:=grV hg14)) (k:=?_)
 obtain⟨z16,hz17,h⟩:=bnd h
 refine wC0 (h:=λhg15=>bK (bb call114 rfl rfl (jX (grV hg15) (grV hg15))) (λw hw=>vb (Γ:=Gh.all w) (hv_.2.2.1.2.mono hw.sat.le_all) hv_.2.2.1.1 v_.dot.s hv_.1 (Sat.all w) (jv hz17 hg15))) (k:=wG0 (h:=λhg18=>q_fl 0 bO) (k:=wG0 (h:=λhg19=>q_fl 1 cA rfl (grV hg19)) (k:=wG0 (h:=λhg20=>ldV 0 Jl (hx:=grV hg20)) (k:=wG0 (h:=λhg21=>lz rfl (grV hg21) (grV hg21)) (k:=zV pkO (k:=?_))))))
 refine Ij ?_
 change WC _ _ _ _ _ _
 refine ciV h (λhb22 h=>?_) (λhb22 h=>?_)
 ·
  refine I4 (aV (k:=I3 ?_))
  exact I8 λw hw=>rq_ r h hF hw
 refine I7 (wc_ (I5 (I4 (sV (q_fl 3 jC) (k:=sV (ldV 0 JD) (k:=I3 ?_))))))
 refine ciV h (λhb23 h=>?_) (λhb23 h=>?_)
 ·
  refine I4 (sV (q_fl 4 jw) (k:=sV (ldV 0 IY) (k:=sV nH (k:=aV (k:=I3 ?_)))))
  exact I8 λw hw=>rq_ r h hF hw
 refine I7 (wc_ (I4 (sV (q_fl 4 jw) (k:=sV (ldV 0 IY) (k:=sV (bg rfl IX) (k:=sV kM (k:=aV (k:=?_))))))))
 refine I3 ?_
 exact I8 λw hw=>rq_ r h hF hw
theorem uX{Al:Option Addr}{cl:Nat}{l:List Span}(hl:Sl gS Γ Al l)(hlc:l.length≤cl)(d:Dot)(hd:Dot.fits Γ  d)(hs:Sat Γ w0){r:Bool}(h:kw l d=some r):CQ Tryz.prog 115 #[.slice Al l.length cl,.agg (Dot.cs d).toArray] w0 (.bool r):=by
 refine goQ [4] func115 ntmps115 results115 hs λF hF=>?_
 refine I4 ?_
 refine bxV (v:=.agg (Dot.cs d).toArray) λg1=>?_
 refine aV (k:=I3 (I5 (I4 (aV (k:=I3 (Ia ?_))))))
 refine Ie h (λ(i3:Nat) (s:Unit) σ w=>match s with | ()=>slots σ [(0,.slice Al l.length cl),(3,(pq g1)),(5,ii (i3:Int))]∧CC F Γ [[(g1,.cells (Dot.cs d).toArray 36 (0,0))]] w∧True) ?_ ?_
 ·
  intro w hw
  exact⟨slK,hw,trivial⟩
 rintro f2 i3 ⟨⟩ σ w hi4 hlt5 hge6 ⟨hsl,hw,-⟩
 refine slV hsl hw [_] ?_; clear hw hsl
 refine I5 (I4 (mV (k:=mV (k:=sV (ag rfl JB) (k:=sV aG (k:=I3 ?_))))))
 refine coV (λhb7=>?_) (λhb7=>?_)
 ·
  have hl8:=ilt hb7
  have h:=hlt5 hl8
  refine I7 (wc_ (I5 (Ia (I5 ?_))))
  refine drV ?_
  refine zV moV (k:=zV moV (k:=zV (aN (i:=i3) JB Jr rfl rfl rfl hl8 (hl.some_ hl8)) (k:=zV (ay (i3*3) eM rfl rfl (hl.some_ hl8) rfl) (k:=zV (q_ld (c:=0) (v:=ii (gt l i3).s) (hl.spanT_at hl8).2 rfl Jc rfl rfl) (k:=zV (q_fl 0 cJ) (k:=zV (ldV 0 Jc) (k:=zV bp (k:=?_))))))))
  refine zV moV (k:=wG1 (h:=λhg9=>q_fl 1 cA) (k:=wG1 (h:=λhg10=>ldV 0 Jl (hx:=grV hg10)) (k:=wG1 (h:=λhg11=>moV) (k:=wG1 (h:=λhg12=>moV) (k:=wG1 (h:=λhg13=>aN (i:=i3) JB Jr rfl (grV hg13) (grV hg13) hl8 (hl.some_ hl8)) (k:=wG1 (h:=λhg14=>ay (i3*3+1) eI rfl (grV hg14) (hl.some_ hl8) rfl) (k:=wG1 (h:=λhg15=>q_ld (c:=1) (v:=ii (gt l i3).f) (hl.spanT_at hl8).2 rfl Jl (grV hg15) rfl) (k:=?_))))))))
  refine wG1 (h:=λhg16=>lz rfl (grV hg16) (grV hg16)) (k:=zV pkA (k:=zV moV (k:=wG1 (h:=λhg17=>q_fl 1 cA) (k:=wG1 (h:=λhg18=>ldV 0 Jl (hx:=grV hg18)) (k:=wG1 (h:=λhg19=>moV) (k:=wG1 (h:=λhg20=>moV) (k:=wG1 (h:=λhg21=>aN (i:=i3) JB Jr rfl (grV hg21) (grV hg21) hl8 (hl.some_ hl8)) (k:=?_))))))))
  refine wG1 (h:=λhg22=>ay (i3*3+2) eu rfl (grV hg22) (hl.some_ hl8) rfl) (k:=wG1 (h:=λhg23=>q_ld (c:=2) (v:=ii (gt l i3).t) (hl.spanT_at hl8).2 rfl Jl (grV hg23) rfl) (k:=wG1 (h:=λhg24=>kM rfl (grV hg24) (grV hg24)) (k:=zV pkA (k:=?_))))
  refine Ij ?_
  change WC _ _ _ _ _ _
  refine ciV h (λhb25 h=>?_) (λhb25 h=>?_)
  ·
   refine I4 (aV (k:=I3 ?_))
   exact I8 λw hw=>rq_ r h hF hw
  refine I7 (wc_ ?_)
  refine I9 ?_
  refine mV (k:=sV (aF rfl rfl rfl (aJ hl8 hl.le)) (k:=aV (k:=?_)))
  exact I6 λw hw=>⟨hl8,(),h,slK,hw,trivial⟩
 have h:=hge6 (ige hb7)
 refine Ic ?_
 change WC _ _ _ _ _ _
 refine I4 (aV (k:=I3 ?_))
 exact I8 λw hw=>rq_ r h hF hw
theorem rO{Al:Option Addr}{cl:Nat}{l:List Ver}(hl:Sl verT Γ Al l)(hlc:l.length≤cl)(d:Dot)(hd:Dot.fits Γ  d)(hs:Sat Γ w0){r:Bool}(h:iO l d=some r):CQ Tryz.prog 65 #[.slice Al l.length cl,.agg (Dot.cs d).toArray] w0 (.bool r):=by
 refine goQ [4] func65 ntmps65 results65 hs λF hF=>?_
 refine I4 ?_
 refine bxV (v:=.agg (Dot.cs d).toArray) λg1=>?_
 refine aV (k:=I3 (I5 (I4 (aV (k:=I3 (Ia ?_))))))
 refine Ie h (λ(i3:Nat) (s:Unit) σ w=>match s with | ()=>slots σ [(0,.slice Al l.length cl),(3,(pq g1)),(5,ii (i3:Int))]∧CC F Γ [[(g1,.cells (Dot.cs d).toArray 36 (0,0))]] w∧True) ?_ ?_
 ·
  intro w hw
  exact⟨slK,hw,trivial⟩
 rintro f2 i3 ⟨⟩ σ w hi4 hlt5 hge6 ⟨hsl,hw,-⟩
 refine slV hsl hw [_] ?_; clear hw hsl
 refine I5 (I4 (mV (k:=mV (k:=sV (ag rfl JE) (k:=sV aG (k:=I3 ?_))))))
 refine coV (λhb7=>?_) (λhb7=>?_)
 ·
  have hl8:=ilt hb7
  have h:=hlt5 hl8
  refine I7 (wc_ (I5 (Ia (I5 ?_))))
  refine drV ?_
  refine zV moV (k:=zV moV (k:=zV (aN (i:=i3) JE Ju rfl rfl rfl hl8 (hl.some_ hl8)) (k:=zV (ay (i3*5+2) fI rfl rfl (hl.some_ hl8) rfl) (k:=?_))))
  obtain⟨A9,c10,hx11⟩:=hl.verT_at i3
  refine zV (q_ld (c:=2) (v:=.slice A9 ((gt l i3).past).length c10) (hx11 hl8).2 rfl JC rfl rfl) (k:=zV (ldaV 0 (Dot.cs d) JF JG) (k:=?_))
  obtain⟨z12,hz13,h⟩:=bnd h
  refine wc rfl rfl rfl (bK (caV call115) (λw hw=>uX (Γ:=Gh.all w) ((hx11 hl8).1.2.2.1.2.mono hw.sat.le_all) (hx11 hl8).1.2.2.1.1 d hd (Sat.all w) hz13)) ?_
  refine Ij ?_
  change WC _ _ _ _ _ _
  refine ciV h (λhb14 h=>?_) (λhb14 h=>?_)
  ·
   refine I4 (aV (k:=I3 ?_))
   exact I8 λw hw=>rq_ r h hF hw
  refine I7 (wc_ ?_)
  refine I9 ?_
  refine mV (k:=sV (aF rfl rfl rfl (aJ hl8 hl.le)) (k:=aV (k:=?_)))
  exact I6 λw hw=>⟨hl8,(),h,slK,hw,trivial⟩
 have h:=hge6 (ige hb7)
 refine Ic ?_
 change WC _ _ _ _ _ _
 refine I4 (aV (k:=I3 ?_))
 exact I8 λw hw=>rq_ r h hF hw
theorem tD(a:Dot)(ha:Dot.fits Γ  a)(b:Dot)(hb:Dot.fits Γ  b)(hs:Sat Γ w0){r:Bool}(h:jT a b=some r):CQ Tryz.prog 66 #[.agg (Dot.cs a).toArray,.agg (Dot.cs b).toArray] w0 (.bool r):=by
 refine goQ [4] func66 ntmps66 results66 hs λF hF=>?_
 refine I4 ?_
 refine bxV (v:=.agg (Dot.cs a).toArray) λg1=>?_
 refine bxV (v:=.agg (Dot.cs b).toArray) λg2=>?_
 refine aV (k:=I3 (I5 (I4 (sV (q_fl 0 cJ) (k:=sV (ldV 1 Jc) (k:=sV (q_fl 0 cJ) (k:=sV (ldV 0 Jc) (k:=?_))))))))
 refine sV bD (k:=I3 ?_)
 refine ciV h (λhb3 h=>?_) (λhb3 h=>?_)
 ·
  refine I4 (sV (q_fl 0 cJ) (k:=sV (ldV 1 Jc) (k:=sV (q_fl 0 cJ) (k:=sV (ldV 0 Jc) (k:=sV aG (k:=aV (k:=I3 ?_)))))))
  exact I8 λw hw=>rq_ r h hF hw
 refine I7 (wc_ (I4 (sV (q_fl 1 cA) (k:=sV (ldV 1 Jl) (k:=sV (q_fl 1 cA) (k:=sV (ldV 0 Jl) (k:=sV aG (k:=?_))))))))
 refine aV (k:=I3 ?_)
 exact I8 λw hw=>rq_ r h hF hw
theorem sF{Al:Option Addr}{cl:Nat}{l:List Ver}(hl:Sl verT Γ Al l)(hlc:l.length≤cl)(hs:Sat Γ w0){r:Bool}(h:jo l=some r):CQ Tryz.prog 32 #[.slice Al l.length cl] w0 (.bool r):=by
 refine goQ [2] func32 ntmps32 results32 hs λF hF=>?_
 refine I4 (aV (k:=I3 (I5 (I4 (mV (k:=sV (ag rfl JE) (k:=sV bi (k:=?_))))))))
 refine I3 ?_
 refine ciV h (λhb1 h=>?_) (λhb1 h=>?_)
 ·
  refine I4 (aV (k:=I3 ?_))
  exact I8 λw hw=>rq_ r h hF hw
 refine I7 (wc_ (I5 (I4 (aV (k:=I3 (Ia ?_))))))
 refine Ie h (λ(i3:Nat) (s:Unit) σ w=>match s with | ()=>slots σ [(0,.slice Al l.length cl),(3,ii (i3:Int))]∧CC F Γ [] w∧True) ?_ ?_
 ·
  intro w hw
  exact⟨slK,hw,trivial⟩
 rintro f2 i3 ⟨⟩ σ w hi4 hlt5 hge6 ⟨hsl,hw,-⟩
 refine slV hsl hw [] ?_; clear hw hsl
 refine I5 (I4 (mV (k:=mV (k:=sV (ag rfl JE) (k:=sV aG (k:=I3 ?_))))))
 refine coV (λhb7=>?_) (λhb7=>?_)
 ·
  have hl8:=ilt hb7
  have h:=hlt5 hl8
  refine I7 (wc_ (I5 (Ia (I5 (I4 (mV (k:=mV (k:=?_))))))))
  refine sV (aN (i:=i3) JE Ju rfl rfl rfl hl8 (hl.some_ hl8)) (k:=?_)
  obtain⟨A9,c10,hx11⟩:=hl.verT_at i3
  refine sV (jx (c:=0) (vs:=(Ver.cs A9 c10 (gt l i3))) (hx11 hl8).2 rfl Jx Ju rfl rfl rfl) (k:=?_)
  obtain⟨z12,hz13,h⟩:=bnd h
  refine vqV (caV call64) (λw hw=>qf (Γ:=Gh.all w) (gt l i3) (Ver.fits_mono (hx11 hl8).1 hw.sat.le_all) (Sat.all w) hz13) (k:=sV cY (k:=mV (k:=vG0 (h:=λhg14=>moV) (k:=vG0 (h:=λhg15=>moV) (k:=vG0 (h:=λhg16=>moV) (k:=vG0 (h:=λhg17=>aN (i:=i3) JE Ju rfl (grV hg17) (grV hg17) hl8 (hl.some_ hl8)) (k:=vG0 (h:=λhg18=>ay (i3*5) bO rfl (grV hg18) (hl.some_ hl8) rfl) (k:=?_))))))))
  refine vG0 (h:=λhg19=>jx (c:=0) (vs:=[ii (gt l i3).dot.s,ii (gt l i3).dot.n]) (hx11 hl8).2 rfl JF JG (grV hg19) rfl rfl) (k:=?_)
  obtain⟨z21,hz22,h⟩:=bnd h
  refine vC0 (h:=λhg20=>bK (bb call65 rfl rfl (jX (grV hg20) (grV hg20))) (λw hw=>rO (Γ:=Gh.all w) (hl.mono hw.sat.le_all) hlc ((gt l i3).dot) ⟨(hx11 hl8).1.1,(hx11 hl8).1.2.1⟩ (Sat.all w) (jv hz22 hg20))) (k:=sV pkO (k:=I3 ?_))
  refine ciV h (λhb23 h=>?_) (λhb23 h=>?_)
  ·
   refine I4 (aV (k:=I3 ?_))
   exact I8 λw hw=>rq_ r h hF hw
  refine I7 (wc_ (I5 ?_))
  refine drV ?_
  refine zV moV (k:=zV bi (k:=zV moV (k:=wG1 (h:=λhg24=>moV) (k:=wG1 (h:=λhg25=>moV) (k:=wG1 (h:=λhg26=>fO rfl (grV hg26)) (k:=?_))))))
  obtain⟨hk28,h⟩:=am h
  refine wG1 (h:=λhg27=>q_ix JE Ju rfl (grV hg27) (grV hg27) (b5 hk28 hg27) (hl.some_ (bc (b5 hk28 hg27)))) (k:=wG1 (h:=λhg29=>ay (((w64 ((i3:Int) - 1)).toNat)*5) bO rfl (grV hg29) (hl.some_ (bc (b5 hk28 hg29))) rfl) (k:=?_))
  obtain⟨A31,c32,hx33⟩:=hl.verT_at ((w64 ((i3:Int) - 1)).toNat)
  refine wG1 (h:=λhg30=>jx (c:=0) (vs:=[ii (gt l ((w64 ((i3:Int) - 1)).toNat)).dot.s,ii (gt l ((w64 ((i3:Int) - 1)).toNat)).dot.n]) (hx33 (bc (b5 hk28 hg30))).2 rfl JF JG (grV hg30) rfl rfl) (k:=wG1 (h:=λhg34=>moV) (k:=wG1 (h:=λhg35=>moV) (k:=wG1 (h:=λhg36=>aN (i:=i3) JE Ju rfl (grV hg36) (grV hg36) hl8 (hl.some_ hl8)) (k:=wG1 (h:=λhg37=>ay (i3*5) bO rfl (grV hg37) (hl.some_ hl8) rfl) (k:=wG1 (h:=λhg38=>jx (c:=0) (vs:=[ii (gt l i3).dot.s,ii (gt l i3).dot.n]) (hx11 hl8).2 rfl JF JG (grV hg38) rfl rfl) (k:=?_))))))
  obtain⟨z40,hz41,h⟩:=bnd h
  refine wC1 (h:=λhg39=>bK (bb call66 rfl rfl (jX (grV hg39) (grV hg39))) (λw hw=>tD (Γ:=Gh.all w) ((gt l ((w64 ((i3:Int) - 1)).toNat)).dot) ⟨(hx33 (bc (b5 hk28 hg39))).1.1,(hx33 (bc (b5 hk28 hg39))).1.2.1⟩ ((gt l i3).dot) ⟨(hx11 hl8).1.1,(hx11 hl8).1.2.1⟩ (Sat.all w) (jv hz41 hg39))) (k:=wG1 (h:=λhg42=>cY rfl (grV hg42)) (k:=zV pkA (k:=?_)))
  refine Ij ?_
  change WC _ _ _ _ _ _
  refine ciV h (λhb43 h=>?_) (λhb43 h=>?_)
  ·
   refine I4 (aV (k:=I3 ?_))
   exact I8 λw hw=>rq_ r h hF hw
  refine I7 (wc_ ?_)
  refine I9 ?_
  refine mV (k:=sV (aF rfl rfl rfl (aJ hl8 hl.le)) (k:=aV (k:=?_)))
  exact I6 λw hw=>⟨hl8,(),h,slK,hw,trivial⟩
 have h:=hge6 (ige hb7)
 refine Ic ?_
 change WC _ _ _ _ _ _
 refine I4 (aV (k:=I3 ?_))
 exact I8 λw hw=>rq_ r h hF hw
theorem lV{Ar_1:Option Addr}{cr_1:Nat}(r_:Rec)(hr_:Rec.fits Γ Ar_1 cr_1 r_)(hs:Sat Γ w0){r:Bool}(h:eL r_=some r):CQ Tryz.prog 7 #[.agg (Rec.cs Ar_1 cr_1 r_).toArray] w0 (.bool r):=by
 refine goQ [2] func7 ntmps7 results7 hs λF hF=>?_
 refine I4 ?_
 refine bxV (v:=.agg (Rec.cs Ar_1 cr_1 r_).toArray) λg1=>?_
 refine aV (k:=I3 (I4 (sV (q_fl 0 cV) (k:=sV (ldV 0 IY) (k:=sV qS (k:=mV (k:=vG1 (h:=λhg2=>q_fl 0 cV) (k:=?_))))))))
 refine vG1 (h:=λhg3=>ldV 0 IY (hx:=grV hg3)) (k:=vG1 (h:=λhg4=>bg rfl IX (grV hg4)) (k:=vG1 (h:=λhg5=>kM rfl (grV hg5)) (k:=sV pkA (k:=mV (k:=vG1 (h:=λhg6=>q_fl 1 ci) (k:=vG1 (h:=λhg7=>ldV 0 JH (hx:=grV hg7)) (k:=?_)))))))
 obtain⟨z9,hz10,h⟩:=bnd h
 refine vC1 (h:=λhg8=>bK (bb call32 rfl rfl (lT (grV hg8))) (λw hw=>sF (Γ:=Gh.all w) (hr_.2.2.mono hw.sat.le_all) hr_.2.1 (Sat.all w) (jv hz10 hg8))) (k:=sV pkA (k:=aV (k:=I3 ?_)))
 exact I8 λw hw=>rq_ r h hF hw
abbrev uE(r:Rec×Int)(U:List Rowb)(Γ:Gh)(v:Value):Prop := ∃(A0_1:Option Addr), ∃(c0_1:Nat),v = .tuple #[.agg #[.string r.1.key,.slice A0_1 r.1.vers.length c0_1],.int .i64 r.2]∧U = []∧Rec.fits Γ A0_1 c0_1 r.1∧I64 r.2∧True
theorem uT{Ab:Option Addr}{cb:Nat}{b:List UInt8}(hb:Sl av Γ Ab b)(hbc:b.length≤cb)(hp:Pre [] Γ w0){r:Rec×Int}(h:cU b=some r):Calls Tryz.prog 41 #[.slice Ab b.length cb] w0 (Outc Γ [] w0 (uE r)):=by
 refine fH (N:=31) (rs:=[.cell 2 24,.tmp 3]) (args:=[.slice Ab b.length cb]) func41 rfl ntmps41 results41 rfl ?_
 obtain⟨F,hF⟩:∃F:Fm,F=⟨ids [],w0,Γ⟩:=⟨_,rfl⟩
 refine Ik (C:=CC F Γ []) ?_ (hF▸hp.start)
 refine I4 ?_
 refine alV Jy λg1=>?_
 refine aV (k:=I3 (I4 (mV (k:=sV (aZ (v:=.agg #[.slice Ab b.length cb,ii 0,.bool false]) rfl (l7 rfl) (λw=>by kernel_rfl)) (k:=?_)))))
 refine bxV (v:=.agg #[.slice Ab b.length cb,ii 0,.bool false]) λg2=>?_
 refine aV (k:=I3 (I4 (mV (k:=?_))))
 obtain⟨row_3,hrow_3,hob_3⟩:∃rw:Rowb,rw=([[(g2,.cells #[.slice Ab b.length cb,ii 0,.bool false] 169 (0,0))]]:List Rowb).flatten∧ac.ob 169 Γ g2 rw (⟨b,0,false⟩:ac):=⟨_,rfl,Ab,cb,rfl,hbc,hb,iV,trivial⟩
 refine foR [0] hrow_3 [_,_] ?_
 obtain⟨z4,hz5,h⟩:=bnd h
 refine ecV [0] (caV call91) (λw hp=>ql hob_3 hp hz5) ?_
 rintro Γ6 _ _ hl7 ⟨row10,A12,c13,rfl,rfl,hr11,hr14,_⟩
 refine cwV 10 [_,_] ?_
 refine alV Jy λg15=>?_
 refine stV 0 (.agg (Rec.cs A12 c13 z4.2).toArray) (Rec.cs A12 c13 z4.2).toArray Jz (k:=I3 (I5 (I4 (mV (k:=sV nlV (k:=sV (q_fl 2 jE) (k:=?_)))))))
 obtain⟨A0_16,c0_16,hrow_16,ho0_16,ho1_16,ho2_16,-⟩:=id hr11
 refine ufR 1 hrow_16 [_,_,_] ?_
 refine sV (ldV 0 JD) (k:=mV (k:=vG0 (h:=λhg17=>moV) (k:=vG0 (h:=λhg18=>nlV (hv:=grV hg18)) (k:=vG0 (h:=λhg19=>q_fl 1 nC rfl (grV hg19)) (k:=vG0 (h:=λhg20=>ldV 0 Jc (hx:=grV hg20)) (k:=vG0 (h:=λhg21=>moV) (k:=vG0 (h:=λhg22=>ag rfl IZ (grV hg22)) (k:=?_))))))))
 refine vG0 (h:=λhg23=>bD rfl (grV hg23) (grV hg23)) (k:=sV pkO (k:=mV (k:=vG0 (h:=λhg24=>ldaV 1 (Rec.cs A12 c13 z4.2) JA Jz) (k:=?_))))
 obtain⟨z26,hz27,h⟩:=bnd h
 refine vC0 (h:=λhg25=>bK (bb call7 rfl rfl (lT (grV hg25))) (λw hw=>lV (Γ:=Gh.all w) z4.2 (Rec.fits_mono hr14 hw.sat.le_all) (Sat.all w) (jv hz27 hg25))) (k:=vG0 (h:=λhg28=>cY rfl (grV hg28)) (k:=sV pkO (k:=I3 ?_)))
 refine ciV h (λhb29 h=>?_) (λhb29 h=>?_)
 ·
  refine I4 (sV (fl (v:=.agg #[.string ByteArray.empty,.slice none 0 0]) rfl (λw=>by kernel_rfl)) (k:=stV 2 (.agg #[.string ByteArray.empty,.slice none 0 0]) #[.string ByteArray.empty,.slice none 0 0] Jz (k:=aV (k:=I3 ?_))))
  refine I8 ?_
  intro w hw
  cases h
  subst hF
  exact⟨[.agg #[.string ByteArray.empty,.slice none 0 0],ii 2],(j8 (i:=2) (us:=[.string ByteArray.empty,.slice none 0 0]) hw rfl JA Jz (by kernel_rfl) rfl (yL (by kernel_rfl) jh)),aL (is:=[]) (by kernel_rfl) hw rfl ⟨none,0,rfl,rfl,⟨(show (ByteArray.empty:ByteArray).size≤lim by decide),nilV⟩,iV,trivial⟩⟩
 refine I7 (wc_ (I4 (sV (ldaV 1 (Rec.cs A12 c13 z4.2) JA Jz) (k:=stV 2 (.agg (Rec.cs A12 c13 z4.2).toArray) (Rec.cs A12 c13 z4.2).toArray Jz (k:=aV (k:=I3 ?_))))))
 refine I8 ?_
 intro w hw
 cases h
 subst hF
 exact⟨[.agg (Rec.cs A12 c13 z4.2).toArray,ii 0],(j8 (i:=2) (us:=(Rec.cs A12 c13 z4.2)) hw rfl JA Jz (by kernel_rfl) rfl (yL (by kernel_rfl) jh)),aL (is:=[]) (by kernel_rfl) hw rfl ⟨A12,c13,rfl,rfl,hr14,iV,trivial⟩⟩
abbrev tQ(r:List Rec)(U:List Rowb)(Γ:Gh)(v:Value):Prop := ∃(A0:Option Addr), ∃(c0:Nat), ∃(row0:Rowb),v = .slice A0 r.length c0∧U = [row0]∧Own recT Γ 24 row0 A0 c0 r∧True
theorem lM{Al:Option Addr}{cl:Nat}{l:List Rec}(hl:Sl recT Γ Al l)(hlc:l.length≤cl){Ar_1:Option Addr}{cr_1:Nat}(r_:Rec)(hr_:Rec.fits Γ Ar_1 cr_1 r_)(hp:Pre [] Γ w0){r:List Rec}(h:fk l r_=some r):Calls Tryz.prog 42 #[.slice Al l.length cl,.agg (Rec.cs Ar_1 cr_1 r_).toArray] w0 (Outc Γ [] w0 (tQ r)):=by
 refine goV [4] func42 ntmps42 results42 hp λF hF=>?_
 refine I4 ?_
 refine bxV (v:=.agg (Rec.cs Ar_1 cr_1 r_).toArray) λg1=>?_
 refine aV (k:=I3 (I4 (aV (k:=I3 (I4 (sV (q_fl 1 ci) (k:=sV (ldV 0 JH) (k:=?_))))))))
 refine sV (ag rfl JE) (k:=sV bp (k:=aV (k:=I3 (I5 (I4 (aV (k:=I3 ?_)))))))
 refine Ia ?_
 refine Ie h (λ(i9:Nat) (s:(List Rec)×Bool) σ w=>match s with | (out_2,laid_7) => ∃(A3:Option Addr), ∃(c4:Nat), ∃(row5:Rowb),slots σ [(0,.slice Al l.length cl),(3,(pq g1)),(5,.slice A3 out_2.length c4),(6,.bool laid_7),(7,ii (i9:Int))]∧CC F Γ [row5,[(g1,.cells (Rec.cs Ar_1 cr_1 r_).toArray 24 (0,0))]] w∧Own recT Γ 24 row5 A3 c4 out_2∧True) ?_ ?_
 ·
  intro w hw
  have hw:=hw.pad
  exact⟨none,0,[],slK,hw,(Own.nil recT _ 24),trivial⟩
 rintro f8 i9 ⟨out_2,laid_7⟩ σ w hi10 hlt11 hge12 ⟨A3,c4,row5,hsl,hw,ho6,-⟩
 refine slV hsl hw [_,_] ?_; clear hw hsl
 refine I5 (I4 (mV (k:=mV (k:=sV (ag rfl JN) (k:=sV aG (k:=I3 ?_))))))
 refine coV (λhb13=>?_) (λhb13=>?_)
 ·
  have hl14:=ilt hb13
  have h:=hlt11 hl14
  refine I7 (wc_ ?_)
  refine Id (λσ w => ∃(out_15:List Rec), ∃(laid_20:Bool), ∃(A16:Option Addr), ∃(c17:Nat), ∃(row18:Rowb),gJ f8 out_15 laid_20=some r∧slots σ [(0,.slice Al l.length cl),(3,(pq g1)),(5,.slice A16 out_15.length c17),(6,.bool laid_20),(7,ii (i9:Int))]∧CC F Γ [row18,[(g1,.cells (Rec.cs Ar_1 cr_1 r_).toArray 24 (0,0))]] w∧Own recT Γ 24 row18 A16 c17 out_15∧True) ?_ ?_
  ·
   refine Ia (I5 (I5 ?_))
   refine drV ?_
   refine zV moV (k:=zV moV (k:=zV (aN (i:=i9) JN Jz rfl rfl rfl hl14 (hl.some_ hl14)) (k:=zV (ay (i9*2) cV rfl rfl (hl.some_ hl14) rfl) (k:=?_))))
   obtain⟨A21,c22,hx23⟩:=hl.recT_at i9
   refine zV (q_ld (c:=0) (v:=.string (gt l i9).key) (hx23 hl14).2 rfl IY rfl rfl) (k:=zV (q_fl 0 cV) (k:=zV (ldV 1 IY) (k:=zV nH (k:=?_))))
   refine Ij ?_
   change WC _ _ _ _ _ _
   refine ciV h (λhb24 h=>?_) (λhb24 h=>?_)
   ·
    exact Ic λw hw=>⟨out_2,laid_7,A3,c4,row5,h,slK,hw,ho6,trivial⟩
   refine I7 (wc_ ?_)
   refine Id (λσ w => ∃(out_25:List Rec), ∃(laid_30:Bool), ∃(A26:Option Addr), ∃(c27:Nat), ∃(row28:Rowb),gG l f8 i9 out_25 laid_30=some r∧slots σ [(0,.slice Al l.length cl),(3,(pq g1)),(5,.slice A26 out_25.length c27),(6,.bool laid_30),(7,ii (i9:Int))]∧CC F Γ [row28,[(g1,.cells (Rec.cs Ar_1 cr_1 r_).toArray 24 (0,0))]] w∧Own recT Γ 24 row28 A26 c27 out_25∧True) ?_ ?_
   ·
    refine I5 ?_
    refine drV ?_
    refine zV moV (k:=zV cY (k:=zV moV (k:=wG1 (h:=λhg31=>q_fl 0 cV) (k:=wG1 (h:=λhg32=>ldV 1 IY (hx:=grV hg32)) (k:=wG1 (h:=λhg33=>moV) (k:=wG1 (h:=λhg34=>moV) (k:=wG1 (h:=λhg35=>aN (i:=i9) JN Jz rfl (grV hg35) (grV hg35) hl14 (hl.some_ hl14)) (k:=?_))))))))
    refine wG1 (h:=λhg36=>ay (i9*2) cV rfl (grV hg36) (hl.some_ hl14) rfl) (k:=wG1 (h:=λhg37=>q_ld (c:=0) (v:=.string (gt l i9).key) (hx23 hl14).2 rfl IY (grV hg37) rfl) (k:=wG1 (h:=λhg38=>ER rfl (grV hg38) (grV hg38)) (k:=zV pkA (k:=?_))))
    refine Ij ?_
    change WC _ _ _ _ _ _
    refine ciV h (λhb39 h=>?_) (λhb39 h=>?_)
    ·
     refine I4 (mV (k:=sV (ldaV 1 (Rec.cs Ar_1 cr_1 r_) JA Jz) (k:=?_)))
     refine bsV (Rec.cs Ar_1 cr_1 r_).toArray 24 λg40=>?_
     obtain⟨hk41,h⟩:=am h
     refine apV 1 [r_] tH ho6 (Ip hk41) (λw hw=>bM (i:=0) rfl (by exact⟨Ar_1,cr_1,rfl,hr_⟩) hw) ?_
     intro row42 A43 c44 ho45
     refine aV (k:=I3 ?_)
     refine I9 ?_
     refine aV (k:=?_)
     exact I6 λw hw=>⟨(out_2++[r_]),true,A43,c44,row42,h,slK,(hw.on [1,1]),ho45,trivial⟩
    exact I7 λw hw=>⟨out_2,laid_7,A3,c4,row5,h,slK,hw,ho6,trivial⟩
   rintro σ w ⟨out_25,laid_30,A26,c27,row28,h,hsl,hw,ho29,-⟩
   refine slV hsl hw [_,_] ?_; clear hw hsl
   refine I9 ?_
   refine mV (k:=mV (k:=mV (k:=sV (aN (i:=i9) JN Jz rfl rfl rfl hl14 (hl.some_ hl14)) (k:=?_))))
   obtain⟨A46,c47,hx48⟩:=hl.recT_at i9
   refine sV (jx (c:=0) (vs:=(Rec.cs A46 c47 (gt l i9))) (hx48 hl14).2 rfl JA Jz rfl rfl rfl) (k:=?_)
   refine bsV (Rec.cs A46 c47 (gt l i9)).toArray 24 λg49=>?_
   obtain⟨hk50,h⟩:=am h
   refine apV 1 [(gt l i9)] tH ho29 (Ip hk50) (λw hw=>bM (i:=0) rfl (by exact⟨A46,c47,rfl,(hx48 hl14).1⟩) hw) ?_
   intro row51 A52 c53 ho54
   refine aV (k:=?_)
   exact I6 λw hw=>⟨(out_25++[(gt l i9)]),laid_30,A52,c53,row51,h,slK,(hw.on [1,1]),ho54,trivial⟩
  rintro σ w ⟨out_15,laid_20,A16,c17,row18,h,hsl,hw,ho19,-⟩
  refine slV hsl hw [_,_] ?_; clear hw hsl
  refine I9 ?_
  refine mV (k:=sV (aF rfl rfl rfl (aJ hl14 hl.le)) (k:=aV (k:=?_)))
  exact I6 λw hw=>⟨hl14,(out_15,laid_20),h,A16,c17,row18,slK,hw,ho19,trivial⟩
 have h:=hge12 (ige hb13)
 refine Ic ?_
 change WC _ _ _ _ _ _
 refine I5 (I4 (mV (k:=sV cY (k:=I3 ?_))))
 refine ciV h (λhb55 h=>?_) (λhb55 h=>?_)
 ·
  refine I9 ?_
  refine mV (k:=sV (ldaV 1 (Rec.cs Ar_1 cr_1 r_) JA Jz) (k:=?_))
  refine bsV (Rec.cs Ar_1 cr_1 r_).toArray 24 λg56=>?_
  obtain⟨hk57,h⟩:=am h
  refine apV 1 [r_] tH ho6 (Ip hk57) (λw hw=>bM (i:=0) rfl (by exact⟨Ar_1,cr_1,rfl,hr_⟩) hw) ?_
  intro row58 A59 c60 ho61
  refine aV (k:=?_)
  refine I6 ?_
  change WC _ _ _ _ _ _
  refine I4 (mV (k:=aV (k:=I3 ?_)))
  exact I8 λw hw=>re_ r [1] h hF hw ⟨A59,c60,row58,rfl,rfl,ho61,trivial⟩
 refine I7 (wc_ (I4 (mV (k:=aV (k:=I3 ?_)))))
 exact I8 λw hw=>re_ r [0] h hF hw ⟨A3,c4,row5,rfl,rfl,ho6,trivial⟩
abbrev sR(gd:Nat)(ed:Nat)(r:a7×(Option ah)×Int)(U:List Rowb)(Γ:Gh)(v:Value):Prop := ∃(rowd':Rowb), ∃(g0:Nat), ∃(row0:Rowb),v = .tuple #[optp r.2.1 g0,.int .i64 r.2.2]∧U = [rowd',row0]∧a7.ob ed Γ gd rowd' r.1∧oK (ah.ob (101,gd) Γ g0) row0 r.2.1∧I64 r.2.2∧True
theorem oh{gd ed:Nat}{rowd:Rowb}{d:a7}(hd:a7.ob ed Γ gd rowd d)(name:ByteArray)(hname:name.size≤lim)(size:Int)(hsize:I64 size)(hp:Pre [rowd] Γ w0){r:a7×(Option ah)×Int}(h:d4 d name size=some r):Calls Tryz.prog 15 #[(pq gd),.string name,ii size] w0 (Outc Γ [rowd] w0 (sR gd ed r)):=by
 refine goV [6,7] func15 ntmps15 results15 hp λF hF=>?_
 refine I4 (aV (k:=aV (k:=I3 (I4 (mV (k:=mV (k:=mV (k:=?_))))))))
 obtain⟨z1,hz2,h⟩:=bnd h
 refine ecV [0] (caV call40) (λw hp=>tU hd name hname size hsize hp hz2) ?_
 rintro Γ3 _ _ hl4 ⟨row7,g9,row10,A12,c13,row14,rfl,rfl,hr8,hr11,hr15,hr16,_⟩
 refine cwV 19 [_,_,_] (mV (k:=sV exV (k:=sV exV (k:=sV exV (k:=aU (v:=optp z1.2.1 g9) (k:=aV (k:=aV (k:=?_))))))))
 refine I3 (I5 (I4 (mV (k:=sV bD (k:=I3 ?_)))))
 refine ciV h (λhb17 h=>?_) (λhb17 h=>?_)
 ·
  refine I4 (mV (k:=aV (k:=aV (k:=I3 ?_))))
  refine I8 ?_
  intro w hw
  have hw:=hw.pad
  exact re_ r [1,0] h hF hw ⟨row7,0,[],rfl,rfl,hr8,rfl,hr16,trivial⟩
 refine I7 (wc_ (I4 (mU (v:=optp z1.2.1 g9) (k:=?_))))
 obtain⟨z18,hz19,h⟩:=bnd h
 have ho20:=iy hr11 hz19
 refine sV (aZ (v:=.agg #[(pq g9),.slice none 0 0]) rfl (l7 (bz rfl hz19)) (λw=>by kernel_rfl)) (k:=?_)
 refine bxV (v:=.agg #[(pq g9),.slice none 0 0]) λg21=>?_
 refine aV (k:=I3 (I5 (I4 (aV (k:=I3 (Ia ?_))))))
 refine WC.sub (λw hw=>hw.pad) ?_
 obtain⟨row_22,hrow_22,hob_22⟩:∃rw:Rowb,rw=([[(g21,.cells #[(pq g9),.slice none 0 0] 101 (0,0))],row10,[]]:List Rowb).flatten∧ah.ob (101,gd) Γ3 g21 rw (⟨z18,[]⟩:ah):=⟨_,rfl,g9,row10,none,0,[],rfl,ho20,(Own.nil recT Γ3 24),trivial⟩
 refine foC [1,2,0] hrow_22 [_,_,_] ?_
 refine Ie h (λ(i29:Nat) (o25:ah) σ w => ∃(Γ23:Gh), ∃(row26:Rowb),slots σ [(9,.slice A12 z1.2.2.1.length c13),(11,(pq g21)),(12,ii (i29:Int))]∧CC F Γ23 [row26,row7,row14] w∧Gh.le Γ3 Γ23∧ah.ob (101,gd) Γ23 g21 row26 o25∧True) ?_ ?_
 ·
  intro w hw
  exact⟨Γ3,row_22,slK,hw,gR,hob_22,trivial⟩
 rintro f28 i29 o25 σ w hi30 hlt31 hge32 ⟨Γ23,row26,hsl,hw,hl24,ho27,-⟩
 refine slV hsl hw [_,_,_] ?_; clear hw hsl
 refine I5 (I4 (mV (k:=mV (k:=sV (ag rfl J7) (k:=sV aG (k:=I3 ?_))))))
 refine coV (λhb33=>?_) (λhb33=>?_)
 ·
  have hl34:=ilt hb33
  have h:=hlt31 hl34
  refine I7 (wc_ (I5 (Ia (I4 (mV (k:=mV (k:=sV (aN (i:=i29) J7 J8 rfl rfl rfl hl34 ((hr15.mono hl24).some_ hl34)) (k:=?_))))))))
  obtain⟨A35,c36,hx37⟩:=(hr15.mono hl24).slT_at i29
  refine sV (lQ (c:=0) (v:=.slice A35 (gt z1.2.2.1 i29).length c36) (i:=2) rfl (hx37 hl34).2 rfl J9 rfl rfl) (k:=?_)
  obtain⟨z38,hz39,h⟩:=bnd h
  refine ecV [] (caV call41) (λw hp=>uT (hx37 hl34).1.2 (hx37 hl34).1.1 hp hz39) ?_
  rintro Γ40 _ _ hl41 ⟨A44,c45,rfl,rfl,hr46,hr47,_⟩
  refine cwV 40 [_,_,_] (mV (k:=sV exV (k:=sV exV (k:=?_))))
  refine alV Jy λg48=>?_
  refine stV 0 (.agg (Rec.cs A44 c45 z38.1).toArray) (Rec.cs A44 c45 z38.1).toArray Jz (k:=aV (k:=I3 (I5 (I4 (mV (k:=sV bD (k:=I3 ?_)))))))
  refine ciV h (λhb49 h=>?_) (λhb49 h=>?_)
  ·
   refine I4 (mV (k:=aV (k:=aV (k:=I3 ?_))))
   refine I8 ?_
   intro w hw
   have hw:=hw.pad
   exact re_ r [3,0] h hF hw ⟨row7,0,[],rfl,rfl,(hr8.mono (hl24.trans hl41)),rfl,hr47,trivial⟩
  refine I7 (wc_ ?_)
  refine leV λh050=>?_
  refine dW (CC F Γ40 [[(g48,.cells (Rec.cs A44 c45 z38.1).toArray 24 (0,0))],row14]) (bo_ [0,2] gR h050) λk=>?_
  change WH _ _ _ _ (CC F Γ40 [_,_,_,_]) _ 10 _ _
  refine hV 0 k (q:=moV) (k:=hV 1 k (q:=moV) (k:=hV 2 k (q:=nlV) (k:=hV 3 k (q:=q_fl 1 eO) (k:=hV 5 k (q:=ldaV 0 (Rec.cs A44 c45 z38.1) JA Jz) (k:=wl_ 4 rfl ?_)))))
  obtain⟨g0_51,r0_51,A1_51,c1_51,r1_51,hrow_51,ho0_51,ho1_51,-⟩:=(ho27.mono hl41)
  refine ufR 1 hrow_51 [_,_,_,_,_,_] ?_
  refine sV (ldV 0 JW) (k:=?_)
  refine I6 (nxV (bo_ [3,4] gR h050) λk=>?_)
  refine wl_ 6 rfl ?_
  have hc56:=ho1_51.capz
  refine seR 2 [_,_,_,_,_,_] λΓ52 hl53 hr54=>?_
  have hs55:=ho1_51.sl hl53 hr54
  obtain⟨z57,hz58,h⟩:=bnd h
  refine ecV [] (caV call42) (λw hp=>lM hs55 hc56 z38.1 (Rec.fits_mono hr46 hl53) hp hz58) ?_
  rintro Γ59 _ _ hl60 ⟨A63,c64,row65,rfl,rfl,hr66,_⟩
  refine cwV 52 [_,_,_,_,_,_,_] ?_
  refine I6 (nxV (bo_ [4,5] (hl53.trans hl60) h050) λk=>?_)
  refine hV 7 k (q:=nlV) (k:=hV 8 k (q:=q_fl 1 eO) (k:=wl_ 9 rfl (stV 1 (.slice A63 z57.length c64) #[(pq g0_51),.slice A63 z57.length c64] sizeOf66 (k:=?_))))
  refine I6 (nxV (bo_ [4,5] (hl53.trans hl60) h050) λk=>?_)
  refine Ig (by kernel_rfl) ?_
  change WC _ _ _ _ _ _
  refine I9 ?_
  refine mV (k:=sV (aF rfl rfl rfl (aJ hl34 (hr15.mono hl24).le)) (k:=aV (k:=?_)))
  refine I6 ?_
  intro w hw
  obtain⟨row_67,hrow_67,hob_67⟩:∃rw:Rowb,rw=([[(g21,.cells #[(pq g0_51),.slice A63 z57.length c64] 101 (0,0))],r0_51,row65]:List Rowb).flatten∧ah.ob (101,gd) Γ59 g21 rw (⟨o25.log,z57⟩:ah):=⟨_,rfl,g0_51,r0_51,A63,c64,row65,rfl,(ho0_51.mono (hl53.trans hl60)),hr66,trivial⟩
  have hw:=hw.fold (is:=[1,1,0]) rfl hrow_67
  exact⟨hl34,(⟨o25.log,z57⟩:ah),h,Γ59,row_67,slK,(hw.on [0,2,2]),(((hl24.trans hl41).trans hl53).trans hl60),hob_67,trivial⟩
 have h:=hge32 (ige hb33)
 refine Ic ?_
 change WC _ _ _ _ _ _
 refine I4 (mV (k:=aV (k:=aV (k:=I3 ?_))))
 exact I8 λw hw=>re_ r [1,0] h hF hw ⟨row7,g21,row26,rfl,rfl,(hr8.mono hl24),ho27,iV,trivial⟩
abbrev qP(r:List UInt8)(U:List Rowb)(Γ:Gh)(v:Value):Prop := ∃(A0:Option Addr), ∃(c0:Nat), ∃(row0:Rowb),v = .slice A0 r.length c0∧U = [row0]∧Own av Γ 5 row0 A0 c0 r∧True
theorem n3(s_:ByteArray)(hs_:s_.size≤lim)(hp:Pre [] Γ w0){r:List UInt8}(h:fg s_=some r):Calls Tryz.prog 144 #[.string s_] w0 (Outc Γ [] w0 (qP r)):=by
 refine goV [2] func144 ntmps144 results144 hp λF hF=>?_
 refine I4 (aV (k:=I3 (I4 (mV (k:=sV (bg rfl IX) (k:=?_))))))
 obtain⟨z1,hz2,h⟩:=bnd h
 refine ecV [] (caV call98) (λw hp=>iH (s_.size:Int) (mL hs_) hp hz2) ?_
 rintro Γ3 _ _ hl4 ⟨A7,c8,row9,rfl,rfl,hr10,_⟩
 refine cwV 7 [_] (aV (k:=I3 (I5 (I4 (aV (k:=I3 (Ia ?_)))))))
 refine Io h (λ(i17:Nat) (b_11:List UInt8) σ w => ∃(A12:Option Addr), ∃(c13:Nat), ∃(row14:Rowb),slots σ [(0,.string s_),(3,.slice A12 b_11.length c13),(4,ii (i17:Int))]∧CC F Γ3 [row14] w∧Own av Γ3 5 row14 A12 c13 b_11∧True) ?_ ?_
 ·
  intro w hw
  exact⟨A7,c8,row9,slK,hw,hr10,trivial⟩
 rintro f16 i17 b_11 σ w hi18 hlt19 hge20 ⟨A12,c13,row14,hsl,hw,ho15,-⟩
 refine slV hsl hw [_] ?_; clear hw hsl
 refine I5 (I4 (mV (k:=mV (k:=sV (bg rfl IX) (k:=sV aG (k:=I3 ?_))))))
 refine coV (λhb21=>?_) (λhb21=>?_)
 ·
  have hl22:=ilt hb21
  have h:=hlt19 hl22
  refine I7 (wc_ (I5 (Ia ?_)))
  refine I9 ?_
  refine mV (k:=mV (k:=mV (k:=sV (pQ (i:=i17) IX rfl rfl rfl hl22) (k:=?_))))
  refine bsV #[.int .u8 (((gt s_.data.toList i17).toNat:Nat):Int)] 5 λg23=>?_
  obtain⟨hk24,h⟩:=am h
  refine apV 1 [(gt s_.data.toList i17)] dq ho15 (Ip hk24) (λw hw=>bM (i:=0) rfl (by exact rfl) hw) ?_
  intro row25 A26 c27 ho28
  refine aV (k:=?_)
  refine I6 ?_
  change WC _ _ _ _ _ _
  refine I9 ?_
  refine mV (k:=sV (aF rfl rfl rfl (aJ hl22 hs_)) (k:=aV (k:=?_)))
  exact I6 λw hw=>⟨hl22,(b_11++[(gt s_.data.toList i17)]),h,A26,c27,row25,slK,(hw.on [1]),ho28,trivial⟩
 have h:=hge20 (ige hb21)
 refine Ic ?_
 change WC _ _ _ _ _ _
 refine I4 (mV (k:=aV (k:=I3 ?_)))
 exact I8 λw hw=>re_ r [0] h hF hw ⟨A12,c13,row14,rfl,rfl,ho15,trivial⟩
abbrev t6(r:List UInt8)(U:List Rowb)(Γ:Gh)(v:Value):Prop := ∃(A0:Option Addr), ∃(c0:Nat), ∃(row0:Rowb),v = .slice A0 r.length c0∧U = [row0]∧Own av Γ 5 row0 A0 c0 r∧True
theorem fo{Ab:Option Addr}{cb:Nat}{rowb:Rowb}{b:List UInt8}(hb:Own av Γ 5 rowb Ab cb b){Al:Option Addr}{cl:Nat}{l:List Int}(hl:Sl intT Γ Al l)(hlc:l.length≤cl)(hp:Pre [rowb] Γ w0){r:List UInt8}(h:d5 b l=some r):Calls Tryz.prog 145 #[.slice Ab b.length cb,.slice Al l.length cl] w0 (Outc Γ [rowb] w0 (t6 r)):=by
 refine goV [4] func145 ntmps145 results145 hp λF hF=>?_
 refine I4 (aV (k:=I3 (I5 (I4 (aV (k:=I3 (Ia ?_)))))))
 refine Ie h (λ(i9:Nat) (b_3:List UInt8) σ w => ∃(Γ1:Gh), ∃(A4:Option Addr), ∃(c5:Nat), ∃(row6:Rowb),slots σ [(0,.slice A4 b_3.length c5),(1,.slice Al l.length cl),(5,ii (i9:Int))]∧CC F Γ1 [row6] w∧Gh.le Γ Γ1∧Own av Γ1 5 row6 A4 c5 b_3∧True) ?_ ?_
 ·
  intro w hw
  exact⟨Γ,Ab,cb,rowb,slK,hw,gR,hb,trivial⟩
 rintro f8 i9 b_3 σ w hi10 hlt11 hge12 ⟨Γ1,A4,c5,row6,hsl,hw,hl2,ho7,-⟩
 refine slV hsl hw [_] ?_; clear hw hsl
 refine I5 (I4 (mV (k:=mV (k:=sV (ag rfl JM) (k:=sV aG (k:=I3 ?_))))))
 refine coV (λhb13=>?_) (λhb13=>?_)
 ·
  have hl14:=ilt hb13
  have h:=hlt11 hl14
  refine I7 (wc_ (I5 (Ia ?_)))
  refine I9 ?_
  refine mV (k:=mV (k:=mV (k:=sV (aN (i:=i9) JM Jk rfl rfl rfl hl14 ((hl.mono hl2).some_ hl14)) (k:=sV (q_ld (c:=0) (v:=ii (gt l i9)) ((hl.mono hl2).intT_at hl14).2 rfl Jl rfl rfl) (k:=?_)))))
  obtain⟨z15,hz16,h⟩:=bnd h
  refine ecV [] (caV call98) (λw hp=>iH (gt l i9) ((hl.mono hl2).intT_at hl14).1 hp hz16) ?_
  rintro Γ17 _ _ hl18 ⟨A21,c22,row23,rfl,rfl,hr24,_⟩
  refine cwV 17 [_,_] ?_
  obtain⟨hk25,h⟩:=am h
  refine apV 1 z15 dq (ho7.mono hl18) (Ip hk25) (λw hw=>lK (i:=0) rfl hr24 hw) ?_
  intro row26 A27 c28 ho29
  refine aV (k:=?_)
  refine I6 ?_
  change WC _ _ _ _ _ _
  refine I9 ?_
  refine mV (k:=sV (aF rfl rfl rfl (aJ hl14 (hl.mono hl2).le)) (k:=aV (k:=?_)))
  exact I6 λw hw=>⟨hl14,(b_3++z15),h,Γ17,A27,c28,row26,slK,(hw.on [1]),(hl2.trans hl18),ho29,trivial⟩
 have h:=hge12 (ige hb13)
 refine Ic ?_
 change WC _ _ _ _ _ _
 refine I4 (mV (k:=aV (k:=I3 ?_)))
 exact I8 λw hw=>re_ r [0] h hF hw ⟨A4,c5,row6,rfl,rfl,ho7,trivial⟩
abbrev sH(r:List UInt8)(U:List Rowb)(Γ:Gh)(v:Value):Prop := ∃(A0:Option Addr), ∃(c0:Nat), ∃(row0:Rowb),v = .slice A0 r.length c0∧U = [row0]∧Own av Γ 5 row0 A0 c0 r∧True
theorem sN{Ab:Option Addr}{cb:Nat}{rowb:Rowb}{b:List UInt8}(hb:Own av Γ 5 rowb Ab cb b){Al:Option Addr}{cl:Nat}{l:List Span}(hl:Sl gS Γ Al l)(hlc:l.length≤cl)(hp:Pre [rowb] Γ w0){r:List UInt8}(h:jd b l=some r):Calls Tryz.prog 146 #[.slice Ab b.length cb,.slice Al l.length cl] w0 (Outc Γ [rowb] w0 (sH r)):=by
 refine goV [4] func146 ntmps146 results146 hp λF hF=>?_
 refine I4 (aV (k:=I3 (I4 (mV (k:=mV (k:=sV (ag rfl JB) (k:=?_)))))))
 refine bsV #[ii (l.length:Int)] 2 λg1=>?_
 have ho2:Own intT Γ 2 [(g1,.cells #[ii (l.length:Int)] 2 (0,0))] (some ⟨g1,0,none⟩) 1 [(l.length:Int)]:=Ii (T:=intT) (ys:=[(l.length:Int)]) [[ii (l.length:Int)]] rfl (show 1≤lim by decide) ⟨⟨rfl,(mL hl.le)⟩,trivial⟩
 have hc7:=ho2.capz
 refine seR 0 [_,_] λΓ3 hl4 hr5=>?_
 have hs6:=ho2.sl hl4 hr5
 obtain⟨z8,hz9,h⟩:=bnd h
 refine ecV [1] (caV call145) (λw hp=>fo (hb.mono hl4) hs6 hc7 hp hz9) ?_
 rintro Γ10 _ _ hl11 ⟨A14,c15,row16,rfl,rfl,hr17,_⟩
 refine cwV 10 [_,_] (aV (k:=I3 (I5 (I4 (aV (k:=I3 (Ia ?_)))))))
 refine Ie h (λ(i26:Nat) (b_20:List UInt8) σ w => ∃(Γ18:Gh), ∃(A21:Option Addr), ∃(c22:Nat), ∃(row23:Rowb),slots σ [(0,.slice A21 b_20.length c22),(1,.slice Al l.length cl),(5,ii (i26:Int))]∧CC F Γ18 [row23] w∧Gh.le Γ10 Γ18∧Own av Γ18 5 row23 A21 c22 b_20∧True) ?_ ?_
 ·
  intro w hw
  exact⟨Γ10,A14,c15,row16,slK,(hw.on [0]),gR,hr17,trivial⟩
 rintro f25 i26 b_20 σ w hi27 hlt28 hge29 ⟨Γ18,A21,c22,row23,hsl,hw,hl19,ho24,-⟩
 refine slV hsl hw [_] ?_; clear hw hsl
 refine I5 (I4 (mV (k:=mV (k:=sV (ag rfl JB) (k:=sV aG (k:=I3 ?_))))))
 refine coV (λhb30=>?_) (λhb30=>?_)
 ·
  have hl31:=ilt hb30
  have h:=hlt28 hl31
  refine I7 (wc_ (I5 (Ia ?_)))
  refine leV λh032=>?_
  refine dW (CC F Γ18 []) (bo_ [] gR h032) λk=>?_
  change WH _ _ _ _ (CC F Γ18 [_]) _ 25 _ _
  refine hV 0 k (q:=moV) (k:=hV 1 k (q:=moV) (k:=hV 2 k (q:=moV) (k:=hV 3 k (q:=aN (i:=i26) JB Jr rfl rfl rfl hl31 ((hl.mono ((hl4.trans hl11).trans hl19)).some_ hl31)) (k:=hV 4 k (q:=ay (i26*3) eM rfl rfl ((hl.mono ((hl4.trans hl11).trans hl19)).some_ hl31) rfl) (k:=hV 5 k (q:=q_ld (c:=0) (v:=ii (gt l i26).s) ((hl.mono ((hl4.trans hl11).trans hl19)).spanT_at hl31).2 rfl Jc rfl rfl) (k:=hV 6 k (q:=moV) (k:=hV 7 k (q:=moV) (k:=?_))))))))
  refine hV 8 k (q:=aN (i:=i26) JB Jr rfl rfl rfl hl31 ((hl.mono ((hl4.trans hl11).trans hl19)).some_ hl31)) (k:=hV 9 k (q:=ay (i26*3+1) eI rfl rfl ((hl.mono ((hl4.trans hl11).trans hl19)).some_ hl31) rfl) (k:=hV 10 k (q:=q_ld (c:=1) (v:=ii (gt l i26).f) ((hl.mono ((hl4.trans hl11).trans hl19)).spanT_at hl31).2 rfl Jl rfl rfl) (k:=hV 11 k (q:=moV) (k:=hV 12 k (q:=moV) (k:=hV 13 k (q:=aN (i:=i26) JB Jr rfl rfl rfl hl31 ((hl.mono ((hl4.trans hl11).trans hl19)).some_ hl31)) (k:=hV 14 k (q:=ay (i26*3+2) eu rfl rfl ((hl.mono ((hl4.trans hl11).trans hl19)).some_ hl31) rfl) (k:=hV 15 k (q:=q_ld (c:=2) (v:=ii (gt l i26).t) ((hl.mono ((hl4.trans hl11).trans hl19)).spanT_at hl31).2 rfl Jl rfl rfl) (k:=?_))))))))
  refine hV 16 k (q:=moV) (k:=hV 17 k (q:=moV) (k:=hV 18 k (q:=aN (i:=i26) JB Jr rfl rfl rfl hl31 ((hl.mono ((hl4.trans hl11).trans hl19)).some_ hl31)) (k:=hV 19 k (q:=ay (i26*3+1) eI rfl rfl ((hl.mono ((hl4.trans hl11).trans hl19)).some_ hl31) rfl) (k:=hV 20 k (q:=q_ld (c:=1) (v:=ii (gt l i26).f) ((hl.mono ((hl4.trans hl11).trans hl19)).spanT_at hl31).2 rfl Jl rfl rfl) (k:=hV 21 k (q:=fO) (k:=wl_ 22 rfl ?_))))))
  refine bsV #[ii (gt l i26).s,ii (gt l i26).f,ii (w64 ((gt l i26).t - (gt l i26).f))] 2 λg33=>?_
  refine I6 (nxV (bo_ [] gR h032) λk=>?_)
  refine wl_ 23 rfl ?_
  have ho34:Own intT Γ18 2 [(g33,.cells #[ii (gt l i26).s,ii (gt l i26).f,ii (w64 ((gt l i26).t - (gt l i26).f))] 2 (0,0))] (some ⟨g33,0,none⟩) 3 [(gt l i26).s,(gt l i26).f,(w64 ((gt l i26).t - (gt l i26).f))]:=Ii (T:=intT) (ys:=[(gt l i26).s,(gt l i26).f,(w64 ((gt l i26).t - (gt l i26).f))]) [[ii (gt l i26).s],[ii (gt l i26).f],[ii (w64 ((gt l i26).t - (gt l i26).f))]] rfl (show 3≤lim by decide) ⟨⟨rfl,((hl.mono ((hl4.trans hl11).trans hl19)).spanT_at hl31).1.1⟩,⟨rfl,((hl.mono ((hl4.trans hl11).trans hl19)).spanT_at hl31).1.2.1⟩,⟨rfl,(dR _)⟩,trivial⟩
  have hc39:=ho34.capz
  refine seR 0 [_,_] λΓ35 hl36 hr37=>?_
  have hs38:=ho34.sl hl36 hr37
  obtain⟨z40,hz41,h⟩:=bnd h
  refine ecV [1] (caV call145) (λw hp=>fo (ho24.mono hl36) hs38 hc39 hp hz41) ?_
  rintro Γ42 _ _ hl43 ⟨A46,c47,row48,rfl,rfl,hr49,_⟩
  refine cwV 40 [_,_] ?_
  refine I6 (nxV (bo_ [] (hl36.trans hl43) h032) λk=>?_)
  refine hV 24 k (q:=aoV) (k:=?_)
  refine Ig (by kernel_rfl) ?_
  change WC _ _ _ _ _ _
  refine I9 ?_
  refine mV (k:=sV (aF rfl rfl rfl (aJ hl31 (hl.mono ((hl4.trans hl11).trans hl19)).le)) (k:=aV (k:=?_)))
  exact I6 λw hw=>⟨hl31,z40,h,Γ42,A46,c47,row48,slK,(hw.on [0]),((hl19.trans hl36).trans hl43),hr49,trivial⟩
 have h:=hge29 (ige hb30)
 refine Ic ?_
 change WC _ _ _ _ _ _
 refine I4 (mV (k:=aV (k:=I3 ?_)))
 exact I8 λw hw=>re_ r [0] h hF hw ⟨A21,c22,row23,rfl,rfl,ho24,trivial⟩
abbrev uD(r:List UInt8)(U:List Rowb)(Γ:Gh)(v:Value):Prop := ∃(A0:Option Addr), ∃(c0:Nat), ∃(row0:Rowb),v = .slice A0 r.length c0∧U = [row0]∧Own av Γ 5 row0 A0 c0 r∧True
theorem uH{Ab:Option Addr}{cb:Nat}{rowb:Rowb}{b:List UInt8}(hb:Own av Γ 5 rowb Ab cb b){Ar_1:Option Addr}{cr_1:Nat}(r_:Rec)(hr_:Rec.fits Γ Ar_1 cr_1 r_)(hp:Pre [rowb] Γ w0){r:List UInt8}(h:mf b r_=some r):Calls Tryz.prog 93 #[.slice Ab b.length cb,.agg (Rec.cs Ar_1 cr_1 r_).toArray] w0 (Outc Γ [rowb] w0 (uD r)):=by
 refine goV [4] func93 ntmps93 results93 hp λF hF=>?_
 refine I4 ?_
 refine bxV (v:=.agg (Rec.cs Ar_1 cr_1 r_).toArray) λg1=>?_
 refine aV (k:=I3 (I4 (mV (k:=sV (q_fl 0 cV) (k:=sV (ldV 0 IY) (k:=?_))))))
 obtain⟨z2,hz3,h⟩:=bnd h
 refine ecV [] (caV call144) (λw hp=>n3 r_.key hr_.1 hp hz3) ?_
 rintro Γ4 _ _ hl5 ⟨A8,c9,row10,rfl,rfl,hr11,_⟩
 refine cwV 10 [_,_,_] ?_
 obtain⟨hk12,h⟩:=am h
 refine apV 2 z2 dq (hb.mono hl5) (Ip hk12) (λw hw=>lK (i:=0) rfl hr11 hw) ?_
 intro row13 A14 c15 ho16
 refine aV (k:=I3 (I4 (mV (k:=sV (q_fl 1 ci) (k:=sV (ldV 1 JH) (k:=sV (ag rfl JE) (k:=?_)))))))
 refine bsV #[ii (r_.vers.length:Int)] 2 λg17=>?_
 have ho18:Own intT Γ4 2 [(g17,.cells #[ii (r_.vers.length:Int)] 2 (0,0))] (some ⟨g17,0,none⟩) 1 [(r_.vers.length:Int)]:=Ii (T:=intT) (ys:=[(r_.vers.length:Int)]) [[ii (r_.vers.length:Int)]] rfl (show 1≤lim by decide) ⟨⟨rfl,(mL (hr_.2.2.mono hl5).le)⟩,trivial⟩
 have hc23:=ho18.capz
 refine seR 0 [_,_,_,_] λΓ19 hl20 hr21=>?_
 have hs22:=ho18.sl hl20 hr21
 obtain⟨z24,hz25,h⟩:=bnd h
 refine ecV [3] (caV call145) (λw hp=>fo (ho16.mono hl20) hs22 hc23 hp hz25) ?_
 rintro Γ26 _ _ hl27 ⟨A30,c31,row32,rfl,rfl,hr33,_⟩
 refine cwV 17 [_,_,_,_] (aV (k:=I3 (I5 (I4 (aV (k:=I3 (Ia ?_)))))))
 refine Ie h (λ(i42:Nat) (b_36:List UInt8) σ w => ∃(Γ34:Gh), ∃(A37:Option Addr), ∃(c38:Nat), ∃(row39:Rowb),slots σ [(0,.slice A37 b_36.length c38),(3,(pq g1)),(5,ii (i42:Int))]∧CC F Γ34 [row39,[(g1,.cells (Rec.cs Ar_1 cr_1 r_).toArray 24 (0,0))]] w∧Gh.le Γ26 Γ34∧Own av Γ34 5 row39 A37 c38 b_36∧True) ?_ ?_
 ·
  intro w hw
  exact⟨Γ26,A30,c31,row32,slK,(hw.on [0,2]),gR,hr33,trivial⟩
 rintro f41 i42 b_36 σ w hi43 hlt44 hge45 ⟨Γ34,A37,c38,row39,hsl,hw,hl35,ho40,-⟩
 refine slV hsl hw [_,_] ?_; clear hw hsl
 refine I5 (I4 (mV (k:=sV (q_fl 1 ci) (k:=sV (ldV 1 JH) (k:=sV (ag rfl JE) (k:=sV aG (k:=I3 ?_)))))))
 refine coV (λhb46=>?_) (λhb46=>?_)
 ·
  have hl47:=ilt hb46
  have h:=hlt44 hl47
  refine I7 (wc_ ?_)
  refine Id (λσ w => ∃(b_50:List UInt8), ∃(Γ48:Gh), ∃(A51:Option Addr), ∃(c52:Nat), ∃(row53:Rowb),iM f41 b_50=some r∧slots σ [(0,.slice A51 b_50.length c52),(3,(pq g1)),(5,ii (i42:Int))]∧CC F Γ48 [row53,[(g1,.cells (Rec.cs Ar_1 cr_1 r_).toArray 24 (0,0))]] w∧Gh.le Γ34 Γ48∧Own av Γ48 5 row53 A51 c52 b_50∧True) ?_ ?_
  ·
   refine Ia (I4 (sV (q_fl 1 ci) (k:=sV (ldV 1 JH) (k:=mV (k:=sV (aN (i:=i42) JE Ju rfl rfl rfl hl47 ((hr_.2.2.mono (((hl5.trans hl20).trans hl27).trans hl35)).some_ hl47)) (k:=?_))))))
   obtain⟨A55,c56,hx57⟩:=(hr_.2.2.mono (((hl5.trans hl20).trans hl27).trans hl35)).verT_at i42
   refine sV (jx (c:=0) (vs:=(Ver.cs A55 c56 (gt r_.vers i42))) (hx57 hl47).2 rfl Jx Ju rfl rfl rfl) (k:=?_)
   refine alV Jt λg58=>?_
   refine stV 0 (.agg (Ver.cs A55 c56 (gt r_.vers i42)).toArray) (Ver.cs A55 c56 (gt r_.vers i42)).toArray Ju (k:=I3 (I4 (mV (k:=sV (q_fl 0 bO) (k:=sV (q_fl 0 cJ) (k:=sV (ldV 0 Jc) (k:=sV (q_fl 0 bO) (k:=?_))))))))
   refine sV (q_fl 1 cA) (k:=sV (ldV 0 Jl) (k:=?_))
   refine bsV #[ii (gt r_.vers i42).dot.s,ii (gt r_.vers i42).dot.n] 2 λg59=>?_
   have ho60:Own intT Γ34 2 [(g59,.cells #[ii (gt r_.vers i42).dot.s,ii (gt r_.vers i42).dot.n] 2 (0,0))] (some ⟨g59,0,none⟩) 2 [(gt r_.vers i42).dot.s,(gt r_.vers i42).dot.n]:=Ii (T:=intT) (ys:=[(gt r_.vers i42).dot.s,(gt r_.vers i42).dot.n]) [[ii (gt r_.vers i42).dot.s],[ii (gt r_.vers i42).dot.n]] rfl (show 2≤lim by decide) ⟨⟨rfl,(hx57 hl47).1.1⟩,⟨rfl,(hx57 hl47).1.2.1⟩,trivial⟩
   have hc65:=ho60.capz
   refine seR 0 [_,_,_,_] λΓ61 hl62 hr63=>?_
   have hs64:=ho60.sl hl62 hr63
   obtain⟨z66,hz67,h⟩:=bnd h
   refine ecV [2] (caV call145) (λw hp=>fo (ho40.mono hl62) hs64 hc65 hp hz67) ?_
   rintro Γ68 _ _ hl69 ⟨A72,c73,row74,rfl,rfl,hr75,_⟩
   refine cwV 38 [_,_,_,_] (aV (k:=I3 (I4 (mV (k:=sV (q_fl 2 fI) (k:=sV (ldV 2 JC) (k:=?_)))))))
   obtain⟨z76,hz77,h⟩:=bnd h
   refine ecV [0] (caV call146) (λw hp=>sN hr75 ((hx57 hl47).1.2.2.1.2.mono (hl62.trans hl69)) (hx57 hl47).1.2.2.1.1 hp hz77) ?_
   rintro Γ78 _ _ hl79 ⟨A82,c83,row84,rfl,rfl,hr85,_⟩
   refine cwV 42 [_,_,_,_] (aV (k:=I3 (I4 (sV (q_fl 3 jC) (k:=sV (ldV 2 JD) (k:=I3 ?_))))))
   refine ciV h (λhb86 h=>?_) (λhb86 h=>?_)
   ·
    refine I9 ?_
    refine mV (k:=?_)
    refine bsV #[ii 1] 2 λg87=>?_
    have ho88:Own intT Γ78 2 [(g87,.cells #[ii 1] 2 (0,0))] (some ⟨g87,0,none⟩) 1 [1]:=Ii (T:=intT) (ys:=[1]) [[ii 1]] rfl (show 1≤lim by decide) ⟨⟨rfl,iV⟩,trivial⟩
    have hc93:=ho88.capz
    refine seR 0 [_,_,_,_,_] λΓ89 hl90 hr91=>?_
    have hs92:=ho88.sl hl90 hr91
    obtain⟨z94,hz95,h⟩:=bnd h
    refine ecV [1] (caV call145) (λw hp=>fo (hr85.mono hl90) hs92 hc93 hp hz95) ?_
    rintro Γ96 _ _ hl97 ⟨A100,c101,row102,rfl,rfl,hr103,_⟩
    refine cwV 47 [_,_,_,_,_] (aV (k:=?_))
    exact I6 λw hw=>⟨z94,Γ96,A100,c101,row102,h,slK,(hw.on [0,3]),((((hl62.trans hl69).trans hl79).trans hl90).trans hl97),hr103,trivial⟩
   refine I4 (mV (k:=?_))
   refine bsV #[ii 0] 2 λg104=>?_
   have ho105:Own intT Γ78 2 [(g104,.cells #[ii 0] 2 (0,0))] (some ⟨g104,0,none⟩) 1 [0]:=Ii (T:=intT) (ys:=[0]) [[ii 0]] rfl (show 1≤lim by decide) ⟨⟨rfl,iV⟩,trivial⟩
   have hc110:=ho105.capz
   refine seR 0 [_,_,_,_,_] λΓ106 hl107 hr108=>?_
   have hs109:=ho105.sl hl107 hr108
   obtain⟨z111,hz112,h⟩:=bnd h
   refine ecV [1] (caV call145) (λw hp=>fo (hr85.mono hl107) hs109 hc110 hp hz112) ?_
   rintro Γ113 _ _ hl114 ⟨A117,c118,row119,rfl,rfl,hr120,_⟩
   refine cwV 50 [_,_,_,_,_] (aV (k:=I3 ?_))
   refine I9 ?_
   refine mV (k:=sV (q_fl 4 jw) (k:=sV (ldV 3 IY) (k:=?_)))
   obtain⟨z121,hz122,h⟩:=bnd h
   refine ecV [] (caV call144) (λw hp=>n3 ((gt r_.vers i42).val) (hx57 hl47).1.2.2.2 hp hz122) ?_
   rintro Γ123 _ _ hl124 ⟨A127,c128,row129,rfl,rfl,hr130,_⟩
   refine cwV 54 [_,_,_,_,_,_] ?_
   obtain⟨hk131,h⟩:=am h
   refine apV 1 z121 dq (hr120.mono hl124) (Ip hk131) (λw hw=>lK (i:=0) rfl hr130 hw) ?_
   intro row132 A133 c134 ho135
   refine aV (k:=?_)
   exact I6 λw hw=>⟨(z111++z121),Γ123,A133,c134,row132,h,slK,(hw.on [1,4]),(((((hl62.trans hl69).trans hl79).trans hl107).trans hl114).trans hl124),ho135,trivial⟩
  rintro σ w ⟨b_50,Γ48,A51,c52,row53,h,hsl,hw,hl49,ho54,-⟩
  refine slV hsl hw [_,_] ?_; clear hw hsl
  refine I9 ?_
  refine mV (k:=sV (aF rfl rfl rfl (aJ hl47 (hr_.2.2.mono (((hl5.trans hl20).trans hl27).trans hl35)).le)) (k:=aV (k:=?_)))
  exact I6 λw hw=>⟨hl47,b_50,h,Γ48,A51,c52,row53,slK,hw,(hl35.trans hl49),ho54,trivial⟩
 have h:=hge45 (ige hb46)
 refine Ic ?_
 change WC _ _ _ _ _ _
 refine I4 (mV (k:=aV (k:=I3 ?_)))
 exact I8 λw hw=>re_ r [0] h hF hw ⟨A37,c38,row39,rfl,rfl,ho40,trivial⟩
abbrev rS(r:List UInt8)(U:List Rowb)(Γ:Gh)(v:Value):Prop := ∃(A0:Option Addr), ∃(c0:Nat), ∃(row0:Rowb),v = .slice A0 r.length c0∧U = [row0]∧Own av Γ 5 row0 A0 c0 r∧True
theorem nh{Ar_1:Option Addr}{cr_1:Nat}(r_:Rec)(hr_:Rec.fits Γ Ar_1 cr_1 r_)(hp:Pre [] Γ w0){r:List UInt8}(h:fP r_=some r):Calls Tryz.prog 44 #[.agg (Rec.cs Ar_1 cr_1 r_).toArray] w0 (Outc Γ [] w0 (rS r)):=by
 refine goV [2] func44 ntmps44 results44 hp λF hF=>?_
 refine I4 ?_
 refine bxV (v:=.agg (Rec.cs Ar_1 cr_1 r_).toArray) λg1=>?_
 refine aV (k:=I3 (I4 (sV (ldaV 0 (Rec.cs Ar_1 cr_1 r_) JA Jz) (k:=?_))))
 refine WR.sub (λw hw=>hw.pad) ?_
 obtain⟨z2,hz3,h⟩:=bnd h
 refine ecV [0] (caV call93) (λw hp=>uH (Own.nil av Γ 5) r_ hr_ hp hz3) ?_
 rintro Γ4 _ _ hl5 ⟨A8,c9,row10,rfl,rfl,hr11,_⟩
 refine cwV 4 [_,_] (aV (k:=I3 ?_))
 exact I8 λw hw=>re_ r [0] h hF hw ⟨A8,c9,row10,rfl,rfl,hr11,trivial⟩
abbrev ou(gd:Nat)(ed:Nat)(r:a7×Int)(U:List Rowb)(Γ:Gh)(v:Value):Prop := ∃(rowd':Rowb),v = .int .i64 r.2∧U = [rowd']∧a7.ob ed Γ gd rowd' r.1∧I64 r.2∧True
theorem iw{gd ed:Nat}{rowd:Rowb}{d:a7}(hd:a7.ob ed Γ gd rowd d)(name:ByteArray)(hname:name.size≤lim){Ab:Option Addr}{cb:Nat}{b:List UInt8}(hb:Sl av Γ Ab b)(hbc:b.length≤cb)(hp:Pre [rowd] Γ w0){r:a7×Int}(h:bm d name b=some r):Calls Tryz.prog 22 #[(pq gd),.string name,.slice Ab b.length cb] w0 (Outc Γ [rowd] w0 (ou gd ed r)):=by
 refine goV [6] func22 ntmps22 results22 hp λF hF=>?_
 refine I4 (aV (k:=I3 (I4 (mV (k:=mV (k:=mV (k:=sV (aZ (v:=.agg #[ii 1,.string name,.string ByteArray.empty,.slice Ab b.length cb,ii 0]) rfl (uV rfl rfl rfl) (λw=>by kernel_rfl)) (k:=?_))))))))
 obtain⟨z1,hz2,h⟩:=bnd h
 refine ecV [0] (caV call57) (λw hp=>ko hd (⟨1,name,ByteArray.empty,b,0⟩:ak) ⟨iV,hname,(show (ByteArray.empty:ByteArray).size≤lim by decide),⟨hbc,hb⟩,iV⟩ hp hz2) ?_
 rintro Γ3 _ _ hl4 ⟨row7,rfl,rfl,hr8,hr9,_⟩
 refine cwV 11 [_] (aV (k:=I3 ?_))
 exact I8 λw hw=>re_ r [0] h hF hw ⟨row7,rfl,rfl,hr8,hr9,trivial⟩
end Fw
end Go.Proofs.YtmafjpdiplfcmaaGreat
