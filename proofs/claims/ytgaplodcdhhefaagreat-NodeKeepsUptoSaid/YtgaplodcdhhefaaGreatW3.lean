/- Walks through the functions that the law reaches (printed by a program). No condition. -/
import Derived.Test.YtgaplodcdhhefaaGreatW2
namespace Go.Proofs.YtgaplodcdhhefaaGreat
namespace Fw
set_option linter.unusedVariables false
set_option linter.unusedSimpArgs false
set_option linter.unusedSectionVars false
set_option maxRecDepth 100000
set_option maxHeartbeats 2000000
open Go.RowKit
open Go.Proofs.Tryz
variable {Γ:Gh} {w0:World}
abbrev wm(gs_:Nat)(es_:Nat×Nat)(edk0:Nat)(r:a8×a6×Int)(U:List Rowb)(Γ:Gh)(v:Value):Prop := ∃(rows_':Rowb), ∃(rowdk0':Rowb),v = .int .i64 r.2.2∧U = [rows_',rowdk0']∧a8.ob es_ Γ gs_ rows_' r.1∧a6.ob edk0 Γ es_.2 rowdk0' r.2.1∧I64 r.2.2∧True
theorem sn{gs_:Nat}{es_:Nat×Nat}{rows_:Rowb}{s_:a8}(hs_:a8.ob es_ Γ gs_ rows_ s_){Alist:Option Addr}{clist:Nat}{list:List Rec}(hlist:Sl recT Γ Alist list)(hlistc:list.length≤clist){edk0:Nat}{rowdk0:Rowb}{dk0:a6}(hdk0:a6.ob edk0 Γ es_.2 rowdk0 dk0)(hp:Pre [rows_,rowdk0] Γ w0){r:a8×a6×Int}(h:j3 s_ list dk0=some r):Calls Tryz.prog 42 #[(pq gs_),.slice Alist list.length clist] w0 (Outc Γ [rows_,rowdk0] w0 (wm gs_ es_ edk0 r)):=by
 refine goV [4] func42 ntmps42 results42 hp λF hF=>?_
 refine Dx (aV (k:=Dw (Dy (Dx (mV (k:=sV (ab rfl Fa) (k:=mV (k:=?_))))))))
 refine Dw (DD ?_)
 refine DF h (λ(i10:Nat) (s:a8×a6) σ w=>match s with | (o3,o6) => ∃(Γ1:Gh), ∃(row4:Rowb), ∃(row7:Rowb),slots σ [(0,(pq gs_)),(10,.slice Alist list.length clist),(11,ii (list.length:Int)),(12,ii (i10:Int))]∧CC F Γ1 [row4,row7] w∧Gh.le Γ Γ1∧a8.ob es_ Γ1 gs_ row4 o3∧a6.ob edk0 Γ1 es_.2 row7 o6∧True) ?_ ?_
 ·
  intro w hw
  exact⟨Γ,rows_,rowdk0,slK,hw,gR,hs_,hdk0,trivial⟩
 rintro f9 i10 ⟨o3,o6⟩ σ w hi11 hlt12 hge13 ⟨Γ1,row4,row7,hsl,hw,hl2,ho5,ho8,-⟩
 refine slV hsl hw [_,_] ?_; clear hw hsl
 refine Dx (sV aw (k:=Dw (Dy ?_)))
 refine coV (λhb14=>?_) (λhb14=>?_)
 ·
  have hl15:=ilt hb14
  have h:=hlt12 hl15
  refine DC (wc_ (Dy (DD (Dx (sV (ar (i:=i10) Fa EU rfl rfl rfl hl15 ((hlist.mono hl2).some_ hl15)) (k:=?_))))))
  obtain⟨A16,c17,hx18⟩:=(hlist.mono hl2).recT_at i10
  refine sV (bT (c:=0) (vs:=(Rec.cs A16 c17 (gt list i10))) (hx18 hl15).2 rfl EV EU rfl rfl rfl) (k:=?_)
  refine alV ET λg19=>?_
  refine stV 0 (.agg (Rec.cs A16 c17 (gt list i10)).toArray) (Rec.cs A16 c17 (gt list i10)).toArray EU (k:=Dw (Dx (mV (k:=sV (q_fl 0 b6) (k:=sV (ldV 0 En) (k:=?_))))))
  obtain⟨z20,hz21,h⟩:=bnd h
  refine ecV [1] (caV call44) (λw hp=>iv ho5 ((gt list i10).key) (hx18 hl15).1.1 hp hz21) ?_
  rintro Γ22 _ _ hl23 ⟨A26,c27,rfl,rfl,hc29,hr28,_⟩
  refine cwV 19 [_,_,_] (aV (k:=Dw (Dx (mV (k:=sV (q_fl 1 aM) (k:=sV (ldV 1 F1) (k:=?_)))))))
  obtain⟨z30,hz31,h⟩:=bnd h
  refine eu (is:=[]) (Lent.nil F) rfl rfl (caV call78) rfl (λw Θ hp hpB hle hleB hR=>mD (hr28.mono hle) hc29 (((hx18 hl15).1.2.2.mono hl23).mono hle) (hx18 hl15).1.2.1 hp hpB hz31) ?_
  rintro Γ32 _ _ hl33 ⟨A36,c37,row38,rfl,rfl,hr39,hr40,_⟩
  refine cwV 24 [_,_,_,_] (mV (k:=sV exV (k:=sV exV (k:=aV (k:=aV (k:=Dw ?_))))))
  refine DL (λσ w => ∃(e_43:Int), ∃(o45:a8), ∃(o48:a6), ∃(Γ41:Gh), ∃(row46:Rowb), ∃(row49:Rowb),gE f9 e_43 o45 o48=some r∧slots σ [(0,(pq gs_)),(9,ii e_43),(10,.slice Alist list.length clist),(11,ii (list.length:Int)),(12,ii (i10:Int))]∧CC F Γ41 [row46,row49] w∧Gh.le Γ32 Γ41∧I64 e_43∧a8.ob es_ Γ41 gs_ row46 o45∧a6.ob edk0 Γ41 es_.2 row49 o48∧True) ?_ ?_
  ·
   refine Dx (mV (k:=sV cW (k:=mV (k:=vG1 (h:=λhg51=>moV) (k:=vG1 (h:=λhg52=>moV) (k:=?_))))))
   obtain⟨z54,hz55,h⟩:=bnd h
   refine vC1 (h:=λhg53=>aH (aC call79 rfl rfl (dX (grV hg53) (grV hg53))) (λw hw=>mh (Γ:=Gh.all w) (hr39.sl hw.sat.le_all (hw.ra 0 rfl)) hr39.capz ((hr28.mono hl33).mono hw.sat.le_all) hc29 (Sat.all w) (bU hz55 hg53))) (k:=vG1 (h:=λhg56=>bb rfl (grV hg56)) (k:=sV pkA (k:=Dw ?_)))
   refine ciV h (λhb57 h=>?_) (λhb57 h=>?_)
   ·
    refine DA ?_
    refine mV (k:=sV (q_fl 0 b6) (k:=sV (ldV 2 En) (k:=mV (k:=sV (aA (v:=.agg #[.string (gt list i10).key,.slice A36 z30.1.length c37]) rfl (dJ rfl rfl) (λw=>by kernel_rfl)) (k:=?_)))))
    have hc62:=hr39.capz
    refine seR 0 [_,_,_,_] λΓ58 hl59 hr60=>?_
    have hs61:=hr39.sl hl59 hr60
    obtain⟨z63,hz64,h⟩:=bnd h
    refine eu (is:=[1,2]) (Lent.nil F) rfl rfl (caV call46) rfl (λw Θ hp hpB hle hleB hR=>jz (ho5.mono ((hl23.trans hl33).trans hl59)) (⟨(gt list i10).key,z30.1⟩:Rec) (Rec.fits_mono ⟨(hx18 hl15).1.1,⟨hc62,hs61⟩⟩ hle) (ho8.mono ((hl23.trans hl33).trans hl59)) hp hpB hz64) ?_
    rintro Γ65 _ _ hl66 ⟨row69,row71,rfl,rfl,hr70,hr72,hr73,_⟩
    refine cwV 40 [_,_,_,_] (aV (k:=?_))
    exact Dz λw hw=>⟨z63.2.2,z63.1,z63.2.1,Γ65,row69,row71,h,slK,(hw.on [0,0]),(hl59.trans hl66),hr73,hr70,hr72,trivial⟩
   exact DC λw hw=>⟨z30.2,o3,o6,Γ32,row4,row7,h,slK,(hw.on [1,2]),gR,hr40,(ho5.mono (hl23.trans hl33)),(ho8.mono (hl23.trans hl33)),trivial⟩
  rintro σ w ⟨e_43,o45,o48,Γ41,row46,row49,h,hsl,hw,hl42,hr44,ho47,ho50,-⟩
  refine slV hsl hw [_,_] ?_; clear hw hsl
  refine Dx (mV (k:=sV bj (k:=Dw ?_)))
  refine ciV h (λhb74 h=>?_) (λhb74 h=>?_)
  ·
   refine Dx (mV (k:=aV (k:=Dw ?_)))
   exact DB λw hw=>re_ r [0,0] h hF hw ⟨row46,row49,rfl,rfl,ho47,ho50,hr44,trivial⟩
  refine DC (wc_ ?_)
  refine DA ?_
  refine sV (am rfl rfl rfl (ax hl15 (hlist.mono hl2).le)) (k:=mV (k:=?_))
  exact Dz λw hw=>⟨hl15,(o45,o48),h,Γ41,row46,row49,slK,hw,(((hl2.trans hl23).trans hl33).trans hl42),ho47,ho50,trivial⟩
 have h:=hge13 (ige hb14)
 refine DE ?_
 change WC _ _ _ _ _ _
 refine Dx (aV (k:=Dw ?_))
 exact DB λw hw=>re_ r [0,0] h hF hw ⟨row4,row7,rfl,rfl,ho5,ho8,iV,trivial⟩
abbrev mP(gb0:Nat)(gb0v:Nat)(eb0v:Nat×Nat)(b0v:aa)(rowb0v:Rowb)(gb1:Nat)(Ab1_10:Option Addr)(cb1_10:Nat)(Ab1_11:Option Addr)(cb1_11:Nat)(Ab1_12:Option Addr)(cb1_12:Nat)(Ab1_13:Option Addr)(cb1_13:Nat)(Ab1_14:Option Addr)(cb1_14:Nat)(b1:ae)(gb2:Nat)(Ab2v:Option Addr)(cb2v:Nat)(b2v:List ae)(rowb2v:Rowb)(r:List ae)(U:List Rowb)(Γ:Gh)(v:Value):Prop := ∃(Ab2_0:Option Addr), ∃(cb2_0:Nat), ∃(rowb2_0:Rowb),v = .tuple #[]∧U = [[(gb0,.cells #[.pointer (some ⟨gb0v,0,none⟩)] 25 (0,0))],rowb0v,[(gb1,.cells #[.int .i64 b1.kind,.int .i64 b1.from_.site,.int .i64 b1.from_.node,.int .i64 b1.to_.site,.int .i64 b1.to_.node,.int .i64 b1.id,.int .i64 b1.n,.int .i64 b1.for_,.int .i64 b1.code,.string b1.key,.slice Ab1_10 b1.recs.length cb1_10,.slice Ab1_11 b1.vec.length cb1_11,.slice Ab1_12 b1.path.length cb1_12,.slice Ab1_13 b1.hashes.length cb1_13,.slice Ab1_14 b1.route.length cb1_14] 44 (0,0))],[(gb2,.cells #[.slice Ab2_0 r.length cb2_0] 38 (0,0))],rowb2_0]∧Own bd Γ 44 rowb2_0 Ab2_0 cb2_0 r∧True
theorem js{Aa10:Option Addr}{ca10:Nat}{Aa11:Option Addr}{ca11:Nat}{Aa12:Option Addr}{ca12:Nat}{Aa13:Option Addr}{ca13:Nat}{Aa14:Option Addr}{ca14:Nat}(a:ae)(ha:ae.fits Γ Aa10 ca10 Aa11 ca11 Aa12 ca12 Aa13 ca13 Aa14 ca14 a){gb0:Nat}{gb0v:Nat}{eb0v:Nat×Nat}{rowb0v:Rowb}{b0v:aa}(hb0v:aa.ob eb0v Γ gb0v rowb0v b0v){gb1:Nat}{Ab1_10:Option Addr}{cb1_10:Nat}{Ab1_11:Option Addr}{cb1_11:Nat}{Ab1_12:Option Addr}{cb1_12:Nat}{Ab1_13:Option Addr}{cb1_13:Nat}{Ab1_14:Option Addr}{cb1_14:Nat}(b1:ae)(hb1:ae.fits Γ Ab1_10 cb1_10 Ab1_11 cb1_11 Ab1_12 cb1_12 Ab1_13 cb1_13 Ab1_14 cb1_14 b1){gb2:Nat}{Ab2v:Option Addr}{cb2v:Nat}{rowb2v:Rowb}{b2v:List ae}(hb2v:Own bd Γ 44 rowb2v Ab2v cb2v b2v)(hp:Pre [[(gb0,.cells #[(pq gb0v)] 25 (0,0))],rowb0v,[(gb1,.cells (ae.cs Ab1_10 cb1_10 Ab1_11 cb1_11 Ab1_12 cb1_12 Ab1_13 cb1_13 Ab1_14 cb1_14 b1).toArray 44 (0,0))],[(gb2,.cells #[.slice Ab2v b2v.length cb2v] 38 (0,0))],rowb2v] Γ w0){r:List ae}(h:fV a b0v b1 b2v=some r):Calls Tryz.prog 31 #[.agg (ae.cs Aa10 ca10 Aa11 ca11 Aa12 ca12 Aa13 ca13 Aa14 ca14 a).toArray,(pq gb0),(pq gb1),(pq gb2)] w0 (Outc Γ [[(gb0,.cells #[(pq gb0v)] 25 (0,0))],rowb0v,[(gb1,.cells (ae.cs Ab1_10 cb1_10 Ab1_11 cb1_11 Ab1_12 cb1_12 Ab1_13 cb1_13 Ab1_14 cb1_14 b1).toArray 44 (0,0))],[(gb2,.cells #[.slice Ab2v b2v.length cb2v] 38 (0,0))],rowb2v] w0 (mP gb0 gb0v eb0v b0v rowb0v gb1 Ab1_10 cb1_10 Ab1_11 cb1_11 Ab1_12 cb1_12 Ab1_13 cb1_13 Ab1_14 cb1_14 b1 gb2 Ab2v cb2v b2v rowb2v r)):=by
 refine goV [] func31 ntmps31 results31 hp λF hF=>?_
 refine Dx ?_
 refine bxV (v:=.agg (ae.cs Aa10 ca10 Aa11 ca11 Aa12 ca12 Aa13 ca13 Aa14 ca14 a).toArray) λg1=>?_
 refine Dw (Dy ?_)
 refine leV λh02=>?_
 refine db (CC F Γ [[(gb0,.cells #[(pq gb0v)] 25 (0,0))],[(gb1,.cells (ae.cs Ab1_10 cb1_10 Ab1_11 cb1_11 Ab1_12 cb1_12 Ab1_13 cb1_13 Ab1_14 cb1_14 b1).toArray 44 (0,0))],[(gb2,.cells #[.slice Ab2v b2v.length cb2v] 38 (0,0))]]) (bo_ [1,2,2] gR h02) λk=>?_
 change WH _ _ _ _ (CC F Γ [_,_,_,_,_,_]) _ 14 _ _
 refine hV 0 k (q:=ldV 0 Fd) (k:=hV 1 k (q:=nlV) (k:=hV 2 k (q:=q_fl 2 gH) (k:=hV 4 k (q:=q_fl 1 gL) (k:=hV 5 k (q:=ldaV 1 (Adr.cs b1.from_) Em El) (k:=hV 6 k (q:=q_fl 5 ki) (k:=hV 7 k (q:=ldV 1 EH) (k:=wl_ 3 rfl ?_)))))))
 obtain⟨g4_3,r4_3,m5_3,r5_3,m6_3,r6_3,hrow_3,ho0_3,ho1_3,ho2_3,ho3_3,ho4_3,ho5_3,-⟩:=id hb0v
 refine ufR 2 hrow_3 [_,_,_,_,_,_,_,_,_] ?_
 refine sV (ldaV 0 [ii b0v.self_site,ii b0v.self_node] Em El) (k:=?_)
 refine Dz (nxV (bo_ [5,5,5] gR h02) λk=>?_)
 refine hV 8 k (q:=q_fl 1 gL) (k:=wl_ 9 rfl (stV 4 (.agg #[ii b0v.self_site,ii b0v.self_node]) #[ii a.kind,ii b0v.self_site,ii b0v.self_node,ii a.to_.site,ii a.to_.node,ii a.id,ii a.n,ii a.for_,ii a.code,.string a.key,.slice Aa10 a.recs.length ca10,.slice Aa11 a.vec.length ca11,.slice Aa12 a.path.length ca12,.slice Aa13 a.hashes.length ca13,.slice Aa14 a.route.length ca14] El (k:=?_)))
 refine Dz (nxV (bo_ [5,5,5] gR h02) λk=>?_)
 refine hV 10 k (q:=q_fl 3 jY) (k:=wl_ 11 rfl (stV 4 (.agg (Adr.cs b1.from_).toArray) #[ii a.kind,ii b0v.self_site,ii b0v.self_node,ii b1.from_.site,ii b1.from_.node,ii a.id,ii a.n,ii a.for_,ii a.code,.string a.key,.slice Aa10 a.recs.length ca10,.slice Aa11 a.vec.length ca11,.slice Aa12 a.path.length ca12,.slice Aa13 a.hashes.length ca13,.slice Aa14 a.route.length ca14] El (k:=?_)))
 refine Dz (nxV (bo_ [5,5,5] gR h02) λk=>?_)
 refine hV 12 k (q:=q_fl 5 ki) (k:=wl_ 13 rfl (stV 4 (ii b1.id) #[ii a.kind,ii b0v.self_site,ii b0v.self_node,ii b1.from_.site,ii b1.from_.node,ii b1.id,ii a.n,ii a.for_,ii a.code,.string a.key,.slice Aa10 a.recs.length ca10,.slice Aa11 a.vec.length ca11,.slice Aa12 a.path.length ca12,.slice Aa13 a.hashes.length ca13,.slice Aa14 a.route.length ca14] EG (k:=?_)))
 refine Dz (nxV (bo_ [5,5,5] gR h02) λk=>?_)
 refine DH (by kernel_rfl) ?_
 change WC _ _ _ _ _ _
 refine DA ?_
 refine sV (ldV 7 isAgg38) (k:=sV (ldaV 4 [ii a.kind,ii b0v.self_site,ii b0v.self_node,ii b1.from_.site,ii b1.from_.node,ii b1.id,ii a.n,ii a.for_,ii a.code,.string a.key,.slice Aa10 a.recs.length ca10,.slice Aa11 a.vec.length ca11,.slice Aa12 a.path.length ca12,.slice Aa13 a.hashes.length ca13,.slice Aa14 a.route.length ca14] F9 F8) (k:=?_))
 refine bsV #[ii a.kind,ii b0v.self_site,ii b0v.self_node,ii b1.from_.site,ii b1.from_.node,ii b1.id,ii a.n,ii a.for_,ii a.code,.string a.key,.slice Aa10 a.recs.length ca10,.slice Aa11 a.vec.length ca11,.slice Aa12 a.path.length ca12,.slice Aa13 a.hashes.length ca13,.slice Aa14 a.route.length ca14] 44 λg4=>?_
 obtain⟨hk5,h⟩:=af h
 refine apV 9 [(⟨a.kind,(⟨b0v.self_site,b0v.self_node⟩:Adr),(⟨b1.from_.site,b1.from_.node⟩:Adr),b1.id,a.n,a.for_,a.code,a.key,a.recs,a.vec,a.path,a.hashes,a.route⟩:ae)] rc hb2v (DP hk5) (λw hw=>br (i:=0) rfl (by exact⟨Aa10,ca10,Aa11,ca11,Aa12,ca12,Aa13,ca13,Aa14,ca14,rfl,⟨ha.1,ho1_3,ho2_3,hb1.2.1,hb1.2.2.1,hb1.2.2.2.2.2.1,ha.2.2.2.2.2.2.1,ha.2.2.2.2.2.2.2.1,ha.2.2.2.2.2.2.2.2.1,ha.2.2.2.2.2.2.2.2.2.1,⟨ha.2.2.2.2.2.2.2.2.2.2.1.1,ha.2.2.2.2.2.2.2.2.2.2.1.2⟩,⟨ha.2.2.2.2.2.2.2.2.2.2.2.1.1,ha.2.2.2.2.2.2.2.2.2.2.2.1.2⟩,⟨ha.2.2.2.2.2.2.2.2.2.2.2.2.1.1,ha.2.2.2.2.2.2.2.2.2.2.2.2.1.2⟩,⟨ha.2.2.2.2.2.2.2.2.2.2.2.2.2.1.1,ha.2.2.2.2.2.2.2.2.2.2.2.2.2.1.2⟩,⟨ha.2.2.2.2.2.2.2.2.2.2.2.2.2.2.1,ha.2.2.2.2.2.2.2.2.2.2.2.2.2.2.2⟩⟩⟩) hw) ?_
 intro row6 A7 c8 ho9
 refine stV 8 (.slice A7 (b2v++[(⟨a.kind,(⟨b0v.self_site,b0v.self_node⟩:Adr),(⟨b1.from_.site,b1.from_.node⟩:Adr),b1.id,a.n,a.for_,a.code,a.key,a.recs,a.vec,a.path,a.hashes,a.route⟩:ae)]).length c8) #[.slice A7 (b2v++[(⟨a.kind,(⟨b0v.self_site,b0v.self_node⟩:Adr),(⟨b1.from_.site,b1.from_.node⟩:Adr),b1.id,a.n,a.for_,a.code,a.key,a.recs,a.vec,a.path,a.hashes,a.route⟩:ae)]).length c8] sizeOf38 (k:=?_)
 refine Dz ?_
 intro w hw
 have hw:=hw.fold (is:=[1,1,1,1]) rfl hrow_3
 cases h
 subst hF
 exact aI (is:=[3,0,2,2,2]) (by kernel_rfl) hw rfl ⟨A7,c8,row6,rfl,rfl,ho9,trivial⟩
abbrev wq(r:List Rec)(U:List Rowb)(Γ:Gh)(v:Value):Prop := ∃(A0:Option Addr), ∃(c0:Nat), ∃(row0:Rowb),v = .slice A0 r.length c0∧U = [row0]∧Own recT Γ 36 row0 A0 c0 r∧True
theorem wl{Al:Option Addr}{cl:Nat}{l:List Rec}(hl:Sl recT Γ Al l)(hlc:l.length≤cl)(hp:Pre [] Γ w0){r:List Rec}(h:iR l=some r):Calls Tryz.prog 43 #[.slice Al l.length cl] w0 (Outc Γ [] w0 (wq r)):=by
 refine goV [2] func43 ntmps43 results43 hp λF hF=>?_
 refine Dx (aV (k:=Dw (Dx (aV (k:=Dw (Dy (Dx ?_)))))))
 refine mV (k:=sV (ab rfl Fa) (k:=mV (k:=Dw (DD ?_))))
 refine DF h (λ(i9:Nat) (out_3:List Rec) σ w => ∃(Γ1:Gh), ∃(A4:Option Addr), ∃(c5:Nat), ∃(row6:Rowb),slots σ [(3,.slice A4 out_3.length c5),(9,.slice Al l.length cl),(10,ii (l.length:Int)),(11,ii (i9:Int))]∧CC F Γ1 [row6] w∧Gh.le Γ Γ1∧Own recT Γ1 36 row6 A4 c5 out_3∧True) ?_ ?_
 ·
  intro w hw
  have hw:=hw.pad
  exact⟨Γ,none,0,[],slK,hw,gR,(Own.nil recT _ 36),trivial⟩
 rintro f8 i9 out_3 σ w hi10 hlt11 hge12 ⟨Γ1,A4,c5,row6,hsl,hw,hl2,ho7,-⟩
 refine slV hsl hw [_] ?_; clear hw hsl
 refine Dx (sV aw (k:=Dw (Dy ?_)))
 refine coV (λhb13=>?_) (λhb13=>?_)
 ·
  have hl14:=ilt hb13
  have h:=hlt11 hl14
  refine DC (wc_ (Dy (DD (Dx (sV (ar (i:=i9) Fa EU rfl rfl rfl hl14 ((hl.mono hl2).some_ hl14)) (k:=?_))))))
  obtain⟨A15,c16,hx17⟩:=(hl.mono hl2).recT_at i9
  refine sV (bT (c:=0) (vs:=(Rec.cs A15 c16 (gt l i9))) (hx17 hl14).2 rfl EV EU rfl rfl rfl) (k:=?_)
  refine alV ET λg18=>?_
  refine stV 0 (.agg (Rec.cs A15 c16 (gt l i9)).toArray) (Rec.cs A15 c16 (gt l i9)).toArray EU (k:=Dw (Dx (sV (q_fl 0 b6) (k:=sV (ldV 0 En) (k:=sV (aA (v:=.agg #[.string (gt l i9).key,.slice none 0 0]) rfl (iy rfl) (λw=>by kernel_rfl)) (k:=?_))))))
  refine alV ET λg19=>?_
  refine stV 0 (.agg #[.string (gt l i9).key,.slice none 0 0]) #[.string (gt l i9).key,.slice none 0 0] EU (k:=Dw (Dy (Dx (sV (q_fl 1 aM) (k:=sV (ldV 1 F1) (k:=sV (ab rfl EY) (k:=mV (k:=?_))))))))
  refine Dw (DD ?_)
  refine DF h (λ(i28:Nat) (x22:List Ver) σ w => ∃(Γ20:Gh), ∃(A23:Option Addr), ∃(c24:Nat), ∃(row25:Rowb),slots σ [(3,.slice A4 out_3.length c5),(6,(pq g19)),(9,.slice Al l.length cl),(10,ii (l.length:Int)),(11,ii (i9:Int)),(19,.slice A15 ((gt l i9).vers).length c16),(20,ii ((((gt l i9).vers).length:Nat):Int)),(21,ii (i28:Int))]∧CC F Γ20 [row25,[(g19,.cells #[.string (gt l i9).key,.slice A23 x22.length c24] 36 (0,0))],row6] w∧Gh.le Γ1 Γ20∧Own verT Γ20 72 row25 A23 c24 x22∧True) ?_ ?_
  ·
   intro w hw
   have hw:=hw.pad
   exact⟨Γ1,none,0,[],slK,(hw.on [0,0,1]),gR,(Own.nil verT _ 72),trivial⟩
  rintro f27 i28 x22 σ w hi29 hlt30 hge31 ⟨Γ20,A23,c24,row25,hsl,hw,hl21,ho26,-⟩
  refine slV hsl hw [_,_,_] ?_; clear hw hsl
  refine Dx (sV aw (k:=Dw (Dy ?_)))
  refine coV (λhb32=>?_) (λhb32=>?_)
  ·
   have hl33:=ilt hb32
   have h:=hlt30 hl33
   refine DC (wc_ (Dy (DD (Dx (sV (ar (i:=i28) EY EP rfl rfl rfl hl33 (((hx17 hl14).1.2.2.mono hl21).some_ hl33)) (k:=?_))))))
   obtain⟨A34,c35,hx36⟩:=((hx17 hl14).1.2.2.mono hl21).verT_at i28
   refine sV (bT (c:=0) (vs:=(Ver.cs A34 c35 (gt ((gt l i9).vers) i28))) (hx36 hl33).2 rfl ES EP rfl rfl rfl) (k:=?_)
   refine alV EO λg37=>?_
   refine stV 0 (.agg (Ver.cs A34 c35 (gt ((gt l i9).vers) i28)).toArray) (Ver.cs A34 c35 (gt ((gt l i9).vers) i28)).toArray EP (k:=Dw (Dx (sV (q_fl 2 aN) (k:=sV (ldV 0 EX) (k:=?_)))))
   refine WR.sub (λw hw=>hw.pad) ?_
   obtain⟨hk38,h⟩:=af h
   refine l7 (T:=bW) (xs:=[]) (ys:=(gt ((gt l i9).vers) i28).past) lx (i:=0) rfl rfl rfl rfl (by kernel_rfl) rfl rfl (Own.nil bW Γ20 78) (DP hk38) (λw hw=>mQ (hx36 hl33).1.2.2.1.2 hw) ?_
   intro row39 A40 c41 ho42
   refine sV (q_fl 2 aN) (k:=stV 1 (.slice A40 (gt ((gt l i9).vers) i28).past.length c41) (Ver.cs A40 c41 (gt ((gt l i9).vers) i28)).toArray EQ (k:=Dw ?_))
   refine DA ?_
   refine sV (q_fl 1 aM) (k:=sV (ldV 3 F1) (k:=sV (ldaV 1 (Ver.cs A40 c41 (gt ((gt l i9).vers) i28)) ES EP) (k:=?_)))
   have hc47:=ho42.capz
   refine seR 0 [_,_,_,_,_] λΓ43 hl44 hr45=>?_
   have hs46:=ho42.sl hl44 hr45
   refine bsV (Ver.cs A40 c41 (gt ((gt l i9).vers) i28)).toArray 72 λg48=>?_
   obtain⟨hk49,h⟩:=af h
   refine apV 3 [(gt ((gt l i9).vers) i28)] lv (ho26.mono hl44) (DP hk49) (λw hw=>br (i:=0) rfl (by exact⟨A40,c41,rfl,⟨(hx36 hl33).1.1,(hx36 hl33).1.2.1,⟨hc47,hs46⟩,(hx36 hl33).1.2.2.2⟩⟩) hw) ?_
   intro row50 A51 c52 ho53
   refine sV (q_fl 1 aM) (k:=stV 4 (.slice A51 (x22++[(gt ((gt l i9).vers) i28)]).length c52) #[.string (gt l i9).key,.slice A51 (x22++[(gt ((gt l i9).vers) i28)]).length c52] sizeOf34 (k:=?_))
   refine Dz ?_
   change WC _ _ _ _ _ _
   refine DA ?_
   refine sV (am rfl rfl rfl (ax hl33 ((hx17 hl14).1.2.2.mono hl21).le)) (k:=mV (k:=?_))
   exact Dz λw hw=>⟨hl33,(x22++[(gt ((gt l i9).vers) i28)]),h,Γ43,A51,c52,row50,slK,(hw.on [3,3,3]),(hl21.trans hl44),ho53,trivial⟩
  have h:=hge31 (ige hb32)
  refine DE ?_
  change WC _ _ _ _ _ _
  refine DA ?_
  refine mV (k:=sV (ldaV 1 [.string (gt l i9).key,.slice A23 x22.length c24] EV EU) (k:=?_))
  have hc58:=ho26.capz
  refine seR 0 [_,_,_] λΓ54 hl55 hr56=>?_
  have hs57:=ho26.sl hl55 hr56
  refine bsV #[.string (gt l i9).key,.slice A23 x22.length c24] 36 λg59=>?_
  obtain⟨hk60,h⟩:=af h
  refine apV 3 [(⟨(gt l i9).key,x22⟩:Rec)] lI (ho7.mono (hl21.trans hl55)) (DP hk60) (λw hw=>br (i:=0) rfl (by exact⟨A23,c24,rfl,⟨(hx17 hl14).1.1,⟨hc58,hs57⟩⟩⟩) hw) ?_
  intro row61 A62 c63 ho64
  refine aV (k:=?_)
  refine Dz ?_
  change WC _ _ _ _ _ _
  refine DA ?_
  refine sV (am rfl rfl rfl (ax hl14 (hl.mono hl2).le)) (k:=mV (k:=?_))
  exact Dz λw hw=>⟨hl14,(out_3++[(⟨(gt l i9).key,x22⟩:Rec)]),h,Γ54,A62,c63,row61,slK,(hw.on [3]),((hl2.trans hl21).trans hl55),ho64,trivial⟩
 have h:=hge12 (ige hb13)
 refine DE ?_
 change WC _ _ _ _ _ _
 refine Dx (mV (k:=aV (k:=Dw ?_)))
 exact DB λw hw=>re_ r [0] h hF hw ⟨A4,c5,row6,rfl,rfl,ho7,trivial⟩
abbrev qQ(gn:Nat)(en:Nat×Nat)(ganswer0:Nat)(ganswer1:Nat)(Aanswer1_10:Option Addr)(canswer1_10:Nat)(Aanswer1_11:Option Addr)(canswer1_11:Nat)(Aanswer1_12:Option Addr)(canswer1_12:Nat)(Aanswer1_13:Option Addr)(canswer1_13:Nat)(Aanswer1_14:Option Addr)(canswer1_14:Nat)(answer1:ae)(ganswer2:Nat)(Aanswer2v:Option Addr)(canswer2v:Nat)(answer2v:List ae)(rowanswer2v:Rowb)(edk0:Nat)(r:aa×(List ae)×a6)(U:List Rowb)(Γ:Gh)(v:Value):Prop := ∃(rown':Rowb), ∃(Aanswer2_0:Option Addr), ∃(canswer2_0:Nat), ∃(rowanswer2_0:Rowb), ∃(rowdk0':Rowb),v = .tuple #[]∧U = [rown',[(ganswer0,.cells #[.pointer (some ⟨gn,0,none⟩)] 25 (0,0))],[(ganswer1,.cells #[.int .i64 answer1.kind,.int .i64 answer1.from_.site,.int .i64 answer1.from_.node,.int .i64 answer1.to_.site,.int .i64 answer1.to_.node,.int .i64 answer1.id,.int .i64 answer1.n,.int .i64 answer1.for_,.int .i64 answer1.code,.string answer1.key,.slice Aanswer1_10 answer1.recs.length canswer1_10,.slice Aanswer1_11 answer1.vec.length canswer1_11,.slice Aanswer1_12 answer1.path.length canswer1_12,.slice Aanswer1_13 answer1.hashes.length canswer1_13,.slice Aanswer1_14 answer1.route.length canswer1_14] 44 (0,0))],[(ganswer2,.cells #[.slice Aanswer2_0 r.2.1.length canswer2_0] 38 (0,0))],rowanswer2_0,rowdk0']∧aa.ob en Γ gn rown' r.1∧Own bd Γ 44 rowanswer2_0 Aanswer2_0 canswer2_0 r.2.1∧a6.ob edk0 Γ en.2 rowdk0' r.2.2∧True
theorem qV{gn:Nat}{en:Nat×Nat}{rown:Rowb}{n:aa}(hn:aa.ob en Γ gn rown n){Am10:Option Addr}{cm10:Nat}{Am11:Option Addr}{cm11:Nat}{Am12:Option Addr}{cm12:Nat}{Am13:Option Addr}{cm13:Nat}{Am14:Option Addr}{cm14:Nat}(m:ae)(hm:ae.fits Γ Am10 cm10 Am11 cm11 Am12 cm12 Am13 cm13 Am14 cm14 m){ganswer0:Nat}{ganswer1:Nat}{Aanswer1_10:Option Addr}{canswer1_10:Nat}{Aanswer1_11:Option Addr}{canswer1_11:Nat}{Aanswer1_12:Option Addr}{canswer1_12:Nat}{Aanswer1_13:Option Addr}{canswer1_13:Nat}{Aanswer1_14:Option Addr}{canswer1_14:Nat}(answer1:ae)(hanswer1:ae.fits Γ Aanswer1_10 canswer1_10 Aanswer1_11 canswer1_11 Aanswer1_12 canswer1_12 Aanswer1_13 canswer1_13 Aanswer1_14 canswer1_14 answer1){ganswer2:Nat}{Aanswer2v:Option Addr}{canswer2v:Nat}{rowanswer2v:Rowb}{answer2v:List ae}(hanswer2v:Own bd Γ 44 rowanswer2v Aanswer2v canswer2v answer2v){edk0:Nat}{rowdk0:Rowb}{dk0:a6}(hdk0:a6.ob edk0 Γ en.2 rowdk0 dk0)(hp:Pre [rown,[(ganswer0,.cells #[(pq gn)] 25 (0,0))],[(ganswer1,.cells (ae.cs Aanswer1_10 canswer1_10 Aanswer1_11 canswer1_11 Aanswer1_12 canswer1_12 Aanswer1_13 canswer1_13 Aanswer1_14 canswer1_14 answer1).toArray 44 (0,0))],[(ganswer2,.cells #[.slice Aanswer2v answer2v.length canswer2v] 38 (0,0))],rowanswer2v,rowdk0] Γ w0){r:aa×(List ae)×a6}(h:lP n m answer1 answer2v dk0=some r):Calls Tryz.prog 23 #[(pq gn),.agg (ae.cs Am10 cm10 Am11 cm11 Am12 cm12 Am13 cm13 Am14 cm14 m).toArray,.func (.func 31) #[] #[(pq ganswer0),(pq ganswer1),(pq ganswer2)]] w0 (Outc Γ [rown,[(ganswer0,.cells #[(pq gn)] 25 (0,0))],[(ganswer1,.cells (ae.cs Aanswer1_10 canswer1_10 Aanswer1_11 canswer1_11 Aanswer1_12 canswer1_12 Aanswer1_13 canswer1_13 Aanswer1_14 canswer1_14 answer1).toArray 44 (0,0))],[(ganswer2,.cells #[.slice Aanswer2v answer2v.length canswer2v] 38 (0,0))],rowanswer2v,rowdk0] w0 (qQ gn en ganswer0 ganswer1 Aanswer1_10 canswer1_10 Aanswer1_11 canswer1_11 Aanswer1_12 canswer1_12 Aanswer1_13 canswer1_13 Aanswer1_14 canswer1_14 answer1 ganswer2 Aanswer2v canswer2v answer2v rowanswer2v edk0 r)):=by
 refine goV [] func23 ntmps23 results23 hp λF hF=>?_
 refine Dx ?_
 refine bxV (v:=.agg (ae.cs Am10 cm10 Am11 cm11 Am12 cm12 Am13 cm13 Am14 cm14 m).toArray) λg1=>?_
 refine Dw (Dy (Dy ?_))
 obtain⟨g4_2,r4_2,m5_2,r5_2,m6_2,r6_2,hrow_2,ho0_2,ho1_2,ho2_2,ho3_2,ho4_2,ho5_2,-⟩:=id hn
 refine ufC 1 hrow_2 [_,_,_,_,_,_,_,_,_,_] ?_
 refine drV ?_
 refine zV (q_fl 7 k7) (k:=zV (ldV 4 Ez) (k:=zV bj (k:=zV moV (k:=wG1 (h:=λhg3=>q_fl 7 k7) (k:=wG1 (h:=λhg4=>ldV 4 Ez (hx:=grV hg4)) (k:=wG1 (h:=λhg5=>moV) (k:=wG1 (h:=λhg6=>nlV (hv:=grV hg6)) (k:=?_))))))))
 refine wG1 (h:=λhg7=>q_fl 2 gH rfl (grV hg7)) (k:=wG1 (h:=λhg8=>q_fl 3 k8 rfl (grV hg8)) (k:=wG1 (h:=λhg9=>ldV 0 Ez (hx:=grV hg9)) (k:=wG1 (h:=λhg10=>bj rfl (grV hg10) (grV hg10)) (k:=zV pkA (k:=?_)))))
 refine DJ ?_
 change WC _ _ _ _ _ _
 refine ciV h (λhb11 h=>?_) (λhb11 h=>?_)
 ·
  refine Dy ?_
  refine leV λh012=>?_
  refine db (CC F Γ [[(gn,.cells #[ii n.life,.pointer (some ⟨en.2,0,none⟩),ii n.self_site,ii n.self_node,(pq g4_2),.map (some m5_2),.map (some m6_2)] en.1 (0,0))],r4_2,r6_2,[(g1,.cells (ae.cs Am10 cm10 Am11 cm11 Am12 cm12 Am13 cm13 Am14 cm14 m).toArray 44 (0,0))],[(ganswer0,.cells #[(pq gn)] 25 (0,0))],[(ganswer1,.cells (ae.cs Aanswer1_10 canswer1_10 Aanswer1_11 canswer1_11 Aanswer1_12 canswer1_12 Aanswer1_13 canswer1_13 Aanswer1_14 canswer1_14 answer1).toArray 44 (0,0))],[(ganswer2,.cells #[.slice Aanswer2v answer2v.length canswer2v] 38 (0,0))]]) (bo_ [0,0,1,1,1,1,1] gR h012) λk=>?_
  change WH _ _ _ _ (CC F Γ [_,_,_,_,_,_,_,_,_,_]) _ 10 _ _
  refine hV 0 k (q:=moV) (k:=hV 1 k (q:=nlV) (k:=hV 2 k (q:=q_fl 5 oM) (k:=hV 3 k (q:=ldV 0 isAgg57) (k:=hV 4 k (q:=q_fl 7 k7) (k:=hV 5 k (q:=ldV 3 Ez) (k:=hV 7 k (q:=q_fl 10 fZ) (k:=hV 8 k (q:=ldV 3 Fb) (k:=?_))))))))
  refine wl_ 6 rfl ?_
  obtain⟨o13,hq14,h⟩:=bnd h
  obtain⟨gs15,rM16,rA17,rS18,rB19,hat20,hsub21,hrow22,hm23,hback24⟩:=MapJ.part ho4_2 hq14
  have hm23:a8.ob (88,en.2) Γ gs15 rS18 o13:=hm23
  refine sV (kn (v:=(pq gs15)) (λw hw p hp=>hw.at_ (i:=2) rfl (by rw [hrow22]; exact List.mem_append.2 (.inl (hsub21 p hp)))) hat20 rfl F6 Fe rfl rfl) (k:=?_)
  intro w hw; have hw:=hw.unfold (U:=[rA17,rS18,rB19]) (i:=2) rfl (by rw [hrow22]; simp)
  refine WR.here (C:=CC F Γ [_,_,_,_,_,_,_,_,_,_,_,_]) ?_ hw
  clear hw
  refine Dz (nxV (bo_ [3,3,3,3,3,3,3] gR h012) λk=>?_)
  refine wl_ 9 rfl ?_
  obtain⟨z25,hz26,h⟩:=bnd h
  refine ecV [1,10] (caV call42) (λw hp=>sn hm23 hm.2.2.2.2.2.2.2.2.2.2.1.2 hm.2.2.2.2.2.2.2.2.2.2.1.1 hdk0 hp hz26) ?_
  rintro Γ27 _ _ hl28 ⟨row31,row33,rfl,rfl,hr32,hr34,hr35,_⟩
  refine cwV 29 [_,_,_,_,_,_,_,_,_,_,_,_] ?_
  refine Dz (nxV (bo_ [4,4,4,4,4,4,4] hl28 h012) λk=>?_)
  refine DH (by kernel_rfl) ?_
  change WC _ _ _ _ _ _
  refine DB ?_
  intro w hw
  obtain⟨row36,hrow37,hm38⟩:∃rw:Rowb,rw=([rA17,row31,rB19]:List Rowb).flatten∧MapJ (intK F5) (a8.tob (88,en.2)) Γ27 rw m5_2 (mput m.for_ z25.1 n.hints):=⟨_,rfl,by simpa using hback24 _ _ _ hl28 hr32⟩
  have hw:=hw.fold (is:=[2,0,1]) rfl hrow37
  obtain⟨row_39,hrow_39,hob_39⟩:∃rw:Rowb,rw=([[(gn,.cells #[ii n.life,.pointer (some ⟨en.2,0,none⟩),ii n.self_site,ii n.self_node,(pq g4_2),.map (some m5_2),.map (some m6_2)] en.1 (0,0))],r4_2,row36,r6_2]:List Rowb).flatten∧aa.ob en Γ27 gn rw (⟨n.life,n.self_site,n.self_node,n.own,(mput m.for_ z25.1 n.hints),n.does⟩:aa):=⟨_,rfl,g4_2,r4_2,m5_2,row36,m6_2,r6_2,rfl,ho0_2,ho1_2,ho2_2,(ho3_2.mono hl28),hm38,(ho5_2.mono hl28),trivial⟩
  have hw:=hw.fold (is:=[2,2,0,1]) rfl hrow_39
  cases h
  subst hF
  exact aI (is:=[0,2,2,2,2,0]) (by kernel_rfl) hw rfl ⟨row_39,Aanswer2v,canswer2v,rowanswer2v,row33,rfl,rfl,hob_39,(hanswer2v.mono hl28),hr34,trivial⟩
 refine DC (wc_ (Dy (Dy ?_)))
 refine leV λh040=>?_
 refine db (CC F Γ [[(gn,.cells #[ii n.life,.pointer (some ⟨en.2,0,none⟩),ii n.self_site,ii n.self_node,(pq g4_2),.map (some m5_2),.map (some m6_2)] en.1 (0,0))],r6_2,[(g1,.cells (ae.cs Am10 cm10 Am11 cm11 Am12 cm12 Am13 cm13 Am14 cm14 m).toArray 44 (0,0))],[(ganswer0,.cells #[(pq gn)] 25 (0,0))],[(ganswer1,.cells (ae.cs Aanswer1_10 canswer1_10 Aanswer1_11 canswer1_11 Aanswer1_12 canswer1_12 Aanswer1_13 canswer1_13 Aanswer1_14 canswer1_14 answer1).toArray 44 (0,0))],[(ganswer2,.cells #[.slice Aanswer2v answer2v.length canswer2v] 38 (0,0))]]) (bo_ [0,2,2,2,2,2] gR h040) λk=>?_
 change WH _ _ _ _ (CC F Γ [_,_,_,_,_,_,_,_,_,_]) _ 8 _ _
 refine hV 0 k (q:=moV) (k:=hV 1 k (q:=nlV) (k:=hV 2 k (q:=q_fl 4 p7) (k:=hV 3 k (q:=ldV 0 isAgg54) (k:=hV 4 k (q:=q_fl 10 fZ) (k:=hV 5 k (q:=ldV 2 Fb) (k:=wl_ 6 rfl ?_))))))
 obtain⟨z41,hz42,h⟩:=bnd h
 refine ecV [1,8] (caV call42) (λw hp=>sn ho3_2 hm.2.2.2.2.2.2.2.2.2.2.1.2 hm.2.2.2.2.2.2.2.2.2.2.1.1 hdk0 hp hz42) ?_
 rintro Γ43 _ _ hl44 ⟨row47,row49,rfl,rfl,hr48,hr50,hr51,_⟩
 refine cwV 36 [_,_,_,_,_,_,_,_,_,_] ?_
 refine Dz (nxV (bo_ [2,3,3,3,3,3] hl44 h040) λk=>?_)
 refine hV 7 k (q:=aoV) (k:=?_)
 refine DH (by kernel_rfl) ?_
 change WC _ _ _ _ _ _
 refine Dx (mV (k:=sV bj (k:=Dw ?_)))
 refine ciV h (λhb52 h=>?_) (λhb52 h=>?_)
 ·
  refine Dx (mU (v:=.func (.func 31) #[] #[(pq ganswer0),(pq ganswer1),(pq ganswer2)]) (k:=mV (k:=sV (aA (v:=.agg #[ii 3,ii 0,ii 0,ii 0,ii 0,ii 0,ii 0,ii 0,ii z41.2.2,.string ByteArray.empty,.slice none 0 0,.slice none 0 0,.slice none 0 0,.slice none 0 0,.slice none 0 0]) rfl (dJ rfl rfl) (λw=>by kernel_rfl)) (k:=?_))))
  obtain⟨row_53,hrow_53,hob_53⟩:∃rw:Rowb,rw=([[(gn,.cells #[ii n.life,.pointer (some ⟨en.2,0,none⟩),ii n.self_site,ii n.self_node,(pq g4_2),.map (some m5_2),.map (some m6_2)] en.1 (0,0))],row47,r5_2,r6_2]:List Rowb).flatten∧aa.ob en Γ43 gn rw (⟨n.life,n.self_site,n.self_node,z41.1,n.hints,n.does⟩:aa):=⟨_,rfl,g4_2,row47,m5_2,r5_2,m6_2,r6_2,rfl,ho0_2,ho1_2,ho2_2,hr48,(ho4_2.mono hl44),(ho5_2.mono hl44),trivial⟩
  refine foR [2,0,1,1] hrow_53 [_,_,_,_,_,_,_] ?_
  obtain⟨z54,hz55,h⟩:=bnd h
  refine ecV [3,0,2,2,2] (aT (caps:=#[(pq ganswer0),(pq ganswer1),(pq ganswer2)]) call31 rfl (by kernel_rfl) (by kernel_rfl)) (λw hp=>js (Aa10:=none) (ca10:=0) (Aa11:=none) (ca11:=0) (Aa12:=none) (ca12:=0) (Aa13:=none) (ca13:=0) (Aa14:=none) (ca14:=0) (⟨3,(⟨0,0⟩:Adr),(⟨0,0⟩:Adr),0,0,0,z41.2.2,ByteArray.empty,[],[],[],[],[]⟩:ae) ⟨iV,iV,iV,iV,iV,iV,iV,iV,hr51,(show (ByteArray.empty:ByteArray).size≤lim by decide),nilV,nilV,nilV,nilV,nilV⟩ hob_53 answer1 (by exact(ae.fits_mono hanswer1 hl44)) (hanswer2v.mono hl44) hp hz55) ?_
  rintro Γ56 _ _ hl57 ⟨A60,c61,row62,rfl,rfl,hr63,_⟩
  refine cwV 42 [_,_,_,_,_,_,_] (Dw ?_)
  exact DB λw hw=>re_ r [1,0,0,0,0,0] h hF hw ⟨row_53,A60,c61,row62,row49,rfl,rfl,(hob_53.mono hl57),hr63,(hr50.mono hl57),trivial⟩
 refine DC (wc_ ?_)
 obtain⟨row_64,hrow_64,hob_64⟩:∃rw:Rowb,rw=([[(gn,.cells #[ii n.life,.pointer (some ⟨en.2,0,none⟩),ii n.self_site,ii n.self_node,(pq g4_2),.map (some m5_2),.map (some m6_2)] en.1 (0,0))],row47,r5_2,r6_2]:List Rowb).flatten∧aa.ob en Γ43 gn rw (⟨n.life,n.self_site,n.self_node,z41.1,n.hints,n.does⟩:aa):=⟨_,rfl,g4_2,row47,m5_2,r5_2,m6_2,r6_2,rfl,ho0_2,ho1_2,ho2_2,hr48,(ho4_2.mono hl44),(ho5_2.mono hl44),trivial⟩
 refine foC [2,0,1,1] hrow_64 [_,_,_,_,_,_,_] ?_
 obtain⟨g4_65,r4_65,m5_65,r5_65,m6_65,r6_65,hrow_65,ho0_65,ho1_65,ho2_65,ho3_65,ho4_65,ho5_65,-⟩:=id hob_64
 refine ufC 0 hrow_65 [_,_,_,_,_,_,_,_,_,_] ?_
 refine leV λh066=>?_
 refine db (CC F Γ43 [[(gn,.cells #[ii (⟨n.life,n.self_site,n.self_node,z41.1,n.hints,n.does⟩:aa).life,.pointer (some ⟨en.2,0,none⟩),ii (⟨n.life,n.self_site,n.self_node,z41.1,n.hints,n.does⟩:aa).self_site,ii (⟨n.life,n.self_site,n.self_node,z41.1,n.hints,n.does⟩:aa).self_node,(pq g4_65),.map (some m5_65),.map (some m6_65)] en.1 (0,0))],r4_65,r6_65,[(g1,.cells (ae.cs Am10 cm10 Am11 cm11 Am12 cm12 Am13 cm13 Am14 cm14 m).toArray 44 (0,0))]]) (bo_ [0,0,1,2] gR h066) λk=>?_
 change WH _ _ _ _ (CC F Γ43 [_,_,_,_,_,_,_,_,_,_]) _ 10 _ _
 refine hV 0 k (q:=b4 (v:=.func (.func 31) #[] #[(pq ganswer0),(pq ganswer1),(pq ganswer2)]) rfl (by kernel_rfl)) (k:=hV 1 k (q:=moV) (k:=hV 2 k (q:=nlV) (k:=hV 3 k (q:=q_fl 0 vn) (k:=hV 4 k (q:=ldV 0 EH) (k:=hV 5 k (q:=q_fl 10 fZ) (k:=hV 6 k (q:=ldV 3 Fb) (k:=wl_ 7 rfl ?_)))))))
 obtain⟨z67,hz68,h⟩:=bnd h
 refine ecV [] (caV call43) (λw hp=>wl (hm.2.2.2.2.2.2.2.2.2.2.1.2.mono hl44) hm.2.2.2.2.2.2.2.2.2.2.1.1 hp hz68) ?_
 rintro Γ69 _ _ hl70 ⟨A73,c74,row75,rfl,rfl,hr76,_⟩
 refine cwV 50 [_,_,_,_,_,_,_,_,_,_,_] ?_
 refine Dz (nxV (bo_ [1,1,2,3] hl70 h066) λk=>?_)
 refine hV 8 k (q:=aA (v:=.agg #[ii 2,ii 0,ii 0,ii 0,ii 0,ii 0,ii (⟨n.life,n.self_site,n.self_node,z41.1,n.hints,n.does⟩:aa).life,ii 0,ii 0,.string ByteArray.empty,.slice A73 z67.length c74,.slice none 0 0,.slice none 0 0,.slice none 0 0,.slice none 0 0]) rfl (so rfl rfl rfl) (λw=>by kernel_rfl)) (k:=wl_ 9 rfl ?_)
 have hc81:=hr76.capz
 refine seR 0 [_,_,_,_,_,_,_,_,_,_,_] λΓ77 hl78 hr79=>?_
 have hs80:=hr76.sl hl78 hr79
 refine foR [1,1,1,1] hrow_65 [_,_,_,_,_,_,_,_] ?_
 obtain⟨z83,hz84,h⟩:=bnd h
 refine ecV [4,0,3,3,3] (aT (caps:=#[(pq ganswer0),(pq ganswer1),(pq ganswer2)]) call31 rfl (by kernel_rfl) (by kernel_rfl)) (λw hp=>js (Aa11:=none) (ca11:=0) (Aa12:=none) (ca12:=0) (Aa13:=none) (ca13:=0) (Aa14:=none) (ca14:=0) (⟨2,(⟨0,0⟩:Adr),(⟨0,0⟩:Adr),0,(⟨n.life,n.self_site,n.self_node,z41.1,n.hints,n.does⟩:aa).life,0,0,ByteArray.empty,z67,[],[],[],[]⟩:ae) ⟨iV,iV,iV,iV,iV,iV,ho0_65,iV,iV,(show (ByteArray.empty:ByteArray).size≤lim by decide),⟨hc81,hs80⟩,nilV,nilV,nilV,nilV⟩ (hob_64.mono (hl70.trans hl78)) answer1 (by exact(ae.fits_mono hanswer1 ((hl44.trans hl70).trans hl78))) (hanswer2v.mono ((hl44.trans hl70).trans hl78)) hp hz84) ?_
 rintro Γ85 _ _ hl86 ⟨A89,c90,row91,rfl,rfl,hr92,_⟩
 refine cwV 52 [_,_,_,_,_,_,_,_] ?_
 refine Dz (nxV (λw hw=>(hw.unfold (i:=1) rfl hrow_65).back ((hl70.trans hl78).trans hl86) h066 (.cons_cons _ (.cons_cons _ (.cons _ (.cons_cons _ (.cons _ (.cons _ (.cons _ (.cons _ (.cons _ (.cons _ (.cons_cons _ .slnil)))))))))))) λk=>?_)
 refine DH (by kernel_rfl) ?_
 intro w hw
 cases h
 subst hF
 exact aI (is:=[1,0,0,0,0,1]) (by kernel_rfl) hw rfl ⟨row_64,A89,c90,row91,row49,rfl,rfl,(hob_64.mono ((hl70.trans hl78).trans hl86)),hr92,(hr50.mono ((hl70.trans hl78).trans hl86)),trivial⟩
theorem ul{Aa:Option Addr}{ca:Nat}{a:List Ver}(ha:Sl verT Γ Aa a)(hac:a.length≤ca){Ab:Option Addr}{cb:Nat}{b:List Ver}(hb:Sl verT Γ Ab b)(hbc:b.length≤cb)(hs:Sat Γ w0){r:Bool}(h:p5 a b=some r):CQ Tryz.prog 45 #[.slice Aa a.length ca,.slice Ab b.length cb] w0 (.bool r):=by
 refine goQ [4] func45 ntmps45 results45 hs λF hF=>?_
 refine Dx (aV (k:=Dw (Dx (mV (k:=mV (k:=?_))))))
 obtain⟨z1,hz2,h⟩:=bnd h
 refine ecV [] (caV call78) (λw hp=>un ha hac hb hbc hp hz2) ?_
 rintro Γ3 _ _ hl4 ⟨A7,c8,row9,rfl,rfl,hr10,hr11,_⟩
 refine cwV 10 [_] (mV (k:=sV exV (k:=sV exV (k:=aV (k:=aV (k:=Dw (Dx ?_)))))))
 refine mV (k:=sV cW (k:=mV (k:=vG1 (h:=λhg12=>moV) (k:=vG1 (h:=λhg13=>moV) (k:=?_)))))
 obtain⟨z15,hz16,h⟩:=bnd h
 refine vC1 (h:=λhg14=>aH (aC call79 rfl rfl (dX (grV hg14) (grV hg14))) (λw hw=>mh (Γ:=Gh.all w) (hr10.sl hw.sat.le_all (hw.ra 0 rfl)) hr10.capz ((ha.mono hl4).mono hw.sat.le_all) hac (Sat.all w) (bU hz16 hg14))) (k:=vG1 (h:=λhg17=>bb rfl (grV hg17)) (k:=sV pkA (k:=aV (k:=Dw ?_))))
 exact DB λw hw=>rq_ r h hF hw
abbrev pV(gn:Nat)(en:Nat×Nat)(ga20:Nat)(ga21:Nat)(Aa21_10:Option Addr)(ca21_10:Nat)(Aa21_11:Option Addr)(ca21_11:Nat)(Aa21_12:Option Addr)(ca21_12:Nat)(Aa21_13:Option Addr)(ca21_13:Nat)(Aa21_14:Option Addr)(ca21_14:Nat)(a21:ae)(ga22:Nat)(Aa22v:Option Addr)(ca22v:Nat)(a22v:List ae)(rowa22v:Rowb)(edk0:Nat)(r:aa×a6)(U:List Rowb)(Γ:Gh)(v:Value):Prop := ∃(rown':Rowb), ∃(rowdk0':Rowb),v = .tuple #[]∧U = [rown',[(ga20,.cells #[.pointer (some ⟨gn,0,none⟩)] 25 (0,0))],[(ga21,.cells #[.int .i64 a21.kind,.int .i64 a21.from_.site,.int .i64 a21.from_.node,.int .i64 a21.to_.site,.int .i64 a21.to_.node,.int .i64 a21.id,.int .i64 a21.n,.int .i64 a21.for_,.int .i64 a21.code,.string a21.key,.slice Aa21_10 a21.recs.length ca21_10,.slice Aa21_11 a21.vec.length ca21_11,.slice Aa21_12 a21.path.length ca21_12,.slice Aa21_13 a21.hashes.length ca21_13,.slice Aa21_14 a21.route.length ca21_14] 44 (0,0))],[(ga22,.cells #[.slice Aa22v a22v.length ca22v] 38 (0,0))],rowa22v,rowdk0']∧aa.ob en Γ gn rown' r.1∧a6.ob edk0 Γ en.2 rowdk0' r.2∧True
theorem qf{gn:Nat}{en:Nat×Nat}{rown:Rowb}{n:aa}(hn:aa.ob en Γ gn rown n){Am10:Option Addr}{cm10:Nat}{Am11:Option Addr}{cm11:Nat}{Am12:Option Addr}{cm12:Nat}{Am13:Option Addr}{cm13:Nat}{Am14:Option Addr}{cm14:Nat}(m:ae)(hm:ae.fits Γ Am10 cm10 Am11 cm11 Am12 cm12 Am13 cm13 Am14 cm14 m){ga20:Nat}{ga21:Nat}{Aa21_10:Option Addr}{ca21_10:Nat}{Aa21_11:Option Addr}{ca21_11:Nat}{Aa21_12:Option Addr}{ca21_12:Nat}{Aa21_13:Option Addr}{ca21_13:Nat}{Aa21_14:Option Addr}{ca21_14:Nat}(a21:ae)(ha21:ae.fits Γ Aa21_10 ca21_10 Aa21_11 ca21_11 Aa21_12 ca21_12 Aa21_13 ca21_13 Aa21_14 ca21_14 a21){ga22:Nat}{Aa22v:Option Addr}{ca22v:Nat}{rowa22v:Rowb}{a22v:List ae}(ha22v:Own bd Γ 44 rowa22v Aa22v ca22v a22v){edk0:Nat}{rowdk0:Rowb}{dk0:a6}(hdk0:a6.ob edk0 Γ en.2 rowdk0 dk0)(hp:Pre [rown,[(ga20,.cells #[(pq gn)] 25 (0,0))],[(ga21,.cells (ae.cs Aa21_10 ca21_10 Aa21_11 ca21_11 Aa21_12 ca21_12 Aa21_13 ca21_13 Aa21_14 ca21_14 a21).toArray 44 (0,0))],[(ga22,.cells #[.slice Aa22v a22v.length ca22v] 38 (0,0))],rowa22v,rowdk0] Γ w0){r:aa×a6}(h:l3 n m a21 a22v dk0=some r):Calls Tryz.prog 24 #[(pq gn),.agg (ae.cs Am10 cm10 Am11 cm11 Am12 cm12 Am13 cm13 Am14 cm14 m).toArray,.func (.func 31) #[] #[(pq ga20),(pq ga21),(pq ga22)]] w0 (Outc Γ [rown,[(ga20,.cells #[(pq gn)] 25 (0,0))],[(ga21,.cells (ae.cs Aa21_10 ca21_10 Aa21_11 ca21_11 Aa21_12 ca21_12 Aa21_13 ca21_13 Aa21_14 ca21_14 a21).toArray 44 (0,0))],[(ga22,.cells #[.slice Aa22v a22v.length ca22v] 38 (0,0))],rowa22v,rowdk0] w0 (pV gn en ga20 ga21 Aa21_10 ca21_10 Aa21_11 ca21_11 Aa21_12 ca21_12 Aa21_13 ca21_13 Aa21_14 ca21_14 a21 ga22 Aa22v ca22v a22v rowa22v edk0 r)):=by
 refine goV [] func24 ntmps24 results24 hp λF hF=>?_
 refine Dx ?_
 refine bxV (v:=.agg (ae.cs Am10 cm10 Am11 cm11 Am12 cm12 Am13 cm13 Am14 cm14 m).toArray) λg1=>?_
 refine Dw (Dy ?_)
 refine leV λh02=>?_
 refine db (CC F Γ [[(g1,.cells (ae.cs Am10 cm10 Am11 cm11 Am12 cm12 Am13 cm13 Am14 cm14 m).toArray 44 (0,0))],[(ga20,.cells #[(pq gn)] 25 (0,0))],[(ga21,.cells (ae.cs Aa21_10 ca21_10 Aa21_11 ca21_11 Aa21_12 ca21_12 Aa21_13 ca21_13 Aa21_14 ca21_14 a21).toArray 44 (0,0))],[(ga22,.cells #[.slice Aa22v a22v.length ca22v] 38 (0,0))]]) (bo_ [0,1,1,1] gR h02) λk=>?_
 change WH _ _ _ _ (CC F Γ [_,_,_,_,_,_,_]) _ 9 _ _
 refine hV 0 k (q:=moV) (k:=hV 1 k (q:=nlV) (k:=hV 2 k (q:=q_fl 5 oM) (k:=hV 4 k (q:=q_fl 1 gL) (k:=hV 5 k (q:=q_fl 2 k8) (k:=hV 6 k (q:=ldV 0 Ez) (k:=wl_ 3 rfl ?_))))))
 obtain⟨g4_3,r4_3,m5_3,r5_3,m6_3,r6_3,hrow_3,ho0_3,ho1_3,ho2_3,ho3_3,ho4_3,ho5_3,-⟩:=id hn
 refine ufR 1 hrow_3 [_,_,_,_,_,_,_,_,_,_] ?_
 refine sV (ldV 0 isAgg57) (k:=?_)
 refine Dz (nxV (bo_ [4,4,4,4] gR h02) λk=>?_)
 refine wl_ 7 rfl ?_
 obtain hq5 | ⟨o4,hq5⟩:=vW (mget m.from_.node n.hints)
 ·
  have h:=bi hq5 h
  obtain⟨rM6,hat7,hsub8⟩:=MapJ.no ho4_3 hq5
  refine sV (kn (v:=.pointer none) (λw hw p hp=>hw.at_ (i:=2) rfl (hsub8 p hp)) hat7 rfl F6 Fe rfl rfl) (k:=?_)
  refine Dz (nxV (bo_ [4,4,4,4] gR h02) λk=>?_)
  refine hV 8 k (q:=aoV) (k:=?_)
  refine DH (by kernel_rfl) ?_
  change WC _ _ _ _ _ _
  refine Dy (Dx (mV (k:=sV (nw (a:=none) Ff rfl rfl rfl) (k:=Dw ?_))))
  refine WC.ctk (b:=true) (by kernel_rfl) rfl ?_
  refine DB ?_
  intro w hw
  have hw:=hw.fold (is:=[0,0,0,0]) rfl hrow_3
  exact re_ r [0,1,1,1,1,1] h hF hw ⟨rown,rowdk0,rfl,rfl,hn,hdk0,trivial⟩
 have h:=bh hq5 h
 obtain⟨gs10,rM11,rA12,rS13,rB14,hat15,hsub16,hrow17,hm18,hback19⟩:=MapJ.part ho4_3 hq5
 have hm18:a8.ob (88,en.2) Γ gs10 rS13 o4:=hm18
 refine sV (kn (v:=(pq gs10)) (λw hw p hp=>hw.at_ (i:=2) rfl (by rw [hrow17]; exact List.mem_append.2 (.inl (hsub16 p hp)))) hat15 rfl F6 Fe rfl rfl) (k:=?_)
 intro w hw; have hw:=hw.unfold (U:=[rA12,rS13,rB14]) (i:=2) rfl (by rw [hrow17]; simp)
 refine WR.here (C:=CC F Γ [_,_,_,_,_,_,_,_,_,_,_,_]) ?_ hw
 clear hw
 refine Dz (nxV (bo_ [6,6,6,6] gR h02) λk=>?_)
 refine hV 8 k (q:=aoV) (k:=?_)
 refine DH (by kernel_rfl) ?_
 change WC _ _ _ _ _ _
 refine Dy (Dx (mV (k:=sV (nw (a:=some ⟨gs10,0,none⟩) Ff rfl rfl rfl) (k:=Dw ?_))))
 refine WC.cfk (b:=false) (by kernel_rfl) rfl ?_
 refine DC (wc_ (Dx (sV (q_fl 10 fZ) (k:=sV (ldV 6 Fb) (k:=sV (ab rfl Fa) (k:=mV (k:=Dw ?_)))))))
 refine DD ?_
 refine DF h (λ(i29:Nat) (s:a8×a6) σ w=>match s with | (o22,o25) => ∃(Γ20:Gh), ∃(row23:Rowb), ∃(row26:Rowb),slots σ [(6,(pq gs10)),(21,.slice Am10 m.recs.length cm10),(22,ii (m.recs.length:Int)),(23,ii (i29:Int))]∧CC F Γ20 [rA12,row23,rB14,[(gn,.cells #[ii n.life,.pointer (some ⟨en.2,0,none⟩),ii n.self_site,ii n.self_node,(pq g4_3),.map (some m5_3),.map (some m6_3)] en.1 (0,0))],r4_3,r6_3,[(ga20,.cells #[(pq gn)] 25 (0,0))],[(ga21,.cells (ae.cs Aa21_10 ca21_10 Aa21_11 ca21_11 Aa21_12 ca21_12 Aa21_13 ca21_13 Aa21_14 ca21_14 a21).toArray 44 (0,0))],[(ga22,.cells #[.slice Aa22v a22v.length ca22v] 38 (0,0))],rowa22v,row26] w∧Gh.le Γ Γ20∧a8.ob (88,en.2) Γ20 gs10 row23 o22∧a6.ob edk0 Γ20 en.2 row26 o25∧True) ?_ ?_
 ·
  intro w hw
  exact⟨Γ,rS13,rowdk0,slK,(hw.on [0,0,0,0,0,0,1,1,1,1,1]),gR,hm18,hdk0,trivial⟩
 rintro f28 i29 ⟨o22,o25⟩ σ w hi30 hlt31 hge32 ⟨Γ20,row23,row26,hsl,hw,hl21,ho24,ho27,-⟩
 refine slV hsl hw [_,_,_,_,_,_,_,_,_,_,_] ?_; clear hw hsl
 refine Dx (sV aw (k:=Dw (Dy ?_)))
 refine coV (λhb33=>?_) (λhb33=>?_)
 ·
  have hl34:=ilt hb33
  have h:=hlt31 hl34
  refine DC (wc_ ?_)
  refine DL (λσ w => ∃(o37:a8), ∃(o40:a6), ∃(Γ35:Gh), ∃(row38:Rowb), ∃(row41:Rowb),gx f28 o37 o40=some r∧slots σ [(6,(pq gs10)),(21,.slice Am10 m.recs.length cm10),(22,ii (m.recs.length:Int)),(23,ii (i29:Int))]∧CC F Γ35 [rA12,row38,rB14,[(gn,.cells #[ii n.life,.pointer (some ⟨en.2,0,none⟩),ii n.self_site,ii n.self_node,(pq g4_3),.map (some m5_3),.map (some m6_3)] en.1 (0,0))],r4_3,r6_3,[(ga20,.cells #[(pq gn)] 25 (0,0))],[(ga21,.cells (ae.cs Aa21_10 ca21_10 Aa21_11 ca21_11 Aa21_12 ca21_12 Aa21_13 ca21_13 Aa21_14 ca21_14 a21).toArray 44 (0,0))],[(ga22,.cells #[.slice Aa22v a22v.length ca22v] 38 (0,0))],rowa22v,row41] w∧Gh.le Γ20 Γ35∧a8.ob (88,en.2) Γ35 gs10 row38 o37∧a6.ob edk0 Γ35 en.2 row41 o40∧True) ?_ ?_
  ·
   refine DD (Dx (sV (ar (i:=i29) Fa EU rfl rfl rfl hl34 ((hm.2.2.2.2.2.2.2.2.2.2.1.2.mono hl21).some_ hl34)) (k:=?_)))
   obtain⟨A43,c44,hx45⟩:=(hm.2.2.2.2.2.2.2.2.2.2.1.2.mono hl21).recT_at i29
   refine sV (bT (c:=0) (vs:=(Rec.cs A43 c44 (gt m.recs i29))) (hx45 hl34).2 rfl EV EU rfl rfl rfl) (k:=?_)
   refine alV ET λg46=>?_
   refine stV 0 (.agg (Rec.cs A43 c44 (gt m.recs i29)).toArray) (Rec.cs A43 c44 (gt m.recs i29)).toArray EU (k:=Dw (Dx (mV (k:=sV (q_fl 0 b6) (k:=sV (ldV 0 En) (k:=?_))))))
   obtain⟨z47,hz48,h⟩:=bnd h
   refine ecV [2] (caV call44) (λw hp=>iv ho24 ((gt m.recs i29).key) (hx45 hl34).1.1 hp hz48) ?_
   rintro Γ49 _ _ hl50 ⟨A53,c54,rfl,rfl,hc56,hr55,_⟩
   refine cwV 30 [_,_,_,_,_,_,_,_,_,_,_,_] (aV (k:=Dw (Dx (mV (k:=sV (ab rfl EY) (k:=sV bx (k:=mV (k:=?_))))))))
   refine vG1 (h:=λhg57=>q_fl 1 aM) (k:=vG1 (h:=λhg58=>ldV 1 F1 (hx:=grV hg58)) (k:=vG1 (h:=λhg59=>moV) (k:=?_)))
   obtain⟨z61,hz62,h⟩:=bnd h
   refine vC1 (h:=λhg60=>aH (aC call45 rfl rfl (dX (grV hg60) (grV hg60))) (λw hw=>ul (Γ:=Gh.all w) (((hx45 hl34).1.2.2.mono hl50).mono hw.sat.le_all) (hx45 hl34).1.2.1 (hr55.mono hw.sat.le_all) hc56 (Sat.all w) (bU hz62 hg60))) (k:=vG1 (h:=λhg63=>bb rfl (grV hg63)) (k:=sV pkA (k:=Dw ?_)))
   refine ciV h (λhb64 h=>?_) (λhb64 h=>?_)
   ·
    refine DA ?_
    refine mV (k:=sV (q_fl 0 b6) (k:=sV (ldV 1 En) (k:=sV (aA (v:=.agg #[.string (gt m.recs i29).key,.slice none 0 0]) rfl (iy rfl) (λw=>by kernel_rfl)) (k:=?_))))
    obtain⟨z65,hz66,h⟩:=bnd h
    refine ecV [0,10] (caV call46) (λw hp=>oH (ho24.mono hl50) (Ar_1:=none) (cr_1:=0) (⟨(gt m.recs i29).key,[]⟩:Rec) ⟨(hx45 hl34).1.1,nilV⟩ (ho27.mono hl50) hp hz66) ?_
    rintro Γ67 _ _ hl68 ⟨row71,row73,rfl,rfl,hr72,hr74,hr75,_⟩
    refine cwV 45 [_,_,_,_,_,_,_,_,_,_,_,_] ?_
    exact Dz λw hw=>⟨z65.1,z65.2.1,Γ67,row71,row73,h,slK,(hw.on [3,0,2,2,2,2,2,2,2,2,0]),(hl50.trans hl68),hr72,hr74,trivial⟩
   exact DC λw hw=>⟨o22,o25,Γ49,row23,row26,h,slK,(hw.on [2,0,1,1,1,1,1,1,1,1,1]),hl50,(ho24.mono hl50),(ho27.mono hl50),trivial⟩
  rintro σ w ⟨o37,o40,Γ35,row38,row41,h,hsl,hw,hl36,ho39,ho42,-⟩
  refine slV hsl hw [_,_,_,_,_,_,_,_,_,_,_] ?_; clear hw hsl
  refine DA ?_
  refine sV (am rfl rfl rfl (ax hl34 (hm.2.2.2.2.2.2.2.2.2.2.1.2.mono hl21).le)) (k:=mV (k:=?_))
  exact Dz λw hw=>⟨hl34,(o37,o40),h,Γ35,row38,row41,slK,hw,(hl21.trans hl36),ho39,ho42,trivial⟩
 have h:=hge32 (ige hb33)
 refine DE ?_
 intro w hw
 obtain⟨row76,hrow77,hm78⟩:∃rw:Rowb,rw=([rA12,row23,rB14]:List Rowb).flatten∧MapJ (intK F5) (a8.tob (88,en.2)) Γ20 rw m5_3 (mput m.from_.node o22 n.hints):=⟨_,rfl,by simpa using hback19 _ _ _ hl21 ho24⟩
 have hw:=hw.fold (is:=[0,0,0]) rfl hrow77
 obtain⟨row_79,hrow_79,hob_79⟩:∃rw:Rowb,rw=([[(gn,.cells #[ii n.life,.pointer (some ⟨en.2,0,none⟩),ii n.self_site,ii n.self_node,(pq g4_3),.map (some m5_3),.map (some m6_3)] en.1 (0,0))],r4_3,row76,r6_3]:List Rowb).flatten∧aa.ob en Γ20 gn rw (⟨n.life,n.self_site,n.self_node,n.own,(mput m.from_.node o22 n.hints),n.does⟩:aa):=⟨_,rfl,g4_3,r4_3,m5_3,row76,m6_3,r6_3,rfl,ho0_3,ho1_3,ho2_3,(ho3_3.mono hl21),hm78,(ho5_3.mono hl21),trivial⟩
 have hw:=hw.fold (is:=[1,1,0,0]) rfl hrow_79
 cases h
 subst hF
 exact aI (is:=[0,0,0,0,0,0]) (by kernel_rfl) hw rfl ⟨row_79,row26,rfl,rfl,hob_79,ho27,trivial⟩
abbrev oo(gn:Nat)(en:Nat×Nat)(edk0:Nat)(r:aa×a6×(List ae))(U:List Rowb)(Γ:Gh)(v:Value):Prop := ∃(rown':Rowb), ∃(rowdk0':Rowb), ∃(A0:Option Addr), ∃(c0:Nat), ∃(row0:Rowb),v = .slice A0 r.2.2.length c0∧U = [rown',rowdk0',row0]∧aa.ob en Γ gn rown' r.1∧a6.ob edk0 Γ en.2 rowdk0' r.2.1∧Own bd Γ 44 row0 A0 c0 r.2.2∧True
theorem gX{gn:Nat}{en:Nat×Nat}{rown:Rowb}{n:aa}(hn:aa.ob en Γ gn rown n){Am10:Option Addr}{cm10:Nat}{Am11:Option Addr}{cm11:Nat}{Am12:Option Addr}{cm12:Nat}{Am13:Option Addr}{cm13:Nat}{Am14:Option Addr}{cm14:Nat}(m:ae)(hm:ae.fits Γ Am10 cm10 Am11 cm11 Am12 cm12 Am13 cm13 Am14 cm14 m){edk0:Nat}{rowdk0:Rowb}{dk0:a6}(hdk0:a6.ob edk0 Γ en.2 rowdk0 dk0)(hp:Pre [rown,rowdk0] Γ w0){r:aa×a6×(List ae)}(h:eX n m dk0=some r):Calls Tryz.prog 10 #[(pq gn),.agg (ae.cs Am10 cm10 Am11 cm11 Am12 cm12 Am13 cm13 Am14 cm14 m).toArray] w0 (Outc Γ [rown,rowdk0] w0 (oo gn en edk0 r)):=by
 refine goV [4] func10 ntmps10 results10 hp λF hF=>?_
 refine Dx ?_
 refine bxV (v:=(pq gn)) λg1=>?_
 refine bxV (v:=.agg (ae.cs Am10 cm10 Am11 cm11 Am12 cm12 Am13 cm13 Am14 cm14 m).toArray) λg2=>?_
 refine aV (k:=Dw (Dy (Dy ?_)))
 obtain⟨g4_3,r4_3,m5_3,r5_3,m6_3,r6_3,hrow_3,ho0_3,ho1_3,ho2_3,ho3_3,ho4_3,ho5_3,-⟩:=id hn
 refine ufC 2 hrow_3 [_,_,_,_,_,_,_] ?_
 refine drV ?_
 refine zV (ldaV 4 (ae.cs Am10 cm10 Am11 cm11 Am12 cm12 Am13 cm13 Am14 cm14 m) F9 F8) (k:=?_)
 obtain⟨z4,hz5,h⟩:=bnd h
 refine wc rfl rfl rfl (aH (caV call30) (λw hw=>lQ (Γ:=Gh.all w) m (ae.fits_mono hm hw.sat.le_all) (Sat.all w) hz5)) (zV bb (k:=zV moV (k:=wG0 (h:=λhg6=>q_fl 3 jY) (k:=wG0 (h:=λhg7=>ldaV 4 (Adr.cs m.to_) Em El (hx:=grV hg7)) (k:=wG0 (h:=λhg8=>ldV 5 Fd) (k:=wG0 (h:=λhg9=>nlV (hv:=grV hg9)) (k:=wG0 (h:=λhg10=>q_fl 2 gH rfl (grV hg10)) (k:=?_))))))))
 refine wG0 (h:=λhg11=>ldaV 0 [ii n.self_site,ii n.self_node] Em El (hx:=grV hg11)) (k:=wG0 (h:=λhg12=>pQ (a:=m.to_) (b:=(⟨n.self_site,n.self_node⟩:Adr)) rfl (grV hg12) (grV hg12)) (k:=zV pkO (k:=zV moV (k:=wG0 (h:=λhg13=>q_fl 1 gL) (k:=wG0 (h:=λhg14=>q_fl 1 ik rfl (grV hg14)) (k:=wG0 (h:=λhg15=>ldV 4 Ez (hx:=grV hg15)) (k:=wG0 (h:=λhg16=>ldV 5 Fd) (k:=?_))))))))
 refine wG0 (h:=λhg17=>nlV (hv:=grV hg17)) (k:=wG0 (h:=λhg18=>q_fl 2 gH rfl (grV hg18)) (k:=wG0 (h:=λhg19=>q_fl 2 ik rfl (grV hg19)) (k:=wG0 (h:=λhg20=>ldV 0 Ez (hx:=grV hg20)) (k:=wG0 (h:=λhg21=>bj rfl (grV hg21) (grV hg21)) (k:=zV pkO (k:=?_))))))
 refine DJ ?_
 change WC _ _ _ _ _ _
 refine ciV h (λhb22 h=>?_) (λhb22 h=>?_)
 ·
  refine Dx (aV (k:=Dw ?_))
  refine DB ?_
  intro w hw
  have hw:=hw.fold (is:=[0,0,0,0]) rfl hrow_3
  have hw:=hw.pad
  exact re_ r [1,3,0] h hF hw ⟨rown,rowdk0,none,0,[],rfl,rfl,hn,hdk0,(Own.nil bd _ 44),trivial⟩
 refine DC (wc_ (Dx ?_))
 refine alV zeroValue38 λg24=>?_
 refine Dw ?_
 refine foC [1,1,1,1] hrow_3 [_,_,_,_,_] ?_
 refine DL (λσ w => ∃(x28:List ae), ∃(o33:aa), ∃(o36:a6), ∃(Γ26:Gh), ∃(A29:Option Addr), ∃(c30:Nat), ∃(row31:Rowb), ∃(row34:Rowb), ∃(row37:Rowb),dA x28 o33 o36=some r∧slots σ [(5,(pq g24))]∧CC F Γ26 [row31,row34,[(g24,.cells #[.slice A29 x28.length c30] 38 (0,0))],row37] w∧Gh.le Γ Γ26∧Own bd Γ26 44 row31 A29 c30 x28∧aa.ob en Γ26 gn row34 o33∧a6.ob edk0 Γ26 en.2 row37 o36∧True) ?_ ?_
 ·
  refine Dy ?_
  refine leV λh039=>?_
  refine db (CC F Γ [[(g24,.cells #[.slice none 0 0] 38 (0,0))],[(g2,.cells (ae.cs Am10 cm10 Am11 cm11 Am12 cm12 Am13 cm13 Am14 cm14 m).toArray 44 (0,0))],[(g1,.cells #[(pq gn)] 25 (0,0))]]) (bo_ [1,1,1] gR h039) λk=>?_
  change WH _ _ _ _ (CC F Γ [_,_,_,_,_]) _ 8 _ _
  refine hV 0 k (q:=ldV 2 Fd) (k:=hV 1 k (q:=nlV) (k:=hV 2 k (q:=q_fl 6 rX) (k:=hV 4 k (q:=q_fl 0 mq) (k:=hV 5 k (q:=ldV 1 Ez) (k:=wl_ 3 rfl ?_)))))
  obtain⟨g4_40,r4_40,m5_40,r5_40,m6_40,r6_40,hrow_40,ho0_40,ho1_40,ho2_40,ho3_40,ho4_40,ho5_40,-⟩:=id hn
  refine ufR 0 hrow_40 [_,_,_,_,_,_,_,_] ?_
  refine sV (ldV 0 isAgg58) (k:=?_)
  refine Dz (nxV (bo_ [4,4,4] gR h039) λk=>?_)
  refine wl_ 6 rfl ?_
  obtain hq41 | ⟨a42,hq41⟩:=vW (mget m.kind n.does)
  ·
   have h:=bi hq41 h
   refine sV (hZ (v:=.nilFunc) (MapO.miss ho5_40 .nilFunc hq41) rfl F7 zeroValue62 rfl rfl (i:=3) rfl) (k:=?_)
   refine Dz (nxV (bo_ [4,4,4] gR h039) λk=>?_)
   refine hV 7 k (q:=ij (v:=.nilFunc) rfl (by kernel_rfl)) (k:=?_)
   refine DH (by kernel_rfl) ?_
   change WC _ _ _ _ _ _
   refine Dx (mU (v:=.nilFunc) (k:=sV (zy Fg rfl rfl rfl) (k:=Dw ?_)))
   refine WC.cfk (b:=false) (by kernel_rfl) rfl ?_
   refine DC ?_
   intro w hw
   have hw:=hw.fold (is:=[0,0,0,0]) rfl hrow_40
   have hw:=hw.pad
   exact⟨[],n,dk0,Γ,none,0,[],rown,rowdk0,h,slK,(hw.on [0,0,0,2]),gR,(Own.nil bd _ 44),hn,hdk0,trivial⟩
  have h:=bh hq41 h
  refine(Bool.eq_false_or_eq_true (a42==23)).elim (λhb47=>?_) (λhb47=>?_)
  ·
   have h:=bt hb47 h
   have hq48:(mget m.kind n.does)=some 23:=hq41.trans (congrArg some (eq_of_beq hb47))
   obtain⟨v44,hv45,hat46⟩:=MapO.hit ho5_40 .nilFunc hq48
   obtain rfl:v44 = .func (.func 23) #[(pq gn)] #[]:=hv45
   refine sV (hZ (v:=.func (.func 23) #[(pq gn)] #[]) hat46 rfl F7 zeroValue62 rfl rfl (i:=3) rfl) (k:=?_)
   refine Dz (nxV (bo_ [4,4,4] gR h039) λk=>?_)
   refine hV 7 k (q:=ij (v:=.func (.func 23) #[(pq gn)] #[]) rfl (by kernel_rfl)) (k:=?_)
   refine DH (by kernel_rfl) ?_
   change WC _ _ _ _ _ _
   refine Dx (mU (v:=.func (.func 23) #[(pq gn)] #[]) (k:=sV (rL Fg rfl rfl rfl) (k:=Dw ?_)))
   refine WC.ctk (b:=true) (by kernel_rfl) rfl ?_
   refine DA ?_
   refine mU (v:=.func (.func 23) #[(pq gn)] #[]) (k:=sV (ldaV 5 (ae.cs Am10 cm10 Am11 cm11 Am12 cm12 Am13 cm13 Am14 cm14 m) F9 F8) (k:=sV (bQ (v:=.func (.func 31) #[] #[(pq g1),(pq g2),(pq g24)]) rfl (by kernel_rfl)) (k:=?_)))
   refine foR [0,0,0,0] hrow_40 [_,_,_,_,_] ?_
   refine WR.sub (λw hw=>hw.pad) ?_
   obtain⟨z50,hz51,h⟩:=bnd h
   refine ecV [1,3,2,1,0,0] (bp (first:=#[(pq gn)]) call23 rfl (by kernel_rfl) (by kernel_rfl)) (λw hp=>qV hn m hm  m (by exact hm) (Own.nil bd Γ 44) hdk0 hp hz51) ?_
   rintro Γ52 _ _ hl53 ⟨row56,A58,c59,row60,row62,rfl,rfl,hr57,hr61,hr63,_⟩
   refine cwV 42 [_,_,_,_,_,_] ?_
   exact Dz λw hw=>⟨z50.2.1,z50.1,z50.2.2,Γ52,A58,c59,row60,row56,row62,h,slK,(hw.on [4,0,2,2]),hl53,hr61,hr57,hr63,trivial⟩
  have h:=bf hb47 h
  refine(Bool.eq_false_or_eq_true (a42==24)).elim (λhb64=>?_) (λhb64=>?_)
  ·
   have h:=bt hb64 h
   have hq65:(mget m.kind n.does)=some 24:=hq41.trans (congrArg some (eq_of_beq hb64))
   obtain⟨v44,hv45,hat46⟩:=MapO.hit ho5_40 .nilFunc hq65
   obtain rfl:v44 = .func (.func 24) #[(pq gn)] #[]:=hv45
   refine sV (hZ (v:=.func (.func 24) #[(pq gn)] #[]) hat46 rfl F7 zeroValue62 rfl rfl (i:=3) rfl) (k:=?_)
   refine Dz (nxV (bo_ [4,4,4] gR h039) λk=>?_)
   refine hV 7 k (q:=ij (v:=.func (.func 24) #[(pq gn)] #[]) rfl (by kernel_rfl)) (k:=?_)
   refine DH (by kernel_rfl) ?_
   change WC _ _ _ _ _ _
   refine Dx (mU (v:=.func (.func 24) #[(pq gn)] #[]) (k:=sV (rL Fg rfl rfl rfl) (k:=Dw ?_)))
   refine WC.ctk (b:=true) (by kernel_rfl) rfl ?_
   refine DA ?_
   refine mU (v:=.func (.func 24) #[(pq gn)] #[]) (k:=sV (ldaV 5 (ae.cs Am10 cm10 Am11 cm11 Am12 cm12 Am13 cm13 Am14 cm14 m) F9 F8) (k:=sV (bQ (v:=.func (.func 31) #[] #[(pq g1),(pq g2),(pq g24)]) rfl (by kernel_rfl)) (k:=?_)))
   refine foR [0,0,0,0] hrow_40 [_,_,_,_,_] ?_
   refine WR.sub (λw hw=>hw.pad) ?_
   obtain⟨z67,hz68,h⟩:=bnd h
   refine ecV [1,3,2,1,0,0] (bp (first:=#[(pq gn)]) call24 rfl (by kernel_rfl) (by kernel_rfl)) (λw hp=>qf hn m hm  m (by exact hm) (Own.nil bd Γ 44) hdk0 hp hz68) ?_
   rintro Γ69 _ _ hl70 ⟨row73,row75,rfl,rfl,hr74,hr76,_⟩
   refine cwV 42 [_,_,_,_,_,_] ?_
   exact Dz λw hw=>⟨[],z67.1,z67.2,Γ69,none,0,[],row73,row75,h,slK,(hw.on [4,0,2,2]),hl70,((Own.nil bd Γ 44).mono hl70),hr74,hr76,trivial⟩
  have h:=bf hb64 h
  cases h
 rintro σ w ⟨x28,o33,o36,Γ26,A29,c30,row31,row34,row37,h,hsl,hw,hl27,ho32,ho35,ho38,-⟩
 refine slV hsl hw [_,_,_,_] ?_; clear hw hsl
 refine Dx (sV (ldV 2 isAgg38) (k:=aV (k:=Dw ?_)))
 exact DB λw hw=>re_ r [1,2,0] h hF hw ⟨row34,row37,A29,c30,row31,rfl,rfl,ho35,ho38,ho32,trivial⟩
abbrev nU(gs_:Nat)(es_:Nat×Nat)(rows_:Rowb)(r:List ByteArray)(U:List Rowb)(Γ:Gh)(v:Value):Prop := ∃(A0:Option Addr), ∃(c0:Nat), ∃(row0:Rowb),v = .slice A0 r.length c0∧U = [rows_,row0]∧Own strT Γ 9 row0 A0 c0 r∧True
theorem nZ{gs_:Nat}{es_:Nat×Nat}{rows_:Rowb}{s_:a8}(hs_:a8.ob es_ Γ gs_ rows_ s_)(hp:Pre [rows_] Γ w0){r:List ByteArray}(h:ft s_=some r):Calls Tryz.prog 60 #[(pq gs_)] w0 (Outc Γ [rows_] w0 (nU gs_ es_ rows_ r)):=by
 refine goV [2] func60 ntmps60 results60 hp λF hF=>?_
 refine Dx (aV (k:=Dw (Dx (mV (k:=sV nlV (k:=sV (q_fl 1 jy) (k:=?_)))))))
 obtain⟨g0_1,r0_1,m1_1,r1_1,hrow_1,ho0_1,ho1_1,-⟩:=id hs_
 refine ufR 0 hrow_1 [_,_,_] ?_
 refine sV (ldV 0 F3) (k:=?_)
 refine wi (ρ:=ly) vR (mb:=some m1_1) rfl rfl (caV call98) ?_
 intro g2
 refine cwV 7 [_,_,_,_] ?_
 obtain⟨hk3,h⟩:=af h
 refine ecV [0,2] (caV call92) (λw hp=>wN ho1_1 (DP hk3) hp) ?_
 rintro Γ4 _ _ hl5 ⟨A8,c9,row10,rfl,rfl,ho11⟩
 refine cwV 8 [_,_,_,_,_] (aV (k:=Dw ?_))
 refine DB ?_
 intro w hw
 have hw:=hw.fold (is:=[3,3,1]) rfl hrow_1
 exact re_ r [0,1] h hF hw ⟨A8,c9,row10,rfl,rfl,ho11,trivial⟩
abbrev mY(r:List Ver)(U:List Rowb)(Γ:Gh)(v:Value):Prop := ∃(A0:Option Addr), ∃(c0:Nat),v = .slice A0 r.length c0∧U = []∧r.length≤c0∧Sl verT Γ A0 r∧True
theorem jt{B:Gh}{gs_:Nat}{es_:Nat×Nat}{rows_:Rowb}{s_:a8}(hs_:a8.ob es_ B gs_ rows_ s_)(hs_r:∀p∈rows_,B p.1=some p.2)(key:ByteArray)(hkey:key.size≤lim)(hp:Pre [] Γ w0)(hpB:Pre [] B w0){r:List Ver}(h:bD s_ key=some r):Calls Tryz.prog 44 #[(pq gs_),.string key] w0 (Outc Γ [] w0 (mY r)):=by
 refine goV [4] func44 ntmps44 results44 hp λF hF=>?_
 have hB:Lent F B:=hF▸Lent.start hpB
 refine Dx (aV (k:=Dw (Dx (mV (k:=sV nlV (k:=sV (q_fl 1 jy) (k:=?_)))))))
 obtain⟨g0_1,r0_1,m1_1,r1_1,hrow_1,ho0_1,ho1_1,-⟩:=id hs_
 have hg_2:∀u∈([[(gs_,.cells #[(pq g0_1),.map (some m1_1)] es_.1 (0,0))],r0_1,r1_1]:List Rowb), ∀p∈u,B p.1=some p.2:=λu hu p hp=>(λp hp=>(hs_r p hp)) p (hrow_1▸List.mem_flatten.2 ⟨u,hu,hp⟩)
 have hgc3:=hg_2 _ (DT ..) (gs_,_) (List.mem_singleton.2 rfl)
 have hgs4:=hg_2 r0_1 (by simp)
 have hgs5:=hg_2 r1_1 (by simp)
 refine sV (BQ (λw hw=>hB.sat hw) λF=>(mG (v:=.map (some m1_1)) hgc3 rfl F3 rfl rfl)) (k:=mV (k:=?_))
 obtain⟨v6,⟨A9,c10,hv7,hc11,hs12⟩,hat8⟩:=MapO.look ho1_1 key (z:=.slice none 0 0) (zx:=[]) ⟨none,0,rfl,E7 _,Sl.nil _ _ _⟩
 obtain rfl:v6=_:=List.cons.inj hv7 |>.1
 refine sV (BQ (λw hw=>hB.sat hw) λF=>(ws (v:=.slice A9 ((mget key s_.keys).getD []).length c10) (λp hp=>(hgs5 p hp)) hat8 rfl F4 Er rfl rfl)) (k:=?_)
 obtain⟨z13,hz14,h⟩:=bnd h
 refine eu (is:=[]) hB rfl rfl (caV call40) rfl (λw Θ hp hpB hle hleB hR=>nP (hs12.mono hleB) hc11 hp hpB hz14) ?_
 rintro Γ15 _ _ hl16 ⟨A19,c20,rfl,rfl,hr21,hr22,_⟩
 refine cwV 14 [] (mV (k:=sV exV (k:=sV exV (k:=?_))))
 refine alV ET λg23=>?_
 refine stV 0 (.agg (Rec.cs A19 c20 z13.1).toArray) (Rec.cs A19 c20 z13.1).toArray EU (k:=aV (k:=Dw (Dx (sV (q_fl 1 aM) (k:=sV (ldV 0 F1) (k:=aV (k:=Dw ?_)))))))
 exact DB λw hw=>re_ r [] h hF hw ⟨A19,c20,rfl,rfl,hr21.2.1,hr21.2.2,trivial⟩
abbrev oy(gs_:Nat)(es_:Nat×Nat)(rows_:Rowb)(r:List Rec)(U:List Rowb)(Γ:Gh)(v:Value):Prop := ∃(A0:Option Addr), ∃(c0:Nat), ∃(row0:Rowb),v = .slice A0 r.length c0∧U = [rows_,row0]∧Own recT Γ 36 row0 A0 c0 r∧True
theorem ko{gs_:Nat}{es_:Nat×Nat}{rows_:Rowb}{s_:a8}(hs_:a8.ob es_ Γ gs_ rows_ s_)(hp:Pre [rows_] Γ w0){r:List Rec}(h:bP s_=some r):Calls Tryz.prog 32 #[(pq gs_)] w0 (Outc Γ [rows_] w0 (oy gs_ es_ rows_ r)):=by
 refine goV [2] func32 ntmps32 results32 hp λF hF=>?_
 refine Dx (aV (k:=Dw (Dx (aV (k:=Dw (Dy (Dx ?_)))))))
 refine mV (k:=?_)
 obtain⟨z1,hz2,h⟩:=bnd h
 refine ecV [0] (caV call60) (λw hp=>nZ hs_ hp hz2) ?_
 rintro Γ3 _ _ hl4 ⟨A7,c8,row9,rfl,rfl,hr10,_⟩
 refine cwV 7 [_,_] (sV (ab rfl EE) (k:=mV (k:=Dw (DD ?_))))
 refine DF h (λ(i19:Nat) (out_13:List Rec) σ w => ∃(Γ11:Gh), ∃(A14:Option Addr), ∃(c15:Nat), ∃(row16:Rowb),slots σ [(0,(pq gs_)),(3,.slice A14 out_13.length c15),(7,.slice A7 z1.length c8),(8,ii (z1.length:Int)),(9,ii (i19:Int))]∧CC F Γ11 [row16,rows_,row9] w∧Gh.le Γ3 Γ11∧Own recT Γ11 36 row16 A14 c15 out_13∧True) ?_ ?_
 ·
  intro w hw
  have hw:=hw.pad
  exact⟨Γ3,none,0,[],slK,hw,gR,(Own.nil recT _ 36),trivial⟩
 rintro f18 i19 out_13 σ w hi20 hlt21 hge22 ⟨Γ11,A14,c15,row16,hsl,hw,hl12,ho17,-⟩
 refine slV hsl hw [_,_,_] ?_; clear hw hsl
 refine Dx (sV aw (k:=Dw (Dy ?_)))
 refine coV (λhb23=>?_) (λhb23=>?_)
 ·
  have hl24:=ilt hb23
  have h:=hlt21 hl24
  refine DC (wc_ (Dy (DD (Dx (sV (ar (i:=i19) EE EF rfl rfl rfl hl24 ((hr10.mono hl12).some_ hl24)) (k:=sV (nR (c:=0) (v:=.string (gt z1 i19)) (i:=2) rfl ((hr10.mono hl12).strT_at hl24).2 rfl En rfl rfl) (k:=aV (k:=?_))))))))
  refine Dw ?_
  refine DA ?_
  refine mV (k:=mV (k:=mV (k:=mV (k:=?_))))
  obtain⟨z25,hz26,h⟩:=bnd h
  refine eu (is:=[]) (Lent.nil F) rfl rfl (caV call44) rfl (λw Θ hp hpB hle hleB hR=>jt ((hs_.mono (hl4.trans hl12)).mono hle) (λp hp=>hR _ (List.mem_of_getElem? (i:=1) rfl) p hp) (gt z1 i19) ((hr10.mono hl12).strT_at hl24).1 hp hpB hz26) ?_
  rintro Γ27 _ _ hl28 ⟨A31,c32,rfl,rfl,hc34,hr33,_⟩
  refine cwV 17 [_,_,_] (sV (aA (v:=.agg #[.string (gt z1 i19),.slice A31 z25.length c32]) rfl (dJ rfl rfl) (λw=>by kernel_rfl)) (k:=?_))
  refine bsV #[.string (gt z1 i19),.slice A31 z25.length c32] 36 λg35=>?_
  obtain⟨hk36,h⟩:=af h
  refine apV 1 [(⟨(gt z1 i19),z25⟩:Rec)] lI (ho17.mono hl28) (DP hk36) (λw hw=>br (i:=0) rfl (by exact⟨A31,c32,rfl,⟨((hr10.mono (hl12.trans hl28)).strT_at hl24).1,⟨hc34,hr33⟩⟩⟩) hw) ?_
  intro row37 A38 c39 ho40
  refine aV (k:=?_)
  refine Dz ?_
  change WC _ _ _ _ _ _
  refine DA ?_
  refine sV (am rfl rfl rfl (ax hl24 (hr10.mono hl12).le)) (k:=mV (k:=?_))
  exact Dz λw hw=>⟨hl24,(out_13++[(⟨(gt z1 i19),z25⟩:Rec)]),h,Γ27,A38,c39,row37,slK,(hw.on [1,1,1]),(hl12.trans hl28),ho40,trivial⟩
 have h:=hge22 (ige hb23)
 refine DE ?_
 change WC _ _ _ _ _ _
 refine Dx (mV (k:=aV (k:=Dw ?_)))
 exact DB λw hw=>re_ r [1,0] h hF hw ⟨A14,c15,row16,rfl,rfl,ho17,trivial⟩
abbrev oP(gn:Nat)(en:Nat×Nat)(rown:Rowb)(r:List Rec)(U:List Rowb)(Γ:Gh)(v:Value):Prop := ∃(A0:Option Addr), ∃(c0:Nat), ∃(row0:Rowb),v = .slice A0 r.length c0∧U = [rown,row0]∧Own recT Γ 36 row0 A0 c0 r∧True
theorem iq{gn:Nat}{en:Nat×Nat}{rown:Rowb}{n:aa}(hn:aa.ob en Γ gn rown n)(f_:Int)(hf_:I64 f_)(hp:Pre [rown] Γ w0){r:List Rec}(h:fR n f_=some r):Calls Tryz.prog 17 #[(pq gn),ii f_] w0 (Outc Γ [rown] w0 (oP gn en rown r)):=by
 refine goV [4] func17 ntmps17 results17 hp λF hF=>?_
 refine Dx (aV (k:=Dw (Dy (Dx (mV (k:=sV nlV (k:=sV (q_fl 5 oM) (k:=?_))))))))
 obtain⟨g4_1,r4_1,m5_1,r5_1,m6_1,r6_1,hrow_1,ho0_1,ho1_1,ho2_1,ho3_1,ho4_1,ho5_1,-⟩:=id hn
 refine ufR 0 hrow_1 [_,_,_,_] ?_
 refine sV (ldV 0 isAgg57) (k:=mV (k:=?_))
 obtain hq3 | ⟨o2,hq3⟩:=vW (mget f_ n.hints)
 ·
  have h:=bi hq3 h
  obtain⟨rM4,hat5,hsub6⟩:=MapJ.no ho4_1 hq3
  refine sV (kn (v:=.pointer none) (λw hw p hp=>hw.at_ (i:=2) rfl (hsub6 p hp)) hat5 rfl F6 Fe rfl rfl) (k:=aV (k:=Dw (Dx (mV (k:=sV (t6 (a:=none) Ff rfl rfl rfl) (k:=Dw ?_))))))
  refine WC.cfk (b:=false) (by kernel_rfl) rfl ?_
  refine DC (wc_ (Dx (aV (k:=Dw ?_))))
  refine DB ?_
  intro w hw
  have hw:=hw.fold (is:=[0,0,0,0]) rfl hrow_1
  have hw:=hw.pad
  exact re_ r [1,0] h hF hw ⟨none,0,[],rfl,rfl,(Own.nil recT _ 36),trivial⟩
 have h:=bh hq3 h
 obtain⟨gs8,rM9,rA10,rS11,rB12,hat13,hsub14,hrow15,hm16,hback17⟩:=MapJ.part ho4_1 hq3
 have hm16:a8.ob (88,en.2) Γ gs8 rS11 o2:=hm16
 refine sV (kn (v:=(pq gs8)) (λw hw p hp=>hw.at_ (i:=2) rfl (by rw [hrow15]; exact List.mem_append.2 (.inl (hsub14 p hp)))) hat13 rfl F6 Fe rfl rfl) (k:=?_)
 intro w hw; have hw:=hw.unfold (U:=[rA10,rS11,rB12]) (i:=2) rfl (by rw [hrow15]; simp)
 refine WR.here (C:=CC F Γ [_,_,_,_,_,_]) ?_ hw
 clear hw
 refine aV (k:=Dw (Dx (mV (k:=sV (t6 (a:=some ⟨gs8,0,none⟩) Ff rfl rfl rfl) (k:=Dw ?_)))))
 refine WC.ctk (b:=true) (by kernel_rfl) rfl ?_
 refine Dx (mV (k:=?_))
 obtain⟨z18,hz19,h⟩:=bnd h
 refine ecV [1] (caV call32) (λw hp=>ko hm16 hp hz19) ?_
 rintro Γ20 _ _ hl21 ⟨A24,c25,row26,rfl,rfl,hr27,_⟩
 refine cwV 15 [_,_,_,_,_,_,_] (aV (k:=Dw ?_))
 refine DB ?_
 intro w hw
 have hw:=hw.fold (is:=[2,0,1]) rfl (show r5_1=([rA10,rS11,rB12]:List Rowb).flatten from by rw [hrow15]; simp)
 have hw:=hw.fold (is:=[2,2,0,1]) rfl hrow_1
 exact re_ r [0,0] h hF hw ⟨A24,c25,row26,rfl,rfl,hr27,trivial⟩
abbrev pI(gn:Nat)(en:Nat×Nat)(rown:Rowb)(r:List ae)(U:List Rowb)(Γ:Gh)(v:Value):Prop := ∃(A0:Option Addr), ∃(c0:Nat), ∃(row0:Rowb),v = .slice A0 r.length c0∧U = [rown,row0]∧Own bd Γ 44 row0 A0 c0 r∧True
theorem pZ{gn:Nat}{en:Nat×Nat}{rown:Rowb}{n:aa}(hn:aa.ob en Γ gn rown n)(hp:Pre [rown] Γ w0){r:List ae}(h:l8 n=some r):Calls Tryz.prog 16 #[(pq gn)] w0 (Outc Γ [rown] w0 (pI gn en rown r)):=by
 refine goV [2] func16 ntmps16 results16 hp λF hF=>?_
 refine Dx (aV (k:=Dw (Dx (aV (k:=Dw (Dy (Dx ?_)))))))
 refine aV (k:=Dw (DD ?_))
 refine DO h (λ(s:(List ae)×Int) σ w=>match s with | (out_3,f_8) => ∃(Γ1:Gh), ∃(A4:Option Addr), ∃(c5:Nat), ∃(row6:Rowb),slots σ [(0,(pq gn)),(3,.slice A4 out_3.length c5),(4,ii f_8)]∧CC F Γ1 [row6,rown] w∧Gh.le Γ Γ1∧Own bd Γ1 44 row6 A4 c5 out_3∧I64 f_8∧True) ?_ ?_
 ·
  intro w hw
  have hw:=hw.pad
  exact⟨Γ,none,0,[],slK,hw,gR,(Own.nil bd _ 44),iV,trivial⟩
 rintro f10 ⟨out_3,f_8⟩ σ w h ⟨Γ1,A4,c5,row6,hsl,hw,hl2,ho7,hr9,-⟩
 refine slV hsl hw [_,_] ?_; clear hw hsl
 refine Dy (Dx (mV (k:=sV dh (k:=Dw ?_))))
 refine ciV h (λhb14 h=>?_) (λhb14 h=>?_)
 ·
  refine DC (wc_ (Dy (DD (Dx (mV (k:=mV (k:=?_)))))))
  obtain⟨z15,hz16,h⟩:=bnd h
  refine ecV [1] (caV call17) (λw hp=>iq (hn.mono hl2) f_8 hr9 hp hz16) ?_
  rintro Γ17 _ _ hl18 ⟨A21,c22,row23,rfl,rfl,hr24,_⟩
  refine cwV 13 [_,_,_] (sV (ab rfl Fa) (k:=mV (k:=Dw (DD ?_))))
  refine DF h (λ(i33:Nat) (out_27:List ae) σ w => ∃(Γ25:Gh), ∃(A28:Option Addr), ∃(c29:Nat), ∃(row30:Rowb),slots σ [(0,(pq gn)),(3,.slice A28 out_27.length c29),(4,ii f_8),(13,.slice A21 z15.length c22),(14,ii (z15.length:Int)),(15,ii (i33:Int))]∧CC F Γ25 [row30,rown,row23] w∧Gh.le Γ17 Γ25∧Own bd Γ25 44 row30 A28 c29 out_27∧True) ?_ ?_
  ·
   intro w hw
   exact⟨Γ17,A4,c5,row6,slK,(hw.on [2,0,0]),gR,(ho7.mono hl18),trivial⟩
  rintro f32 i33 out_27 σ w hi34 hlt35 hge36 ⟨Γ25,A28,c29,row30,hsl,hw,hl26,ho31,-⟩
  refine slV hsl hw [_,_,_] ?_; clear hw hsl
  refine Dx (sV aw (k:=Dw (Dy ?_)))
  refine coV (λhb37=>?_) (λhb37=>?_)
  ·
   have hl38:=ilt hb37
   have h:=hlt35 hl38
   refine DC (wc_ (Dy (DD (Dx (sV (ar (i:=i33) Fa EU rfl rfl rfl hl38 ((hr24.mono hl26).some_ hl38)) (k:=?_))))))
   obtain⟨A39,c40,hx41⟩:=(hr24.mono hl26).recT_at i33
   refine sV (u7 (c:=0) (vs:=(Rec.cs A39 c40 (gt z15 i33))) (i:=2) rfl (hx41 hl38).2 rfl EV EU rfl rfl) (k:=?_)
   refine alV ET λg42=>?_
   refine stV 0 (.agg (Rec.cs A39 c40 (gt z15 i33)).toArray) (Rec.cs A39 c40 (gt z15 i33)).toArray EU (k:=Dw ?_)
   obtain⟨g4_43,r4_43,m5_43,r5_43,m6_43,r6_43,hrow_43,ho0_43,ho1_43,ho2_43,ho3_43,ho4_43,ho5_43,-⟩:=(hn.mono ((hl2.trans hl18).trans hl26))
   refine ufC 2 hrow_43 [_,_,_,_,_,_,_] ?_
   refine leV λh044=>?_
   refine db (CC F Γ25 [[(gn,.cells #[ii n.life,.pointer (some ⟨en.2,0,none⟩),ii n.self_site,ii n.self_node,(pq g4_43),.map (some m5_43),.map (some m6_43)] en.1 (0,0))],r4_43,r6_43,[(g42,.cells (Rec.cs A39 c40 (gt z15 i33)).toArray 36 (0,0))],row23]) (bo_ [0,0,1,1,2] gR h044) λk=>?_
   change WH _ _ _ _ (CC F Γ25 [_,_,_,_,_,_,_]) _ 18 _ _
   refine hV 0 k (q:=moV) (k:=hV 1 k (q:=moV) (k:=hV 2 k (q:=nlV) (k:=hV 3 k (q:=q_fl 2 gH) (k:=hV 4 k (q:=ldaV 0 [ii n.self_site,ii n.self_node] Em El) (k:=hV 5 k (q:=moV) (k:=hV 6 k (q:=nlV) (k:=hV 7 k (q:=q_fl 2 gH) (k:=?_))))))))
   refine hV 8 k (q:=q_fl 2 ik) (k:=hV 9 k (q:=ldV 0 Ez) (k:=hV 10 k (q:=moV) (k:=hV 11 k (q:=aA (v:=.agg #[ii n.self_site,ii f_8]) rfl (dJ rfl rfl) (λw=>by kernel_rfl)) (k:=hV 12 k (q:=ldaV 3 (Rec.cs A39 c40 (gt z15 i33)) EV EU) (k:=wl_ 13 rfl ?_)))))
   refine bsV (Rec.cs A39 c40 (gt z15 i33)).toArray 36 λg45=>?_
   refine Dz (nxV (bo_ [1,1,2,2,3] gR h044) λk=>?_)
   refine hV 14 k (q:=aA (v:=.agg #[ii 1,ii n.self_site,ii n.self_node,ii n.self_site,ii f_8,ii 0,ii 0,ii 0,ii 0,.string ByteArray.empty,.slice (some ⟨g45,0,none⟩) 1 1,.slice none 0 0,.slice none 0 0,.slice none 0 0,.slice none 0 0]) rfl (zL rfl rfl rfl rfl) (λw=>by kernel_rfl)) (k:=wl_ 15 rfl ?_)
   have ho46:Own recT Γ25 36 [(g45,.cells (Rec.cs A39 c40 (gt z15 i33)).toArray 36 (0,0))] (some ⟨g45,0,none⟩) 1 [(gt z15 i33)]:=DM (T:=recT) (ys:=[(gt z15 i33)]) [(Rec.cs A39 c40 (gt z15 i33))] rfl (show 1≤lim by decide) ⟨⟨A39,c40,rfl,(hx41 hl38).1⟩,trivial⟩
   have hc51:=ho46.capz
   refine seR 0 [_,_,_,_,_,_,_,_] λΓ47 hl48 hr49=>?_
   have hs50:=ho46.sl hl48 hr49
   refine bsV #[ii 1,ii n.self_site,ii n.self_node,ii n.self_site,ii f_8,ii 0,ii 0,ii 0,ii 0,.string ByteArray.empty,.slice (some ⟨g45,0,none⟩) [(gt z15 i33)].length 1,.slice none 0 0,.slice none 0 0,.slice none 0 0,.slice none 0 0] 44 λg52=>?_
   refine Dz (nxV (bo_ [2,2,3,3,4] hl48 h044) λk=>?_)
   refine wl_ 16 rfl ?_
   obtain⟨hk53,h⟩:=af h
   refine apV 7 [(⟨1,(⟨n.self_site,n.self_node⟩:Adr),(⟨n.self_site,f_8⟩:Adr),0,0,0,0,ByteArray.empty,[(gt z15 i33)],[],[],[],[]⟩:ae)] rc (ho31.mono hl48) (DP hk53) (λw hw=>br (i:=0) rfl (by exact⟨(some ⟨g45,0,none⟩),1,none,0,none,0,none,0,none,0,rfl,⟨iV,ho1_43,ho2_43,ho1_43,hr9,iV,iV,iV,iV,(show (ByteArray.empty:ByteArray).size≤lim by decide),⟨hc51,hs50⟩,nilV,nilV,nilV,nilV⟩⟩) hw) ?_
   intro row54 A55 c56 ho57
   refine Dz (nxV (bo_ [2,2,3,3,4] hl48 h044) λk=>?_)
   refine hV 17 k (q:=aoV) (k:=?_)
   refine DH (by kernel_rfl) ?_
   change WC _ _ _ _ _ _
   refine DA ?_
   refine sV (am rfl rfl rfl (ax hl38 (hr24.mono hl26).le)) (k:=mV (k:=?_))
   refine Dz ?_
   intro w hw
   have hw:=hw.fold (is:=[2,2,2,2]) rfl hrow_43
   exact⟨hl38,(out_27++[(⟨1,(⟨n.self_site,n.self_node⟩:Adr),(⟨n.self_site,f_8⟩:Adr),0,0,0,0,ByteArray.empty,[(gt z15 i33)],[],[],[],[]⟩:ae)]),h,Γ47,A55,c56,row54,slK,(hw.on [4,0,3]),(hl26.trans hl48),ho57,trivial⟩
  have h:=hge36 (ige hb37)
  refine DE ?_
  change WC _ _ _ _ _ _
  refine DA ?_
  refine mV (k:=sV bN (k:=aV (k:=?_)))
  exact Dz λw hw=>⟨(out_27,(w64 (f_8+1))),h,Γ25,A28,c29,row30,slK,(hw.on [0,0]),((hl2.trans hl18).trans hl26),ho31,(ep _),trivial⟩
 refine DE ?_
 change WC _ _ _ _ _ _
 refine Dx (mV (k:=aV (k:=Dw ?_)))
 exact DB λw hw=>re_ r [1,0] h hF hw ⟨A4,c5,row6,rfl,rfl,ho7,trivial⟩
theorem wd{Ab:Option Addr}{cb:Nat}{b:List UInt8}(hb:Sl au Γ Ab b)(hbc:b.length≤cb)(hs:Sat Γ w0){r:Int}(h:lr b=some r):CQ Tryz.prog 61 #[.slice Ab b.length cb] w0 (.int .u64 r):=by
 refine goQ [2] func61 ntmps61 results61 hs λF hF=>?_
 refine Dx (aV (k:=Dw (Dx (aV (k:=Dw (Dy (Dx ?_)))))))
 refine mV (k:=sV (ab rfl Eo) (k:=mV (k:=Dw (DD ?_))))
 refine DF h (λ(i4:Nat) (h_1:Int) σ w=>slots σ [(3,.int .u64 h_1),(6,.slice Ab b.length cb),(7,ii (b.length:Int)),(8,ii (i4:Int))]∧CC F Γ [] w∧U64 h_1∧True) ?_ ?_
 ·
  intro w hw
  exact⟨slK,hw,(show U64 14695981039346656037 by decide),trivial⟩
 rintro f3 i4 h_1 σ w hi5 hlt6 hge7 ⟨hsl,hw,hr2,-⟩
 refine slV hsl hw [] ?_; clear hw hsl
 refine Dx (sV aw (k:=Dw (Dy ?_)))
 refine coV (λhb8=>?_) (λhb8=>?_)
 ·
  have hl9:=ilt hb8
  have h:=hlt6 hl9
  refine DC (wc_ (Dy (DD (Dx (sV (ar (i:=i4) Eo Es rfl rfl rfl hl9 (hb.some_ hl9)) (k:=sV (q_ld (c:=0) (v:=.int .u8 (((gt b i4).toNat:Nat):Int)) (hb.byteT_at hl9).2 rfl isAgg5 rfl rfl) (k:=aV (k:=?_))))))))
  refine Dw ?_
  refine DA ?_
  refine mV (k:=mV (k:=sV (gZ Et Eu) (k:=sV uU (k:=sV qF (k:=aV (k:=?_))))))
  refine Dz ?_
  change WC _ _ _ _ _ _
  refine DA ?_
  refine sV (am rfl rfl rfl (ax hl9 hb.le)) (k:=mV (k:=?_))
  exact Dz λw hw=>⟨hl9,(wu64 ((ixor .u64 h_1 (wu64 (((gt b i4).toNat:Nat):Int)))*1099511628211)),h,slK,hw,(rI _),trivial⟩
 have h:=hge7 (ige hb8)
 refine DE ?_
 change WC _ _ _ _ _ _
 refine Dx (mV (k:=mV (k:=sV (td rfl rfl rfl (by decide)) (k:=sV uU (k:=sV qF (k:=aV (k:=Dw ?_)))))))
 refine Dx (mV (k:=mV (k:=sV (td rfl rfl rfl (by decide)) (k:=sV uU (k:=aV (k:=Dw ?_))))))
 exact DB λw hw=>rq_ r h hF hw
theorem qu(key:ByteArray)(hkey:key.size≤lim)(hs:Sat Γ w0){r:Int}(h:fS key=some r):CQ Tryz.prog 33 #[.string key] w0 (ii r):=by
 refine goQ [2] func33 ntmps33 results33 hs λF hF=>?_
 refine Dx (aV (k:=Dw (Dx (mV (k:=?_)))))
 refine xn (src:=9) (dst:=89) (s:=key) Ek Eo Eu hkey rfl rfl rfl rfl rfl ?_
 intro Γ1 A2 c3 hl4 hs5 hc6
 obtain⟨z7,hz8,h⟩:=bnd h
 refine vqV (caV call61) (λw hw=>wd (Γ:=Gh.all w) (hs5.mono hw.sat.le_all) hc6 (Sat.all w) hz8) (k:=sV (BO rfl rfl rfl (by decide)) (k:=sV (gZ F5 Et) (k:=aV (k:=Dw ?_))))
 exact DB λw hw=>rq_ r h hF hw
abbrev pO(gn:Nat)(en:Nat×Nat)(rown:Rowb)(r:List Rec)(U:List Rowb)(Γ:Gh)(v:Value):Prop := ∃(A0:Option Addr), ∃(c0:Nat), ∃(row0:Rowb),v = .slice A0 r.length c0∧U = [rown,row0]∧Own recT Γ 36 row0 A0 c0 r∧True
theorem qe{gn:Nat}{en:Nat×Nat}{rown:Rowb}{n:aa}(hn:aa.ob en Γ gn rown n)(p_:Int)(hp_:I64 p_)(hp:Pre [rown] Γ w0){r:List Rec}(h:aL n p_=some r):Calls Tryz.prog 12 #[(pq gn),ii p_] w0 (Outc Γ [rown] w0 (pO gn en rown r)):=by
 refine goV [4] func12 ntmps12 results12 hp λF hF=>?_
 refine Dx (aV (k:=Dw (Dx (aV (k:=Dw (Dy (Dx ?_)))))))
 refine mV (k:=sV nlV (k:=sV (q_fl 4 p7) (k:=?_)))
 obtain⟨g4_1,r4_1,m5_1,r5_1,m6_1,r6_1,hrow_1,ho0_1,ho1_1,ho2_1,ho3_1,ho4_1,ho5_1,-⟩:=id hn
 refine ufR 0 hrow_1 [_,_,_,_] ?_
 refine sV (ldV 0 isAgg54) (k:=?_)
 obtain⟨z2,hz3,h⟩:=bnd h
 refine ecV [1] (caV call32) (λw hp=>ko ho3_1 hp hz3) ?_
 rintro Γ4 _ _ hl5 ⟨A8,c9,row10,rfl,rfl,hr11,_⟩
 refine cwV 12 [_,_,_,_,_] (sV (ab rfl Fa) (k:=mV (k:=Dw (DD ?_))))
 refine foC [2,0,1,1] hrow_1 [_,_] ?_
 refine DF h (λ(i19:Nat) (out_13:List Rec) σ w => ∃(A14:Option Addr), ∃(c15:Nat), ∃(row16:Rowb),slots σ [(1,ii p_),(5,.slice A14 out_13.length c15),(12,.slice A8 z2.length c9),(13,ii (z2.length:Int)),(14,ii (i19:Int))]∧CC F Γ4 [row16,rown,row10] w∧Own recT Γ4 36 row16 A14 c15 out_13∧True) ?_ ?_
 ·
  intro w hw
  have hw:=hw.pad
  exact⟨none,0,[],slK,hw,(Own.nil recT _ 36),trivial⟩
 rintro f18 i19 out_13 σ w hi20 hlt21 hge22 ⟨A14,c15,row16,hsl,hw,ho17,-⟩
 refine slV hsl hw [_,_,_] ?_; clear hw hsl
 refine Dx (sV aw (k:=Dw (Dy ?_)))
 refine coV (λhb23=>?_) (λhb23=>?_)
 ·
  have hl24:=ilt hb23
  have h:=hlt21 hl24
  refine DC (wc_ ?_)
  refine DL (λσ w => ∃(out_25:List Rec), ∃(A26:Option Addr), ∃(c27:Nat), ∃(row28:Rowb),d7 f18 out_25=some r∧slots σ [(1,ii p_),(5,.slice A26 out_25.length c27),(12,.slice A8 z2.length c9),(13,ii (z2.length:Int)),(14,ii (i19:Int))]∧CC F Γ4 [row28,rown,row10] w∧Own recT Γ4 36 row28 A26 c27 out_25∧True) ?_ ?_
  ·
   refine DD (Dx (sV (ar (i:=i19) Fa EU rfl rfl rfl hl24 (hr11.some_ hl24)) (k:=?_)))
   obtain⟨A30,c31,hx32⟩:=hr11.recT_at i19
   refine sV (u7 (c:=0) (vs:=(Rec.cs A30 c31 (gt z2 i19))) (i:=2) rfl (hx32 hl24).2 rfl EV EU rfl rfl) (k:=?_)
   refine alV ET λg33=>?_
   refine stV 0 (.agg (Rec.cs A30 c31 (gt z2 i19)).toArray) (Rec.cs A30 c31 (gt z2 i19)).toArray EU (k:=Dw (Dx (mV (k:=sV aw (k:=mV (k:=vG0 (h:=λhg34=>q_fl 0 b6) (k:=vG0 (h:=λhg35=>ldV 0 En (hx:=grV hg35)) (k:=?_))))))))
   obtain⟨z37,hz38,h⟩:=bnd h
   refine vC0 (h:=λhg36=>aH (aC call33 rfl rfl (kC (grV hg36))) (λw hw=>qu (Γ:=Gh.all w) ((gt z2 i19).key) (hx32 hl24).1.1 (Sat.all w) (bU hz38 hg36))) (k:=vG0 (h:=λhg39=>moV) (k:=vG0 (h:=λhg40=>cW rfl (grV hg40) (grV hg40)) (k:=sV pkO (k:=Dw ?_))))
   refine ciV h (λhb41 h=>?_) (λhb41 h=>?_)
   ·
    refine DA ?_
    refine mV (k:=sV (ldaV 0 (Rec.cs A30 c31 (gt z2 i19)) EV EU) (k:=?_))
    refine bsV (Rec.cs A30 c31 (gt z2 i19)).toArray 36 λg42=>?_
    obtain⟨hk43,h⟩:=af h
    refine apV 2 [(gt z2 i19)] lI ho17 (DP hk43) (λw hw=>br (i:=0) rfl (by exact⟨A30,c31,rfl,(hx32 hl24).1⟩) hw) ?_
    intro row44 A45 c46 ho47
    refine aV (k:=?_)
    exact Dz λw hw=>⟨(out_13++[(gt z2 i19)]),A45,c46,row44,h,slK,(hw.on [2,2,2]),ho47,trivial⟩
   exact DC λw hw=>⟨out_13,A14,c15,row16,h,slK,(hw.on [1,1,1]),ho17,trivial⟩
  rintro σ w ⟨out_25,A26,c27,row28,h,hsl,hw,ho29,-⟩
  refine slV hsl hw [_,_,_] ?_; clear hw hsl
  refine DA ?_
  refine sV (am rfl rfl rfl (ax hl24 hr11.le)) (k:=mV (k:=?_))
  exact Dz λw hw=>⟨hl24,out_25,h,A26,c27,row28,slK,hw,ho29,trivial⟩
 have h:=hge22 (ige hb23)
 refine DE ?_
 change WC _ _ _ _ _ _
 refine Dx (mV (k:=aV (k:=Dw ?_)))
 exact DB λw hw=>re_ r [1,0] h hF hw ⟨A14,c15,row16,rfl,rfl,ho17,trivial⟩
theorem kg(hs:Sat Γ w0){r:Bool}(h:fk=some r):CQ Tryz.prog 4 #[] w0 (.bool r):=by
 refine goQ [0] func4 ntmps4 results4 hs λF hF=>?_
 refine Dx (aV (k:=Dw (Dx ?_)))
 obtain⟨z1,hz2,h⟩:=bnd h
 refine ecV [] (caV call7) (λw hp=>sr 5000 iV hp hz2) ?_
 rintro Γ3 _ _ hl4 ⟨g7,row8,rfl,rfl,hr9,_⟩
 refine cwV 8 [_] ?_
 obtain⟨z10,hz11,h⟩:=bnd h
 refine vqV (caV call8) (λw hw=>dQ (Γ:=Gh.all w) 1 iV (Sat.all w) hz11) (k:=?_)
 obtain⟨hk12,h⟩:=af h
 obtain⟨hk13,h⟩:=af h
 obtain⟨z14,hz15,h⟩:=bnd h
 refine ecV [0] (caV call6) (λw hp=>qN hr9 z10 ⟨(cj hk12),(cj hk13)⟩ 256 iV 3 iV hp hz15) ?_
 rintro Γ16 _ _ hl17 ⟨row20,g22,row23,rfl,rfl,hr21,hr24,hr25,_⟩
 refine cwV 10 [_,_] (mV (k:=sV exV (k:=sV exV (k:=aU (v:=optp z14.2.1 g22) (k:=aV (k:=Dw (Dy ?_)))))))
 refine Dx (mU (v:=optp z14.2.1 g22) (k:=sV (tJ underlying25 rfl rfl rfl) (k:=mV (k:=vG0 (h:=λhg26=>moV) (k:=vG0 (h:=λhg27=>bj rfl (grV hg27)) (k:=sV pkO (k:=Dw ?_)))))))
 refine ciV h (λhb28 h=>?_) (λhb28 h=>?_)
 ·
  refine Dx (aV (k:=Dw ?_))
  exact DB λw hw=>rq_ r h hF hw
 obtain⟨z29,hz30,h⟩:=bnd h
 have ho31:=jX hr24 hz30
 refine DC (wc_ (Dx (sV (b4 (v:=(pq g22)) rfl (bS rfl hz30)) (k:=?_))))
 obtain⟨z32,hz33,h⟩:=bnd h
 refine ecV [] (caV call15) (λw hp=>l6 (⟨#[107]⟩:ByteArray) (show (⟨#[107]⟩:ByteArray).size≤lim by decide) 1 iV 1 iV hp hz33) ?_
 rintro Γ34 _ _ hl35 ⟨A38,c39,rfl,rfl,hr40,_⟩
 refine cwV 20 [_,_] ?_
 refine bsV (Rec.cs A38 c39 z32).toArray 36 λg41=>?_
 have ho42:Own recT Γ34 36 [(g41,.cells (Rec.cs A38 c39 z32).toArray 36 (0,0))] (some ⟨g41,0,none⟩) 1 [z32]:=DM (T:=recT) (ys:=[z32]) [(Rec.cs A38 c39 z32)] rfl (show 1≤lim by decide) ⟨⟨A38,c39,rfl,hr40⟩,trivial⟩
 have hc47:=ho42.capz
 refine seR 0 [_,_,_] λΓ43 hl44 hr45=>?_
 have hs46:=ho42.sl hl44 hr45
 obtain⟨z48,hz49,h⟩:=bnd h
 refine ecV [] (caV call11) (λw hp=>kZ 1 iV hs46 hc47 hp hz49) ?_
 rintro Γ50 _ _ hl51 ⟨A54,c55,A56,c57,A58,c59,A60,c61,A62,c63,rfl,rfl,hr64,_⟩
 refine cwV 22 [_,_,_] ?_
 obtain⟨z65,hz66,h⟩:=bnd h
 refine ecV [2,1] (caV call10) (λw hp=>gX (ho31.mono ((hl35.trans hl44).trans hl51)) z48 hr64 (hr21.mono ((hl35.trans hl44).trans hl51)) hp hz66) ?_
 rintro Γ67 _ _ hl68 ⟨row71,row73,A75,c76,row77,rfl,rfl,hr72,hr74,hr78,_⟩
 refine cwV 23 [_,_,_,_] (aV (k:=Dw (Dx ?_)))
 obtain⟨z79,hz80,h⟩:=bnd h
 refine ecV [] (caV call15) (λw hp=>l6 (⟨#[107]⟩:ByteArray) (show (⟨#[107]⟩:ByteArray).size≤lim by decide) 2 iV 1 iV hp hz80) ?_
 rintro Γ81 _ _ hl82 ⟨A85,c86,rfl,rfl,hr87,_⟩
 refine cwV 24 [_,_,_,_] ?_
 refine bsV (Rec.cs A85 c86 z79).toArray 36 λg88=>?_
 have ho89:Own recT Γ81 36 [(g88,.cells (Rec.cs A85 c86 z79).toArray 36 (0,0))] (some ⟨g88,0,none⟩) 1 [z79]:=DM (T:=recT) (ys:=[z79]) [(Rec.cs A85 c86 z79)] rfl (show 1≤lim by decide) ⟨⟨A85,c86,rfl,hr87⟩,trivial⟩
 have hc94:=ho89.capz
 refine seR 0 [_,_,_,_,_] λΓ90 hl91 hr92=>?_
 have hs93:=ho89.sl hl91 hr92
 obtain⟨z95,hz96,h⟩:=bnd h
 refine ecV [] (caV call11) (λw hp=>kZ 1 iV hs93 hc94 hp hz96) ?_
 rintro Γ97 _ _ hl98 ⟨A101,c102,A103,c104,A105,c106,A107,c108,A109,c110,rfl,rfl,hr111,_⟩
 refine cwV 26 [_,_,_,_,_] ?_
 refine alV zeroValue44 λg112=>?_
 refine stV 0 (.agg (ae.cs A101 c102 A103 c104 A105 c106 A107 c108 A109 c110 z95).toArray) (ae.cs A101 c102 A103 c104 A105 c106 A107 c108 A109 c110 z95).toArray F8 (k:=Dw (Dx (sV (q_fl 7 k7) (k:=stV 0 (ii 3) #[ii z95.kind,ii z95.from_.site,ii z95.from_.node,ii z95.to_.site,ii z95.to_.node,ii z95.id,ii z95.n,ii 3,ii z95.code,.string z95.key,.slice A101 z95.recs.length c102,.slice A103 z95.vec.length c104,.slice A105 z95.path.length c106,.slice A107 z95.hashes.length c108,.slice A109 z95.route.length c110] Ey (k:=Dw (Dx (sV (b4 (v:=(pq g22)) rfl (bS rfl hz30)) (k:=?_))))))))
 refine sV (ldaV 0 [ii z95.kind,ii z95.from_.site,ii z95.from_.node,ii z95.to_.site,ii z95.to_.node,ii z95.id,ii z95.n,ii 3,ii z95.code,.string z95.key,.slice A101 z95.recs.length c102,.slice A103 z95.vec.length c104,.slice A105 z95.path.length c106,.slice A107 z95.hashes.length c108,.slice A109 z95.route.length c110] F9 F8) (k:=?_)
 obtain⟨z113,hz114,h⟩:=bnd h
 refine ecV [2,2] (caV call10) (λw hp=>gX (hr72.mono ((hl82.trans hl91).trans hl98)) (⟨z95.kind,(⟨z95.from_.site,z95.from_.node⟩:Adr),(⟨z95.to_.site,z95.to_.node⟩:Adr),z95.id,z95.n,3,z95.code,z95.key,z95.recs,z95.vec,z95.path,z95.hashes,z95.route⟩:ae) ⟨hr111.1,hr111.2.1,hr111.2.2.1,hr111.2.2.2.1,hr111.2.2.2.2.1,hr111.2.2.2.2.2.1,hr111.2.2.2.2.2.2.1,iV,hr111.2.2.2.2.2.2.2.2.1,hr111.2.2.2.2.2.2.2.2.2.1,⟨hr111.2.2.2.2.2.2.2.2.2.2.1.1,hr111.2.2.2.2.2.2.2.2.2.2.1.2⟩,⟨hr111.2.2.2.2.2.2.2.2.2.2.2.1.1,hr111.2.2.2.2.2.2.2.2.2.2.2.1.2⟩,⟨hr111.2.2.2.2.2.2.2.2.2.2.2.2.1.1,hr111.2.2.2.2.2.2.2.2.2.2.2.2.1.2⟩,⟨hr111.2.2.2.2.2.2.2.2.2.2.2.2.2.1.1,hr111.2.2.2.2.2.2.2.2.2.2.2.2.2.1.2⟩,⟨hr111.2.2.2.2.2.2.2.2.2.2.2.2.2.2.1,hr111.2.2.2.2.2.2.2.2.2.2.2.2.2.2.2⟩⟩ (hr74.mono ((hl82.trans hl91).trans hl98)) hp hz114) ?_
 rintro Γ115 _ _ hl116 ⟨row119,row121,A123,c124,row125,rfl,rfl,hr120,hr122,hr126,_⟩
 refine cwV 30 [_,_,_,_,_,_,_] (aV (k:=Dw (Dx (sV (b4 (v:=(pq g22)) rfl (bS rfl hz30)) (k:=?_)))))
 obtain⟨z127,hz128,h⟩:=bnd h
 refine ecV [0] (caV call16) (λw hp=>pZ hr120 hp hz128) ?_
 rintro Γ129 _ _ hl130 ⟨A133,c134,row135,rfl,rfl,hr136,_⟩
 refine cwV 32 [_,_,_,_,_,_,_,_] (aV (k:=Dw (Dy (Dy ?_))))
 refine leV λh0137=>?_
 refine db (CC F Γ129 [row135,row125,[(g112,.cells #[ii z95.kind,ii z95.from_.site,ii z95.from_.node,ii z95.to_.site,ii z95.to_.node,ii z95.id,ii z95.n,ii 3,ii z95.code,.string z95.key,.slice A101 z95.recs.length c102,.slice A103 z95.vec.length c104,.slice A105 z95.path.length c106,.slice A107 z95.hashes.length c108,.slice A109 z95.route.length c110] 44 (0,0))],[],row77,[]]) (bo_ [1,2,2,2,2,2] gR h0137) λk=>?_
 change WH _ _ _ _ (CC F Γ129 [_,_,_,_,_,_,_,_]) _ 40 _ _
 refine hV 0 k (q:=moV) (k:=hV 1 k (q:=ab rfl Fh) (k:=hV 2 k (q:=bj) (k:=hV 3 k (q:=moV) (k:=hV0 4 k (h:=λhg138=>moV) (k:=?_)))))
 obtain⟨hk140,h⟩:=af h
 refine hV0 5 k (h:=λhg139=>ar (i:=0) Fh F8 rfl (grV hg139) rfl (DP (al hk140 hg139)) ((hr78.mono ((((hl82.trans hl91).trans hl98).trans hl116).trans hl130)).some_ (DP (al hk140 hg139)))) (k:=hV0 6 k (h:=λhg141=>ah (0*15) mq rfl (grV hg141) ((hr78.mono ((((hl82.trans hl91).trans hl98).trans hl116).trans hl130)).some_ (DP (al hk140 hg141))) rfl) (k:=?_))
 obtain⟨A143,c144,A145,c146,A147,c148,A149,c150,A151,c152,hx153⟩:=(hr78.mono ((((hl82.trans hl91).trans hl98).trans hl116).trans hl130)).dapi_MsgT_at 0
 refine hV0 7 k (h:=λhg142=>nR (c:=0) (v:=ii (gt z65.2.2 0).kind) (i:=4) rfl (hx153 (DP (al hk140 hg142))).2 rfl Ez (grV hg142) rfl) (k:=hV0 8 k (h:=λhg154=>bj rfl (grV hg154)) (k:=hV 9 k (q:=pkO) (k:=hV 10 k (q:=moV) (k:=hV0 11 k (h:=λhg155=>moV) (k:=hV0 12 k (h:=λhg156=>ab rfl Fh (grV hg156)) (k:=hV0 13 k (h:=λhg157=>bj rfl (grV hg157)) (k:=hV 14 k (q:=pkO) (k:=?_))))))))
 refine hV 15 k (q:=moV) (k:=hV0 16 k (h:=λhg158=>moV) (k:=hV0 17 k (h:=λhg159=>ab rfl Fh (grV hg159)) (k:=hV0 18 k (h:=λhg160=>bj rfl (grV hg160)) (k:=hV 19 k (q:=pkO) (k:=hV 20 k (q:=moV) (k:=hV0 21 k (h:=λhg161=>moV) (k:=?_)))))))
 obtain⟨hk163,h⟩:=af h
 refine hV0 22 k (h:=λhg162=>ar (i:=0) Fh F8 rfl (grV hg162) rfl (DP (al hk163 hg162)) (hr136.some_ (DP (al hk163 hg162)))) (k:=hV0 23 k (h:=λhg164=>ah (0*15+3) jY rfl (grV hg164) (hr136.some_ (DP (al hk163 hg164))) rfl) (k:=?_))
 obtain⟨A166,c167,A168,c169,A170,c171,A172,c173,A174,c175,hx176⟩:=hr136.dapi_MsgT_at 0
 refine hV0 24 k (h:=λhg165=>u7 (c:=3) (vs:=[ii (gt z127 0).to_.site,ii (gt z127 0).to_.node]) (i:=0) rfl (hx176 (DP (al hk163 hg165))).2 rfl Em El (grV hg165) rfl) (k:=wl_ 25 rfl ?_)
 obtain⟨z178,hz179,h⟩:=bnd h
 refine vC0 (h:=λhg177=>aH (caV call8) (λw hw=>dQ (Γ:=Gh.all w) 3 iV (Sat.all w) (bU hz179 hg177))) (k:=?_)
 refine Dz (nxV (bo_ [1,2,2,2,2,2] gR h0137) λk=>?_)
 refine hV0 26 k (h:=λhg180=>pQ (a:=(gt z127 0).to_) (b:=z178) rfl (grV hg180) (grV hg180)) (k:=hV 27 k (q:=pkO) (k:=hV 28 k (q:=moV) (k:=hV0 29 k (h:=λhg181=>b4 (v:=(pq g22)) rfl (bS rfl hz30)) (k:=?_))))
 refine(Bool.eq_false_or_eq_true (!((((((z65.2.2.length:Int) != 1)||((gt z65.2.2 0).kind != 2))||((z113.2.2.length:Int) != 0))||((z127.length:Int) != 1))||((gt z127 0).to_ != z178)))).elim (λhb182=>?_) (λhb182=>?_)
 ·
  have h:=bt hb182 h
  refine wl_ 30 rfl ?_
  refine WR.sat (c0:=true) (g:=((((((z65.2.2.length:Int) != 1)||((gt z65.2.2 0).kind != 2))||((z113.2.2.length:Int) != 0))||((z127.length:Int) != 1))||((gt z127 0).to_ != z178))) rfl rfl rfl hb182 ?_
  obtain⟨z183,hz184,h⟩:=bnd h
  refine ecV [0] (aC call17 rfl rfl (dX (grV hb182) rfl)) (λw hp=>iq (hr120.mono hl130) 3 iV hp hz184) ?_
  rintro Γ185 _ _ hl186 ⟨A189,c190,row191,rfl,rfl,hr192,_⟩
  refine cwV 63 [_,_,_,_,_,_,_,_,_] ?_
  refine Dz (nxV (bo_ [2,3,3,3,3,3] hl186 h0137) λk=>?_)
  refine wl_ 31 rfl (vG0 (h:=λhg194=>ab rfl Fa) (k:=?_))
  refine Dz (nxV (bo_ [2,3,3,3,3,3] hl186 h0137) λk=>?_)
  refine hV0 32 k (h:=λhg195=>bj rfl (grV hg195)) (k:=hV 33 k (q:=jv (v:=.bool ((z183.length:Int) != 1)) rfl rfl (ta hb182) (grV hb182)) (k:=hV 34 k (q:=moV) (k:=hV0 35 k (h:=λhg196=>b4 (v:=(pq g22)) rfl (bS rfl hz30)) (k:=?_))))
  refine(Bool.eq_false_or_eq_true (!((z183.length:Int) != 1))).elim (λhb197=>?_) (λhb197=>?_)
  ·
   have h:=bt hb197 h
   refine wl_ 36 rfl ?_
   refine WR.sat (c0:=true) (g:=((z183.length:Int) != 1)) rfl rfl rfl hb197 ?_
   obtain⟨z198,hz199,h⟩:=bnd h
   refine ecV [0] (aC call12 rfl rfl (dX (grV hb197) rfl)) (λw hp=>qe (hr120.mono (hl130.trans hl186)) (-1) iV hp hz199) ?_
   rintro Γ200 _ _ hl201 ⟨A204,c205,row206,rfl,rfl,hr207,_⟩
   refine cwV 69 [_,_,_,_,_,_,_,_,_,_] ?_
   refine Dz (nxV (bo_ [3,4,4,4,4,4] (hl186.trans hl201) h0137) λk=>?_)
   refine wl_ 37 rfl (vG0 (h:=λhg209=>ab rfl Fa) (k:=?_))
   refine Dz (nxV (bo_ [3,4,4,4,4,4] (hl186.trans hl201) h0137) λk=>?_)
   refine hV0 38 k (h:=λhg210=>bj rfl (grV hg210)) (k:=hV 39 k (q:=jv (v:=.bool ((z198.length:Int) != 1)) rfl rfl (ta hb197) (grV hb197)) (k:=?_))
   refine DH (by kernel_rfl) ?_
   change WC _ _ _ _ _ _
   refine ciV h (λhb211 h=>?_) (λhb211 h=>?_)
   ·
    refine Dx (aV (k:=Dw ?_))
    exact DB λw hw=>rq_ r h hF hw
   refine DC (wc_ (Dy ?_))
   refine leV λh0212=>?_
   refine db (CC F Γ200 [row206,row191,row135,row125,[(g112,.cells #[ii z95.kind,ii z95.from_.site,ii z95.from_.node,ii z95.to_.site,ii z95.to_.node,ii z95.id,ii z95.n,ii 3,ii z95.code,.string z95.key,.slice A101 z95.recs.length c102,.slice A103 z95.vec.length c104,.slice A105 z95.path.length c106,.slice A107 z95.hashes.length c108,.slice A109 z95.route.length c110] 44 (0,0))],[],row77,[]]) (bo_ [1,1,1,2,2,2,2,2] gR h0212) λk=>?_
   change WH _ _ _ _ (CC F Γ200 [_,_,_,_,_,_,_,_,_,_]) _ 9 _ _
   refine hV 0 k (q:=b4 (v:=(pq g22)) rfl (bS rfl hz30)) (k:=hV 3 k (q:=moV) (k:=?_))
   obtain⟨hk213,h⟩:=af h
   refine hV 4 k (q:=ar (i:=0) Fh F8 rfl rfl rfl (DP hk213) ((hr136.mono (hl186.trans hl201)).some_ (DP hk213))) (k:=hV 5 k (q:=ah (0*15+10) fZ rfl rfl ((hr136.mono (hl186.trans hl201)).some_ (DP hk213)) rfl) (k:=hV 6 k (q:=nR (c:=10) (v:=.slice A166 ((gt z127 0).recs).length c167) (i:=2) rfl (hx176 (DP hk213)).2 rfl Fb rfl rfl) (k:=wl_ 1 rfl ?_)))
   obtain⟨z214,hz215,h⟩:=bnd h
   refine vqV (caV call8) (λw hw=>dQ (Γ:=Gh.all w) 3 iV (Sat.all w) hz215) (k:=?_)
   refine Dz (nxV (bo_ [1,1,1,2,2,2,2,2] gR h0212) λk=>?_)
   refine wl_ 2 rfl ?_
   obtain⟨z216,hz217,h⟩:=bnd h
   refine vqV (caV call8) (λw hw=>dQ (Γ:=Gh.all w) 1 iV (Sat.all w) hz217) (k:=?_)
   refine Dz (nxV (bo_ [1,1,1,2,2,2,2,2] gR h0212) λk=>?_)
   refine hV 7 k (q:=aA (v:=.agg #[ii 2,ii z214.site,ii z214.node,ii z216.site,ii z216.node,ii 0,ii 0,ii 0,ii 0,.string ByteArray.empty,.slice A166 ((gt z127 0).recs).length c167,.slice none 0 0,.slice none 0 0,.slice none 0 0,.slice none 0 0]) rfl (zL rfl rfl rfl rfl) (λw=>by kernel_rfl)) (k:=wl_ 8 rfl ?_)
   obtain⟨hk218,h⟩:=af h
   obtain⟨hk219,h⟩:=af h
   obtain⟨hk220,h⟩:=af h
   obtain⟨hk221,h⟩:=af h
   obtain⟨z222,hz223,h⟩:=bnd h
   refine ecV [0,3] (caV call10) (λw hp=>gX (hr120.mono ((hl130.trans hl186).trans hl201)) (Am11:=none) (cm11:=0) (Am12:=none) (cm12:=0) (Am13:=none) (cm13:=0) (Am14:=none) (cm14:=0) (⟨2,(⟨z214.site,z214.node⟩:Adr),(⟨z216.site,z216.node⟩:Adr),0,0,0,0,ByteArray.empty,(gt z127 0).recs,[],[],[],[]⟩:ae) ⟨iV,(cj hk218),(cj hk219),(cj hk220),(cj hk221),iV,iV,iV,iV,(show (ByteArray.empty:ByteArray).size≤lim by decide),⟨(hx176 (DP hk213)).1.2.2.2.2.2.2.2.2.2.2.1.1,((hx176 (DP hk213)).1.2.2.2.2.2.2.2.2.2.2.1.2.mono (hl186.trans hl201))⟩,nilV,nilV,nilV,nilV⟩ (hr122.mono ((hl130.trans hl186).trans hl201)) hp hz223) ?_
   rintro Γ224 _ _ hl225 ⟨row228,row230,A232,c233,row234,rfl,rfl,hr229,hr231,hr235,_⟩
   refine cwV 81 [_,_,_,_,_,_,_,_,_,_,_] ?_
   refine Dz (nxV (bo_ [3,3,3,3,3,3,3,3] hl225 h0212) λk=>?_)
   refine DH (by kernel_rfl) ?_
   change WC _ _ _ _ _ _
   refine Dx (sV (b4 (v:=(pq g22)) rfl (bS rfl hz30)) (k:=?_))
   obtain⟨z236,hz237,h⟩:=bnd h
   refine ecV [0] (caV call17) (λw hp=>iq hr229 3 iV hp hz237) ?_
   rintro Γ238 _ _ hl239 ⟨A242,c243,row244,rfl,rfl,hr245,_⟩
   refine cwV 83 [_,_,_,_,_,_,_,_,_,_,_,_] (sV (ab rfl Fa) (k:=sV cW (k:=aV (k:=Dw ?_))))
   exact DB λw hw=>rq_ r h hF hw
  have h:=bf hb197 h
  refine hg0 (g:=((z183.length:Int) != 1)) (i:=36) (v:=undef) rfl (by kernel_rfl) rfl rfl rfl rfl rfl (bo_ [2,3,3,3,3,3] hl186 h0137) (bB hb197) ?_
  refine DK (v:=undef) (aJ hb197) ?_
  refine hg0 (g:=((z183.length:Int) != 1)) (i:=37) (v:=undef) rfl (by kernel_rfl) rfl rfl rfl rfl rfl (bo_ [2,3,3,3,3,3] hl186 h0137) (bB hb197) ?_
  refine DK (v:=undef) (aJ hb197) ?_
  refine hg0 (g:=((z183.length:Int) != 1)) (i:=38) (v:=undef) rfl (by kernel_rfl) rfl rfl rfl rfl rfl (bo_ [2,3,3,3,3,3] hl186 h0137) (bB hb197) ?_
  refine DK (v:=undef) (aJ hb197) ?_
  refine hV 39 (bo_ [2,3,3,3,3,3] hl186 h0137) (q:=ke (v:=.bool true) rfl rfl (yv hb197) (by kernel_rfl)) (k:=?_)
  refine DH (by kernel_rfl) ?_
  change WC _ _ _ _ _ _
  refine WC.ctk (b:=true) (by kernel_rfl) rfl ?_
  refine Dx (aV (k:=Dw ?_))
  exact DB λw hw=>rq_ r h hF hw
 have h:=bf hb182 h
 refine hg0 (g:=((((((z65.2.2.length:Int) != 1)||((gt z65.2.2 0).kind != 2))||((z113.2.2.length:Int) != 0))||((z127.length:Int) != 1))||((gt z127 0).to_ != z178))) (i:=30) (v:=undef) rfl (by kernel_rfl) rfl rfl rfl rfl rfl (bo_ [1,2,2,2,2,2] gR h0137) (bB hb182) ?_
 refine DK (v:=undef) (aJ hb182) ?_
 refine hg0 (g:=((((((z65.2.2.length:Int) != 1)||((gt z65.2.2 0).kind != 2))||((z113.2.2.length:Int) != 0))||((z127.length:Int) != 1))||((gt z127 0).to_ != z178))) (i:=31) (v:=undef) rfl (by kernel_rfl) rfl rfl rfl rfl rfl (bo_ [1,2,2,2,2,2] gR h0137) (bB hb182) ?_
 refine DK (v:=undef) (aJ hb182) ?_
 refine hg0 (g:=((((((z65.2.2.length:Int) != 1)||((gt z65.2.2 0).kind != 2))||((z113.2.2.length:Int) != 0))||((z127.length:Int) != 1))||((gt z127 0).to_ != z178))) (i:=32) (v:=undef) rfl (by kernel_rfl) rfl rfl rfl rfl rfl (bo_ [1,2,2,2,2,2] gR h0137) (bB hb182) ?_
 refine DK (v:=undef) (aJ hb182) ?_
 refine hV 33 (bo_ [1,2,2,2,2,2] gR h0137) (q:=ke (v:=.bool true) rfl rfl (yv hb182) (by kernel_rfl)) (k:=hV 34 (bo_ [1,2,2,2,2,2] gR h0137) (q:=moV) (k:=?_))
 refine hg0 (g:=true) (i:=35) (v:=undef) rfl (by kernel_rfl) rfl rfl rfl rfl rfl (bo_ [1,2,2,2,2,2] gR h0137) (bB (nott rfl)) ?_
 refine DK (v:=undef) (aJ (nott rfl)) ?_
 refine hg0 (g:=true) (i:=36) (v:=undef) rfl (by kernel_rfl) rfl rfl rfl rfl rfl (bo_ [1,2,2,2,2,2] gR h0137) (bB (nott rfl)) ?_
 refine DK (v:=undef) (aJ (nott rfl)) ?_
 refine hg0 (g:=true) (i:=37) (v:=undef) rfl (by kernel_rfl) rfl rfl rfl rfl rfl (bo_ [1,2,2,2,2,2] gR h0137) (bB (nott rfl)) ?_
 refine DK (v:=undef) (aJ (nott rfl)) ?_
 refine hg0 (g:=true) (i:=38) (v:=undef) rfl (by kernel_rfl) rfl rfl rfl rfl rfl (bo_ [1,2,2,2,2,2] gR h0137) (bB (nott rfl)) ?_
 refine DK (v:=undef) (aJ (nott rfl)) ?_
 refine hV 39 (bo_ [1,2,2,2,2,2] gR h0137) (q:=AA (v:=.bool true) rfl rfl rfl) (k:=?_)
 refine DH (by kernel_rfl) ?_
 change WC _ _ _ _ _ _
 refine WC.ctk (b:=true) (by kernel_rfl) rfl ?_
 refine Dx (aV (k:=Dw ?_))
 exact DB λw hw=>rq_ r h hF hw
theorem nW{Alist:Option Addr}{clist:Nat}{list:List Rec}(hlist:Sl recT Γ Alist list)(hlistc:list.length≤clist)(hs:Sat Γ w0){r:Int}(h:fi list=some r):CQ Tryz.prog 18 #[.slice Alist list.length clist] w0 (ii r):=by
 refine goQ [2] func18 ntmps18 results18 hs λF hF=>?_
 refine Dx (aV (k:=Dw (Dx (aV (k:=Dw (Dy (Dx ?_)))))))
 refine aV (k:=Dw (DD ?_))
 refine DF h (λ(i4:Nat) (n_1:Int) σ w=>slots σ [(0,.slice Alist list.length clist),(3,ii n_1),(4,ii (i4:Int))]∧CC F Γ [] w∧I64 n_1∧True) ?_ ?_
 ·
  intro w hw
  exact⟨slK,hw,iV,trivial⟩
 rintro f3 i4 n_1 σ w hi5 hlt6 hge7 ⟨hsl,hw,hr2,-⟩
 refine slV hsl hw [] ?_; clear hw hsl
 refine Dy (Dx (mV (k:=mV (k:=sV (ab rfl Fa) (k:=sV aw (k:=Dw ?_))))))
 refine coV (λhb8=>?_) (λhb8=>?_)
 ·
  have hl9:=ilt hb8
  have h:=hlt6 hl9
  refine DC (wc_ (Dy (DD (Dx (mV (k:=sV bN (k:=mV (k:=?_))))))))
  refine mV (k:=sV (ar (i:=i4) Fa EU rfl rfl rfl hl9 (hlist.some_ hl9)) (k:=sV (ah (i4*2) b6 rfl rfl (hlist.some_ hl9) rfl) (k:=?_)))
  obtain⟨A10,c11,hx12⟩:=hlist.recT_at i4
  refine sV (q_ld (c:=0) (v:=.string (gt list i4).key) (hx12 hl9).2 rfl En rfl rfl) (k:=sV (bg rfl Ek) (k:=sV bN (k:=aV (k:=Dw (Dx (aV (k:=Dw ?_)))))))
  refine DD ?_
  refine DF h (λ(i16:Nat) (n_13:Int) σ w=>slots σ [(0,.slice Alist list.length clist),(3,ii n_13),(4,ii (i4:Int)),(5,ii (i16:Int))]∧CC F Γ [] w∧I64 n_13∧True) ?_ ?_
  ·
   intro w hw
   exact⟨slK,hw,(ep _),trivial⟩
  rintro f15 i16 n_13 σ w hi17 hlt18 hge19 ⟨hsl,hw,hr14,-⟩
  refine slV hsl hw [] ?_; clear hw hsl
  refine Dy (Dx (mV (k:=mV (k:=mV (k:=sV (ar (i:=i4) Fa EU rfl rfl rfl hl9 (hlist.some_ hl9)) (k:=sV (ah (i4*2+1) aM rfl rfl (hlist.some_ hl9) rfl) (k:=?_)))))))
  obtain⟨A20,c21,hx22⟩:=hlist.recT_at i4
  refine sV (q_ld (c:=1) (v:=.slice A20 ((gt list i4).vers).length c21) (hx22 hl9).2 rfl F1 rfl rfl) (k:=sV (ab rfl EY) (k:=sV aw (k:=Dw ?_)))
  refine coV (λhb23=>?_) (λhb23=>?_)
  ·
   have hl24:=ilt hb23
   have h:=hlt18 hl24
   refine DC (wc_ (Dy (DD ?_)))
   refine drV ?_
   refine zV moV (k:=zV bN (k:=zV moV (k:=zV moV (k:=zV (ar (i:=i4) Fa EU rfl rfl rfl hl9 (hlist.some_ hl9)) (k:=zV (ah (i4*2+1) aM rfl rfl (hlist.some_ hl9) rfl) (k:=zV (q_ld (c:=1) (v:=.slice A20 ((gt list i4).vers).length c21) (hx22 hl9).2 rfl F1 rfl rfl) (k:=zV moV (k:=?_))))))))
   refine zV (ar (i:=i16) EY EP rfl rfl rfl hl24 ((hx22 hl9).1.2.2.some_ hl24)) (k:=zV (ah (i16*5+4) ec rfl rfl ((hx22 hl9).1.2.2.some_ hl24) rfl) (k:=?_))
   obtain⟨A25,c26,hx27⟩:=(hx22 hl9).1.2.2.verT_at i16
   refine zV (q_ld (c:=4) (v:=.string (gt ((gt list i4).vers) i16).val) (hx27 hl24).2 rfl En rfl rfl) (k:=zV (bg rfl Ek) (k:=zV bN (k:=zV moV (k:=zV moV (k:=zV (ar (i:=i4) Fa EU rfl rfl rfl hl9 (hlist.some_ hl9)) (k:=zV (ah (i4*2+1) aM rfl rfl (hlist.some_ hl9) rfl) (k:=zV (q_ld (c:=1) (v:=.slice A20 ((gt list i4).vers).length c21) (hx22 hl9).2 rfl F1 rfl rfl) (k:=?_))))))))
   refine zV moV (k:=zV (ar (i:=i16) EY EP rfl rfl rfl hl24 ((hx22 hl9).1.2.2.some_ hl24)) (k:=zV (ah (i16*5+2) aN rfl rfl ((hx22 hl9).1.2.2.some_ hl24) rfl) (k:=?_)))
   obtain⟨A28,c29,hx30⟩:=(hx22 hl9).1.2.2.verT_at i16
   refine zV (q_ld (c:=2) (v:=.slice A28 ((gt ((gt list i4).vers) i16).past).length c29) (hx30 hl24).2 rfl EX rfl rfl) (k:=zV (ab rfl EW) (k:=zV qF (k:=zV bN (k:=zV aoV (k:=?_)))))
   refine DJ ?_
   change WC _ _ _ _ _ _
   refine DA ?_
   refine mV (k:=sV (am rfl rfl rfl (ax hl24 (hx22 hl9).1.2.2.le)) (k:=aV (k:=?_)))
   exact Dz λw hw=>⟨hl24,(w64 ((w64 ((w64 (n_13+128))+((((gt ((gt list i4).vers) i16).val).size:Nat):Int)))+(w64 (32*((((gt ((gt list i4).vers) i16).past).length:Nat):Int))))),h,slK,hw,(ep _),trivial⟩
  have h:=hge19 (ige hb23)
  refine DE ?_
  change WC _ _ _ _ _ _
  refine DA ?_
  refine mV (k:=sV (am rfl rfl rfl (ax hl9 hlist.le)) (k:=aV (k:=?_)))
  exact Dz λw hw=>⟨hl9,n_13,h,slK,hw,hr14,trivial⟩
 have h:=hge7 (ige hb8)
 refine DE ?_
 change WC _ _ _ _ _ _
 refine Dx (mV (k:=aV (k:=Dw ?_)))
 exact DB λw hw=>rq_ r h hF hw
theorem iT(d:Dot)(hd:Dot.fits Γ  d)(hs:Sat Γ w0){r:Bool}(h:eH d=some r):CQ Tryz.prog 99 #[.agg (Dot.cs d).toArray] w0 (.bool r):=by
 refine goQ [2] func99 ntmps99 results99 hs λF hF=>?_
 refine Dx ?_
 refine bxV (v:=.agg (Dot.cs d).toArray) λg1=>?_
 refine aV (k:=Dw (Dx (sV (q_fl 0 cN) (k:=sV (ldV 0 Ez) (k:=sV iA (k:=mV (k:=vG1 (h:=λhg2=>q_fl 0 cN) (k:=?_))))))))
 refine vG1 (h:=λhg3=>ldV 0 Ez (hx:=grV hg3)) (k:=vG1 (h:=λhg4=>dh rfl (grV hg4)) (k:=sV pkA (k:=mV (k:=vG1 (h:=λhg5=>q_fl 1 cy) (k:=vG1 (h:=λhg6=>ldV 0 EH (hx:=grV hg6)) (k:=vG1 (h:=λhg7=>iA rfl (grV hg7)) (k:=sV pkA (k:=?_))))))))
 refine mV (k:=vG1 (h:=λhg8=>q_fl 1 cy) (k:=vG1 (h:=λhg9=>ldV 0 EH (hx:=grV hg9)) (k:=vG1 (h:=λhg10=>dh rfl (grV hg10)) (k:=sV pkA (k:=aV (k:=Dw ?_))))))
 exact DB λw hw=>rq_ r h hF hw
theorem oa{Al:Option Addr}{cl:Nat}{l:List Span}(hl:Sl bW Γ Al l)(hlc:l.length≤cl)(hs:Sat Γ w0){r:Bool}(h:ff l=some r):CQ Tryz.prog 100 #[.slice Al l.length cl] w0 (.bool r):=by
 refine goQ [2] func100 ntmps100 results100 hs λF hF=>?_
 refine Dx (aV (k:=Dw (Dy (Dx (mV (k:=sV (ab rfl EW) (k:=sV bx (k:=?_))))))))
 refine Dw ?_
 refine ciV h (λhb1 h=>?_) (λhb1 h=>?_)
 ·
  refine Dx (aV (k:=Dw ?_))
  exact DB λw hw=>rq_ r h hF hw
 refine DC (wc_ (Dy (Dx (aV (k:=Dw (DD ?_))))))
 refine DF h (λ(i3:Nat) (s:Unit) σ w=>match s with | ()=>slots σ [(0,.slice Al l.length cl),(3,ii (i3:Int))]∧CC F Γ [] w∧True) ?_ ?_
 ·
  intro w hw
  exact⟨slK,hw,trivial⟩
 rintro f2 i3 ⟨⟩ σ w hi4 hlt5 hge6 ⟨hsl,hw,-⟩
 refine slV hsl hw [] ?_; clear hw hsl
 refine Dy (Dx (mV (k:=mV (k:=sV (ab rfl EW) (k:=sV aw (k:=Dw ?_))))))
 refine coV (λhb7=>?_) (λhb7=>?_)
 ·
  have hl8:=ilt hb7
  have h:=hlt5 hl8
  refine DC (wc_ (Dy (DD (Dy (Dy ?_)))))
  refine drV ?_
  refine zV moV (k:=zV moV (k:=zV (ar (i:=i3) EW EM rfl rfl rfl hl8 (hl.some_ hl8)) (k:=zV (ah (i3*3) cg rfl rfl (hl.some_ hl8) rfl) (k:=zV (q_ld (c:=0) (v:=ii (gt l i3).s) (hl.spanT_at hl8).2 rfl Ez rfl rfl) (k:=zV moV (k:=zV moV (k:=zV (ar (i:=i3) EW EM rfl rfl rfl hl8 (hl.some_ hl8)) (k:=?_))))))))
  refine zV (ah (i3*3+1) cB rfl rfl (hl.some_ hl8) rfl) (k:=zV (q_ld (c:=1) (v:=ii (gt l i3).f) (hl.spanT_at hl8).2 rfl EH rfl rfl) (k:=zV (aA (v:=.agg #[ii (gt l i3).s,ii (gt l i3).f]) rfl (dJ rfl rfl) (λw=>by kernel_rfl)) (k:=?_)))
  obtain⟨z9,hz10,h⟩:=bnd h
  refine wc rfl rfl rfl (aH (caV call99) (λw hw=>iT (Γ:=Gh.all w) (⟨(gt l i3).s,(gt l i3).f⟩:Dot) ⟨(hl.spanT_at hl8).1.1,(hl.spanT_at hl8).1.2.1⟩ (Sat.all w) hz10)) (zV bb (k:=zV moV (k:=wG0 (h:=λhg11=>moV) (k:=wG0 (h:=λhg12=>moV) (k:=wG0 (h:=λhg13=>ar (i:=i3) EW EM rfl (grV hg13) (grV hg13) hl8 (hl.some_ hl8)) (k:=wG0 (h:=λhg14=>ah (i3*3) cg rfl (grV hg14) (hl.some_ hl8) rfl) (k:=wG0 (h:=λhg15=>q_ld (c:=0) (v:=ii (gt l i3).s) (hl.spanT_at hl8).2 rfl Ez (grV hg15) rfl) (k:=?_))))))))
  refine wG0 (h:=λhg16=>moV) (k:=wG0 (h:=λhg17=>moV) (k:=wG0 (h:=λhg18=>ar (i:=i3) EW EM rfl (grV hg18) (grV hg18) hl8 (hl.some_ hl8)) (k:=wG0 (h:=λhg19=>ah (i3*3+2) bK rfl (grV hg19) (hl.some_ hl8) rfl) (k:=wG0 (h:=λhg20=>q_ld (c:=2) (v:=ii (gt l i3).t) (hl.spanT_at hl8).2 rfl EH (grV hg20) rfl) (k:=wG0 (h:=λhg21=>aA (v:=.agg #[ii (gt l i3).s,ii (gt l i3).t]) rfl (dJ (grV hg21) (grV hg21)) (λw=>by kernel_rfl)) (k:=?_))))))
  obtain⟨z23,hz24,h⟩:=bnd h
  refine wC0 (h:=λhg22=>aH (aC call99 rfl rfl (kC (grV hg22))) (λw hw=>iT (Γ:=Gh.all w) (⟨(gt l i3).s,(gt l i3).t⟩:Dot) ⟨(hl.spanT_at hl8).1.1,(hl.spanT_at hl8).1.2.2⟩ (Sat.all w) (bU hz24 hg22))) (k:=wG0 (h:=λhg25=>bb rfl (grV hg25)) (k:=zV pkO (k:=zV moV (k:=wG0 (h:=λhg26=>moV) (k:=wG0 (h:=λhg27=>moV) (k:=wG0 (h:=λhg28=>ar (i:=i3) EW EM rfl (grV hg28) (grV hg28) hl8 (hl.some_ hl8)) (k:=wG0 (h:=λhg29=>ah (i3*3+1) cB rfl (grV hg29) (hl.some_ hl8) rfl) (k:=?_))))))))
  refine wG0 (h:=λhg30=>q_ld (c:=1) (v:=ii (gt l i3).f) (hl.spanT_at hl8).2 rfl EH (grV hg30) rfl) (k:=wG0 (h:=λhg31=>moV) (k:=wG0 (h:=λhg32=>moV) (k:=wG0 (h:=λhg33=>ar (i:=i3) EW EM rfl (grV hg33) (grV hg33) hl8 (hl.some_ hl8)) (k:=wG0 (h:=λhg34=>ah (i3*3+2) bK rfl (grV hg34) (hl.some_ hl8) rfl) (k:=wG0 (h:=λhg35=>q_ld (c:=2) (v:=ii (gt l i3).t) (hl.spanT_at hl8).2 rfl EH (grV hg35) rfl) (k:=wG0 (h:=λhg36=>bx rfl (grV hg36) (grV hg36)) (k:=zV pkO (k:=?_))))))))
  refine DJ ?_
  change WC _ _ _ _ _ _
  refine ciV h (λhb37 h=>?_) (λhb37 h=>?_)
  ·
   refine Dx (aV (k:=Dw ?_))
   exact DB λw hw=>rq_ r h hF hw
  refine DC (wc_ (Dy ?_))
  refine drV ?_
  refine zV moV (k:=zV bx (k:=zV moV (k:=wG1 (h:=λhg38=>moV) (k:=wG1 (h:=λhg39=>moV) (k:=wG1 (h:=λhg40=>ar (i:=i3) EW EM rfl (grV hg40) (grV hg40) hl8 (hl.some_ hl8)) (k:=wG1 (h:=λhg41=>ah (i3*3) cg rfl (grV hg41) (hl.some_ hl8) rfl) (k:=wG1 (h:=λhg42=>q_ld (c:=0) (v:=ii (gt l i3).s) (hl.spanT_at hl8).2 rfl Ez (grV hg42) rfl) (k:=?_))))))))
  refine wG1 (h:=λhg43=>moV) (k:=wG1 (h:=λhg44=>moV) (k:=wG1 (h:=λhg45=>iK rfl (grV hg45)) (k:=?_)))
  obtain⟨hk47,h⟩:=af h
  refine wG1 (h:=λhg46=>q_ix EW EM rfl (grV hg46) (grV hg46) (al hk47 hg46) (hl.some_ (aq (al hk47 hg46)))) (k:=wG1 (h:=λhg48=>ah (((w64 ((i3:Int) - 1)).toNat)*3) cg rfl (grV hg48) (hl.some_ (aq (al hk47 hg48))) rfl) (k:=wG1 (h:=λhg49=>q_ld (c:=0) (v:=ii (gt l ((w64 ((i3:Int) - 1)).toNat)).s) (hl.spanT_at (aq (al hk47 hg49))).2 rfl Ez (grV hg49) rfl) (k:=wG1 (h:=λhg50=>aw rfl (grV hg50) (grV hg50)) (k:=wG1 (h:=λhg51=>b4 (v:=.bool (decide ((gt l i3).s<(gt l ((w64 ((i3:Int) - 1)).toNat)).s))) rfl (grV hg51)) (k:=wh0 (c0:=(decide (0<(i3:Int)))) (g:=(decide ((gt l i3).s<(gt l ((w64 ((i3:Int) - 1)).toNat)).s))) rfl rfl rfl rfl rfl (λ_=>QV.qo moV) (wh0 (c0:=(decide (0<(i3:Int)))) (g:=(decide ((gt l i3).s<(gt l ((w64 ((i3:Int) - 1)).toNat)).s))) rfl rfl rfl rfl rfl (λ_=>QV.qo moV) (wh0 (c0:=(decide (0<(i3:Int)))) (g:=(decide ((gt l i3).s<(gt l ((w64 ((i3:Int) - 1)).toNat)).s))) rfl rfl rfl rfl rfl (λhg54=>QV.qo (ar (i:=i3) EW EM rfl (grV hg54) (grV hg54) hl8 (hl.some_ hl8))) ?_)))))))
  refine wh0 (c0:=(decide (0<(i3:Int)))) (g:=(decide ((gt l i3).s<(gt l ((w64 ((i3:Int) - 1)).toNat)).s))) rfl rfl rfl rfl rfl (λhg55=>QV.qo (ah (i3*3) cg rfl (grV hg55) (hl.some_ hl8) rfl)) (wh0 (c0:=(decide (0<(i3:Int)))) (g:=(decide ((gt l i3).s<(gt l ((w64 ((i3:Int) - 1)).toNat)).s))) rfl rfl rfl rfl rfl (λhg56=>QV.qo (q_ld (c:=0) (v:=ii (gt l i3).s) (hl.spanT_at hl8).2 rfl Ez (grV hg56) rfl)) (wh0 (c0:=(decide (0<(i3:Int)))) (g:=(decide ((gt l i3).s<(gt l ((w64 ((i3:Int) - 1)).toNat)).s))) rfl rfl rfl rfl rfl (λ_=>QV.qo moV) (wh0 (c0:=(decide (0<(i3:Int)))) (g:=(decide ((gt l i3).s<(gt l ((w64 ((i3:Int) - 1)).toNat)).s))) rfl rfl rfl rfl rfl (λ_=>QV.qo moV) (wh0 (c0:=(decide (0<(i3:Int)))) (g:=(decide ((gt l i3).s<(gt l ((w64 ((i3:Int) - 1)).toNat)).s))) rfl rfl rfl rfl rfl (λhg59=>QV.qo (iK rfl (grV hg59))) (wh0 (c0:=(decide (0<(i3:Int)))) (g:=(decide ((gt l i3).s<(gt l ((w64 ((i3:Int) - 1)).toNat)).s))) rfl rfl rfl rfl rfl (λhg60=>QV.qo (q_ix EW EM rfl (grV hg60) (grV hg60) (al hk47 (bV hg60)) (hl.some_ (aq (al hk47 (bV hg60)))))) ?_)))))
  refine wh0 (c0:=(decide (0<(i3:Int)))) (g:=(decide ((gt l i3).s<(gt l ((w64 ((i3:Int) - 1)).toNat)).s))) rfl rfl rfl rfl rfl (λhg61=>QV.qo (ah (((w64 ((i3:Int) - 1)).toNat)*3) cg rfl (grV hg61) (hl.some_ (aq (al hk47 (bV hg61)))) rfl)) (wh0 (c0:=(decide (0<(i3:Int)))) (g:=(decide ((gt l i3).s<(gt l ((w64 ((i3:Int) - 1)).toNat)).s))) rfl rfl rfl rfl rfl (λhg62=>QV.qo (q_ld (c:=0) (v:=ii (gt l ((w64 ((i3:Int) - 1)).toNat)).s) (hl.spanT_at (aq (al hk47 (bV hg62)))).2 rfl Ez (grV hg62) rfl)) (wh0 (c0:=(decide (0<(i3:Int)))) (g:=(decide ((gt l i3).s<(gt l ((w64 ((i3:Int) - 1)).toNat)).s))) rfl rfl rfl rfl rfl (λhg63=>QV.qo (cW rfl (grV hg63) (grV hg63))) (wh0 (c0:=(decide (0<(i3:Int)))) (g:=(decide ((gt l i3).s<(gt l ((w64 ((i3:Int) - 1)).toNat)).s))) rfl rfl rfl rfl rfl (λhg64=>QV.qo (b4 (v:=.bool ((gt l i3).s==(gt l ((w64 ((i3:Int) - 1)).toNat)).s)) rfl (grV hg64))) (wh1 (c0:=((decide (0<(i3:Int)))&&(!(decide ((gt l i3).s<(gt l ((w64 ((i3:Int) - 1)).toNat)).s))))) (g:=((gt l i3).s==(gt l ((w64 ((i3:Int) - 1)).toNat)).s)) rfl rfl rfl rfl rfl (λ_=>QV.qo moV) ?_))))
  refine wh1 (c0:=((decide (0<(i3:Int)))&&(!(decide ((gt l i3).s<(gt l ((w64 ((i3:Int) - 1)).toNat)).s))))) (g:=((gt l i3).s==(gt l ((w64 ((i3:Int) - 1)).toNat)).s)) rfl rfl rfl rfl rfl (λ_=>QV.qo moV) (wh1 (c0:=((decide (0<(i3:Int)))&&(!(decide ((gt l i3).s<(gt l ((w64 ((i3:Int) - 1)).toNat)).s))))) (g:=((gt l i3).s==(gt l ((w64 ((i3:Int) - 1)).toNat)).s)) rfl rfl rfl rfl rfl (λhg67=>QV.qo (ar (i:=i3) EW EM rfl (grV hg67) (grV hg67) hl8 (hl.some_ hl8))) (wh1 (c0:=((decide (0<(i3:Int)))&&(!(decide ((gt l i3).s<(gt l ((w64 ((i3:Int) - 1)).toNat)).s))))) (g:=((gt l i3).s==(gt l ((w64 ((i3:Int) - 1)).toNat)).s)) rfl rfl rfl rfl rfl (λhg68=>QV.qo (ah (i3*3+1) cB rfl (grV hg68) (hl.some_ hl8) rfl)) (wh1 (c0:=((decide (0<(i3:Int)))&&(!(decide ((gt l i3).s<(gt l ((w64 ((i3:Int) - 1)).toNat)).s))))) (g:=((gt l i3).s==(gt l ((w64 ((i3:Int) - 1)).toNat)).s)) rfl rfl rfl rfl rfl (λhg69=>QV.qo (q_ld (c:=1) (v:=ii (gt l i3).f) (hl.spanT_at hl8).2 rfl EH (grV hg69) rfl)) (wh1 (c0:=((decide (0<(i3:Int)))&&(!(decide ((gt l i3).s<(gt l ((w64 ((i3:Int) - 1)).toNat)).s))))) (g:=((gt l i3).s==(gt l ((w64 ((i3:Int) - 1)).toNat)).s)) rfl rfl rfl rfl rfl (λhg70=>QV.qo (iK rfl (grV hg70))) ?_))))
  refine wh1 (c0:=((decide (0<(i3:Int)))&&(!(decide ((gt l i3).s<(gt l ((w64 ((i3:Int) - 1)).toNat)).s))))) (g:=((gt l i3).s==(gt l ((w64 ((i3:Int) - 1)).toNat)).s)) rfl rfl rfl rfl rfl (λ_=>QV.qo moV) (wh1 (c0:=((decide (0<(i3:Int)))&&(!(decide ((gt l i3).s<(gt l ((w64 ((i3:Int) - 1)).toNat)).s))))) (g:=((gt l i3).s==(gt l ((w64 ((i3:Int) - 1)).toNat)).s)) rfl rfl rfl rfl rfl (λ_=>QV.qo moV) (wh1 (c0:=((decide (0<(i3:Int)))&&(!(decide ((gt l i3).s<(gt l ((w64 ((i3:Int) - 1)).toNat)).s))))) (g:=((gt l i3).s==(gt l ((w64 ((i3:Int) - 1)).toNat)).s)) rfl rfl rfl rfl rfl (λhg73=>QV.qo (iK rfl (grV hg73))) (wh1 (c0:=((decide (0<(i3:Int)))&&(!(decide ((gt l i3).s<(gt l ((w64 ((i3:Int) - 1)).toNat)).s))))) (g:=((gt l i3).s==(gt l ((w64 ((i3:Int) - 1)).toNat)).s)) rfl rfl rfl rfl rfl (λhg74=>QV.qo (q_ix EW EM rfl (grV hg74) (grV hg74) (al hk47 (bV (bV hg74))) (hl.some_ (aq (al hk47 (bV (bV hg74))))))) (wh1 (c0:=((decide (0<(i3:Int)))&&(!(decide ((gt l i3).s<(gt l ((w64 ((i3:Int) - 1)).toNat)).s))))) (g:=((gt l i3).s==(gt l ((w64 ((i3:Int) - 1)).toNat)).s)) rfl rfl rfl rfl rfl (λhg75=>QV.qo (ah (((w64 ((i3:Int) - 1)).toNat)*3+2) bK rfl (grV hg75) (hl.some_ (aq (al hk47 (bV (bV hg75))))) rfl)) ?_))))
  refine wh1 (c0:=((decide (0<(i3:Int)))&&(!(decide ((gt l i3).s<(gt l ((w64 ((i3:Int) - 1)).toNat)).s))))) (g:=((gt l i3).s==(gt l ((w64 ((i3:Int) - 1)).toNat)).s)) rfl rfl rfl rfl rfl (λhg76=>QV.qo (q_ld (c:=2) (v:=ii (gt l ((w64 ((i3:Int) - 1)).toNat)).t) (hl.spanT_at (aq (al hk47 (bV (bV hg76))))).2 rfl EH (grV hg76) rfl)) (wh1 (c0:=((decide (0<(i3:Int)))&&(!(decide ((gt l i3).s<(gt l ((w64 ((i3:Int) - 1)).toNat)).s))))) (g:=((gt l i3).s==(gt l ((w64 ((i3:Int) - 1)).toNat)).s)) rfl rfl rfl rfl rfl (λhg77=>QV.qo (dh rfl (grV hg77) (grV hg77))) (wh0 (c0:=(decide (0<(i3:Int)))) (g:=(decide ((gt l i3).s<(gt l ((w64 ((i3:Int) - 1)).toNat)).s))) rfl rfl rfl rfl rfl (λhg78=>QV.qo (eV rfl (grV hg78) (kM (c:=((decide (0<(i3:Int)))&&(!(decide ((gt l i3).s<(gt l ((w64 ((i3:Int) - 1)).toNat)).s))))) (g:=((gt l i3).s==(gt l ((w64 ((i3:Int) - 1)).toNat)).s)) (y:=(decide ((w64 ((gt l i3).f - 1))≤(gt l ((w64 ((i3:Int) - 1)).toNat)).t))) hg78))) (wG1 (h:=λhg79=>eV rfl (grV hg79) (yN (c:=(decide (0<(i3:Int)))) (g:=(decide ((gt l i3).s<(gt l ((w64 ((i3:Int) - 1)).toNat)).s))) (y:=(((gt l i3).s==(gt l ((w64 ((i3:Int) - 1)).toNat)).s)&&(decide ((w64 ((gt l i3).f - 1))≤(gt l ((w64 ((i3:Int) - 1)).toNat)).t)))) hg79)) (k:=zV pkA (k:=?_)))))
  refine DJ ?_
  change WC _ _ _ _ _ _
  refine ciV h (λhb80 h=>?_) (λhb80 h=>?_)
  ·
   refine Dx (aV (k:=Dw ?_))
   exact DB λw hw=>rq_ r h hF hw
  refine DC (wc_ ?_)
  refine DA ?_
  refine mV (k:=sV (am rfl rfl rfl (ax hl8 hl.le)) (k:=aV (k:=?_)))
  exact Dz λw hw=>⟨hl8,(),h,slK,hw,trivial⟩
 have h:=hge6 (ige hb7)
 refine DE ?_
 change WC _ _ _ _ _ _
 refine Dx (aV (k:=Dw ?_))
 exact DB λw hw=>rq_ r h hF hw
theorem qm{Al:Option Addr}{cl:Nat}{l:List Span}(hl:Sl bW Γ Al l)(hlc:l.length≤cl)(s_:Int)(hs_:I64 s_)(hs:Sat Γ w0){r:Int}(h:gq l s_=some r):CQ Tryz.prog 101 #[.slice Al l.length cl,ii s_] w0 (ii r):=by
 refine goQ [4] func101 ntmps101 results101 hs λF hF=>?_
 refine Dx (aV (k:=Dw (Dx (aV (k:=Dw (Dy (Dx ?_)))))))
 refine aV (k:=Dw (DD ?_))
 refine DF h (λ(i4:Nat) (n_1:Int) σ w=>slots σ [(0,.slice Al l.length cl),(1,ii s_),(5,ii n_1),(6,ii (i4:Int))]∧CC F Γ [] w∧I64 n_1∧True) ?_ ?_
 ·
  intro w hw
  exact⟨slK,hw,iV,trivial⟩
 rintro f3 i4 n_1 σ w hi5 hlt6 hge7 ⟨hsl,hw,hr2,-⟩
 refine slV hsl hw [] ?_; clear hw hsl
 refine Dy (Dx (mV (k:=mV (k:=sV (ab rfl EW) (k:=sV aw (k:=Dw ?_))))))
 refine coV (λhb8=>?_) (λhb8=>?_)
 ·
  have hl9:=ilt hb8
  have h:=hlt6 hl9
  refine DC (wc_ ?_)
  refine DL (λσ w => ∃(n_10:Int),eA f3 n_10=some r∧slots σ [(0,.slice Al l.length cl),(1,ii s_),(5,ii n_10),(6,ii (i4:Int))]∧CC F Γ [] w∧I64 n_10∧True) ?_ ?_
  ·
   refine DD (Dx (mV (k:=mV (k:=sV (ar (i:=i4) EW EM rfl rfl rfl hl9 (hl.some_ hl9)) (k:=sV (ah (i4*3) cg rfl rfl (hl.some_ hl9) rfl) (k:=sV (q_ld (c:=0) (v:=ii (gt l i4).s) (hl.spanT_at hl9).2 rfl Ez rfl rfl) (k:=mV (k:=?_))))))))
   refine sV cW (k:=mV (k:=vG1 (h:=λhg12=>moV) (k:=vG1 (h:=λhg13=>moV) (k:=vG1 (h:=λhg14=>ar (i:=i4) EW EM rfl (grV hg14) (grV hg14) hl9 (hl.some_ hl9)) (k:=vG1 (h:=λhg15=>ah (i4*3+2) bK rfl (grV hg15) (hl.some_ hl9) rfl) (k:=vG1 (h:=λhg16=>q_ld (c:=2) (v:=ii (gt l i4).t) (hl.spanT_at hl9).2 rfl EH (grV hg16) rfl) (k:=vG1 (h:=λhg17=>moV) (k:=?_))))))))
   refine vG1 (h:=λhg18=>bx rfl (grV hg18) (grV hg18)) (k:=sV pkA (k:=Dw ?_))
   refine ciV h (λhb19 h=>?_) (λhb19 h=>?_)
   ·
    refine DA ?_
    refine mV (k:=mV (k:=sV (ar (i:=i4) EW EM rfl rfl rfl hl9 (hl.some_ hl9)) (k:=sV (ah (i4*3+2) bK rfl rfl (hl.some_ hl9) rfl) (k:=sV (q_ld (c:=2) (v:=ii (gt l i4).t) (hl.spanT_at hl9).2 rfl EH rfl rfl) (k:=aV (k:=?_))))))
    exact Dz λw hw=>⟨(gt l i4).t,h,slK,hw,(hl.spanT_at hl9).1.2.2,trivial⟩
   exact DC λw hw=>⟨n_1,h,slK,hw,hr2,trivial⟩
  rintro σ w ⟨n_10,h,hsl,hw,hr11,-⟩
  refine slV hsl hw [] ?_; clear hw hsl
  refine DA ?_
  refine mV (k:=sV (am rfl rfl rfl (ax hl9 hl.le)) (k:=aV (k:=?_)))
  exact Dz λw hw=>⟨hl9,n_10,h,slK,hw,hr11,trivial⟩
 have h:=hge7 (ige hb8)
 refine DE ?_
 change WC _ _ _ _ _ _
 refine Dx (mV (k:=aV (k:=Dw ?_)))
 exact DB λw hw=>rq_ r h hF hw
theorem lZ{Av_2:Option Addr}{cv_2:Nat}(v_:Ver)(hv_:Ver.fits Γ Av_2 cv_2 v_)(hs:Sat Γ w0){r:Bool}(h:dE v_=some r):CQ Tryz.prog 62 #[.agg (Ver.cs Av_2 cv_2 v_).toArray] w0 (.bool r):=by
 refine goQ [2] func62 ntmps62 results62 hs λF hF=>?_
 refine Dx ?_
 refine bxV (v:=.agg (Ver.cs Av_2 cv_2 v_).toArray) λg1=>?_
 refine aV (k:=Dw (Dy (Dy ?_)))
 refine drV ?_
 refine zV (q_fl 0 aG) (k:=zV (ldaV 0 (Dot.cs v_.dot) EZ F0) (k:=?_))
 obtain⟨z2,hz3,h⟩:=bnd h
 refine wc rfl rfl rfl (aH (caV call99) (λw hw=>iT (Γ:=Gh.all w) v_.dot ⟨hv_.1,hv_.2.1⟩ (Sat.all w) hz3)) (zV bb (k:=zV moV (k:=wG0 (h:=λhg4=>q_fl 2 aN) (k:=wG0 (h:=λhg5=>ldV 0 EX (hx:=grV hg5)) (k:=?_)))))
 obtain⟨z7,hz8,h⟩:=bnd h
 refine wC0 (h:=λhg6=>aH (aC call100 rfl rfl (kC (grV hg6))) (λw hw=>oa (Γ:=Gh.all w) (hv_.2.2.1.2.mono hw.sat.le_all) hv_.2.2.1.1 (Sat.all w) (bU hz8 hg6))) (k:=wG0 (h:=λhg9=>bb rfl (grV hg9)) (k:=zV pkO (k:=zV moV (k:=wG0 (h:=λhg10=>q_fl 2 aN) (k:=wG0 (h:=λhg11=>ldV 0 EX (hx:=grV hg11)) (k:=wG0 (h:=λhg12=>q_fl 0 aG) (k:=wG0 (h:=λhg13=>q_fl 0 cN rfl (grV hg13)) (k:=?_))))))))
 refine wG0 (h:=λhg14=>ldV 0 Ez (hx:=grV hg14)) (k:=?_)
 obtain⟨z16,hz17,h⟩:=bnd h
 refine wC0 (h:=λhg15=>aH (aC call101 rfl rfl (dX (grV hg15) (grV hg15))) (λw hw=>qm (Γ:=Gh.all w) (hv_.2.2.1.2.mono hw.sat.le_all) hv_.2.2.1.1 v_.dot.s hv_.1 (Sat.all w) (bU hz17 hg15))) (k:=wG0 (h:=λhg18=>q_fl 0 aG) (k:=wG0 (h:=λhg19=>q_fl 1 cy rfl (grV hg19)) (k:=wG0 (h:=λhg20=>ldV 0 EH (hx:=grV hg20)) (k:=wG0 (h:=λhg21=>iA rfl (grV hg21) (grV hg21)) (k:=zV pkO (k:=?_))))))
 refine DJ ?_
 change WC _ _ _ _ _ _
 refine ciV h (λhb22 h=>?_) (λhb22 h=>?_)
 ·
  refine Dx (aV (k:=Dw ?_))
  exact DB λw hw=>rq_ r h hF hw
 refine DC (wc_ (Dy (Dx (sV (q_fl 3 gF) (k:=sV (ldV 0 isAgg4) (k:=Dw ?_))))))
 refine ciV h (λhb23 h=>?_) (λhb23 h=>?_)
 ·
  refine Dx (sV (q_fl 4 ec) (k:=sV (ldV 0 En) (k:=sV oj (k:=aV (k:=Dw ?_)))))
  exact DB λw hw=>rq_ r h hF hw
 refine DC (wc_ (Dx (sV (q_fl 4 ec) (k:=sV (ldV 0 En) (k:=sV (bg rfl Ek) (k:=sV dh (k:=aV (k:=?_))))))))
 refine Dw ?_
 exact DB λw hw=>rq_ r h hF hw
theorem pU{Al:Option Addr}{cl:Nat}{l:List Span}(hl:Sl bW Γ Al l)(hlc:l.length≤cl)(d:Dot)(hd:Dot.fits Γ  d)(hs:Sat Γ w0){r:Bool}(h:gj l d=some r):CQ Tryz.prog 65 #[.slice Al l.length cl,.agg (Dot.cs d).toArray] w0 (.bool r):=by
 refine goQ [4] func65 ntmps65 results65 hs λF hF=>?_
 refine Dx ?_
 refine bxV (v:=.agg (Dot.cs d).toArray) λg1=>?_
 refine aV (k:=Dw (Dy (Dx (aV (k:=Dw (DD ?_))))))
 refine DF h (λ(i3:Nat) (s:Unit) σ w=>match s with | ()=>slots σ [(0,.slice Al l.length cl),(3,(pq g1)),(5,ii (i3:Int))]∧CC F Γ [[(g1,.cells (Dot.cs d).toArray 69 (0,0))]] w∧True) ?_ ?_
 ·
  intro w hw
  exact⟨slK,hw,trivial⟩
 rintro f2 i3 ⟨⟩ σ w hi4 hlt5 hge6 ⟨hsl,hw,-⟩
 refine slV hsl hw [_] ?_; clear hw hsl
 refine Dy (Dx (mV (k:=mV (k:=sV (ab rfl EW) (k:=sV aw (k:=Dw ?_))))))
 refine coV (λhb7=>?_) (λhb7=>?_)
 ·
  have hl8:=ilt hb7
  have h:=hlt5 hl8
  refine DC (wc_ (Dy (DD (Dy ?_))))
  refine drV ?_
  refine zV moV (k:=zV moV (k:=zV (ar (i:=i3) EW EM rfl rfl rfl hl8 (hl.some_ hl8)) (k:=zV (ah (i3*3) cg rfl rfl (hl.some_ hl8) rfl) (k:=zV (q_ld (c:=0) (v:=ii (gt l i3).s) (hl.spanT_at hl8).2 rfl Ez rfl rfl) (k:=zV (q_fl 0 cN) (k:=zV (ldV 0 Ez) (k:=zV cW (k:=?_))))))))
  refine zV moV (k:=wG1 (h:=λhg9=>q_fl 1 cy) (k:=wG1 (h:=λhg10=>ldV 0 EH (hx:=grV hg10)) (k:=wG1 (h:=λhg11=>moV) (k:=wG1 (h:=λhg12=>moV) (k:=wG1 (h:=λhg13=>ar (i:=i3) EW EM rfl (grV hg13) (grV hg13) hl8 (hl.some_ hl8)) (k:=wG1 (h:=λhg14=>ah (i3*3+1) cB rfl (grV hg14) (hl.some_ hl8) rfl) (k:=wG1 (h:=λhg15=>q_ld (c:=1) (v:=ii (gt l i3).f) (hl.spanT_at hl8).2 rfl EH (grV hg15) rfl) (k:=?_))))))))
  refine wG1 (h:=λhg16=>iA rfl (grV hg16) (grV hg16)) (k:=zV pkA (k:=zV moV (k:=wG1 (h:=λhg17=>q_fl 1 cy) (k:=wG1 (h:=λhg18=>ldV 0 EH (hx:=grV hg18)) (k:=wG1 (h:=λhg19=>moV) (k:=wG1 (h:=λhg20=>moV) (k:=wG1 (h:=λhg21=>ar (i:=i3) EW EM rfl (grV hg21) (grV hg21) hl8 (hl.some_ hl8)) (k:=?_))))))))
  refine wG1 (h:=λhg22=>ah (i3*3+2) bK rfl (grV hg22) (hl.some_ hl8) rfl) (k:=wG1 (h:=λhg23=>q_ld (c:=2) (v:=ii (gt l i3).t) (hl.spanT_at hl8).2 rfl EH (grV hg23) rfl) (k:=wG1 (h:=λhg24=>dh rfl (grV hg24) (grV hg24)) (k:=zV pkA (k:=?_))))
  refine DJ ?_
  change WC _ _ _ _ _ _
  refine ciV h (λhb25 h=>?_) (λhb25 h=>?_)
  ·
   refine Dx (aV (k:=Dw ?_))
   exact DB λw hw=>rq_ r h hF hw
  refine DC (wc_ ?_)
  refine DA ?_
  refine mV (k:=sV (am rfl rfl rfl (ax hl8 hl.le)) (k:=aV (k:=?_)))
  exact Dz λw hw=>⟨hl8,(),h,slK,hw,trivial⟩
 have h:=hge6 (ige hb7)
 refine DE ?_
 change WC _ _ _ _ _ _
 refine Dx (aV (k:=Dw ?_))
 exact DB λw hw=>rq_ r h hF hw
theorem gz{Al:Option Addr}{cl:Nat}{l:List Ver}(hl:Sl verT Γ Al l)(hlc:l.length≤cl)(d:Dot)(hd:Dot.fits Γ  d)(hs:Sat Γ w0){r:Bool}(h:bz l d=some r):CQ Tryz.prog 37 #[.slice Al l.length cl,.agg (Dot.cs d).toArray] w0 (.bool r):=by
 refine goQ [4] func37 ntmps37 results37 hs λF hF=>?_
 refine Dx ?_
 refine bxV (v:=.agg (Dot.cs d).toArray) λg1=>?_
 refine aV (k:=Dw (Dy (Dx (aV (k:=Dw (DD ?_))))))
 refine DF h (λ(i3:Nat) (s:Unit) σ w=>match s with | ()=>slots σ [(0,.slice Al l.length cl),(3,(pq g1)),(5,ii (i3:Int))]∧CC F Γ [[(g1,.cells (Dot.cs d).toArray 69 (0,0))]] w∧True) ?_ ?_
 ·
  intro w hw
  exact⟨slK,hw,trivial⟩
 rintro f2 i3 ⟨⟩ σ w hi4 hlt5 hge6 ⟨hsl,hw,-⟩
 refine slV hsl hw [_] ?_; clear hw hsl
 refine Dy (Dx (mV (k:=mV (k:=sV (ab rfl EY) (k:=sV aw (k:=Dw ?_))))))
 refine coV (λhb7=>?_) (λhb7=>?_)
 ·
  have hl8:=ilt hb7
  have h:=hlt5 hl8
  refine DC (wc_ (Dy (DD (Dy ?_))))
  refine drV ?_
  refine zV moV (k:=zV moV (k:=zV (ar (i:=i3) EY EP rfl rfl rfl hl8 (hl.some_ hl8)) (k:=zV (ah (i3*5+2) aN rfl rfl (hl.some_ hl8) rfl) (k:=?_))))
  obtain⟨A9,c10,hx11⟩:=hl.verT_at i3
  refine zV (q_ld (c:=2) (v:=.slice A9 ((gt l i3).past).length c10) (hx11 hl8).2 rfl EX rfl rfl) (k:=zV (ldaV 0 (Dot.cs d) EZ F0) (k:=?_))
  obtain⟨z12,hz13,h⟩:=bnd h
  refine wc rfl rfl rfl (aH (caV call65) (λw hw=>pU (Γ:=Gh.all w) ((hx11 hl8).1.2.2.1.2.mono hw.sat.le_all) (hx11 hl8).1.2.2.1.1 d hd (Sat.all w) hz13)) ?_
  refine DJ ?_
  change WC _ _ _ _ _ _
  refine ciV h (λhb14 h=>?_) (λhb14 h=>?_)
  ·
   refine Dx (aV (k:=Dw ?_))
   exact DB λw hw=>rq_ r h hF hw
  refine DC (wc_ ?_)
  refine DA ?_
  refine mV (k:=sV (am rfl rfl rfl (ax hl8 hl.le)) (k:=aV (k:=?_)))
  exact Dz λw hw=>⟨hl8,(),h,slK,hw,trivial⟩
 have h:=hge6 (ige hb7)
 refine DE ?_
 change WC _ _ _ _ _ _
 refine Dx (aV (k:=Dw ?_))
 exact DB λw hw=>rq_ r h hF hw
theorem pe(a:Dot)(ha:Dot.fits Γ  a)(b:Dot)(hb:Dot.fits Γ  b)(hs:Sat Γ w0){r:Bool}(h:fI a b=some r):CQ Tryz.prog 63 #[.agg (Dot.cs a).toArray,.agg (Dot.cs b).toArray] w0 (.bool r):=by
 refine goQ [4] func63 ntmps63 results63 hs λF hF=>?_
 refine Dx ?_
 refine bxV (v:=.agg (Dot.cs a).toArray) λg1=>?_
 refine bxV (v:=.agg (Dot.cs b).toArray) λg2=>?_
 refine aV (k:=Dw (Dy (Dx (sV (q_fl 0 cN) (k:=sV (ldV 1 Ez) (k:=sV (q_fl 0 cN) (k:=sV (ldV 0 Ez) (k:=?_))))))))
 refine sV bj (k:=Dw ?_)
 refine ciV h (λhb3 h=>?_) (λhb3 h=>?_)
 ·
  refine Dx (sV (q_fl 0 cN) (k:=sV (ldV 1 Ez) (k:=sV (q_fl 0 cN) (k:=sV (ldV 0 Ez) (k:=sV aw (k:=aV (k:=Dw ?_)))))))
  exact DB λw hw=>rq_ r h hF hw
 refine DC (wc_ (Dx (sV (q_fl 1 cy) (k:=sV (ldV 1 EH) (k:=sV (q_fl 1 cy) (k:=sV (ldV 0 EH) (k:=sV aw (k:=?_))))))))
 refine aV (k:=Dw ?_)
 exact DB λw hw=>rq_ r h hF hw
theorem o0{Al:Option Addr}{cl:Nat}{l:List Ver}(hl:Sl verT Γ Al l)(hlc:l.length≤cl)(hs:Sat Γ w0){r:Bool}(h:dk l=some r):CQ Tryz.prog 35 #[.slice Al l.length cl] w0 (.bool r):=by
 refine goQ [2] func35 ntmps35 results35 hs λF hF=>?_
 refine Dx (aV (k:=Dw (Dy (Dx (mV (k:=sV (ab rfl EY) (k:=sV bx (k:=?_))))))))
 refine Dw ?_
 refine ciV h (λhb1 h=>?_) (λhb1 h=>?_)
 ·
  refine Dx (aV (k:=Dw ?_))
  exact DB λw hw=>rq_ r h hF hw
 refine DC (wc_ (Dy (Dx (aV (k:=Dw (DD ?_))))))
 refine DF h (λ(i3:Nat) (s:Unit) σ w=>match s with | ()=>slots σ [(0,.slice Al l.length cl),(3,ii (i3:Int))]∧CC F Γ [] w∧True) ?_ ?_
 ·
  intro w hw
  exact⟨slK,hw,trivial⟩
 rintro f2 i3 ⟨⟩ σ w hi4 hlt5 hge6 ⟨hsl,hw,-⟩
 refine slV hsl hw [] ?_; clear hw hsl
 refine Dy (Dx (mV (k:=mV (k:=sV (ab rfl EY) (k:=sV aw (k:=Dw ?_))))))
 refine coV (λhb7=>?_) (λhb7=>?_)
 ·
  have hl8:=ilt hb7
  have h:=hlt5 hl8
  refine DC (wc_ (Dy (DD (Dy (Dx (mV (k:=mV (k:=?_))))))))
  refine sV (ar (i:=i3) EY EP rfl rfl rfl hl8 (hl.some_ hl8)) (k:=?_)
  obtain⟨A9,c10,hx11⟩:=hl.verT_at i3
  refine sV (bT (c:=0) (vs:=(Ver.cs A9 c10 (gt l i3))) (hx11 hl8).2 rfl ES EP rfl rfl rfl) (k:=?_)
  obtain⟨z12,hz13,h⟩:=bnd h
  refine vqV (caV call62) (λw hw=>lZ (Γ:=Gh.all w) (gt l i3) (Ver.fits_mono (hx11 hl8).1 hw.sat.le_all) (Sat.all w) hz13) (k:=sV bb (k:=mV (k:=vG0 (h:=λhg14=>moV) (k:=vG0 (h:=λhg15=>moV) (k:=vG0 (h:=λhg16=>moV) (k:=vG0 (h:=λhg17=>ar (i:=i3) EY EP rfl (grV hg17) (grV hg17) hl8 (hl.some_ hl8)) (k:=vG0 (h:=λhg18=>ah (i3*5) aG rfl (grV hg18) (hl.some_ hl8) rfl) (k:=?_))))))))
  refine vG0 (h:=λhg19=>bT (c:=0) (vs:=[ii (gt l i3).dot.s,ii (gt l i3).dot.n]) (hx11 hl8).2 rfl EZ F0 (grV hg19) rfl rfl) (k:=?_)
  obtain⟨z21,hz22,h⟩:=bnd h
  refine vC0 (h:=λhg20=>aH (aC call37 rfl rfl (dX (grV hg20) (grV hg20))) (λw hw=>gz (Γ:=Gh.all w) (hl.mono hw.sat.le_all) hlc ((gt l i3).dot) ⟨(hx11 hl8).1.1,(hx11 hl8).1.2.1⟩ (Sat.all w) (bU hz22 hg20))) (k:=sV pkO (k:=Dw ?_))
  refine ciV h (λhb23 h=>?_) (λhb23 h=>?_)
  ·
   refine Dx (aV (k:=Dw ?_))
   exact DB λw hw=>rq_ r h hF hw
  refine DC (wc_ (Dy ?_))
  refine drV ?_
  refine zV moV (k:=zV bx (k:=zV moV (k:=wG1 (h:=λhg24=>moV) (k:=wG1 (h:=λhg25=>moV) (k:=wG1 (h:=λhg26=>iK rfl (grV hg26)) (k:=?_))))))
  obtain⟨hk28,h⟩:=af h
  refine wG1 (h:=λhg27=>q_ix EY EP rfl (grV hg27) (grV hg27) (al hk28 hg27) (hl.some_ (aq (al hk28 hg27)))) (k:=wG1 (h:=λhg29=>ah (((w64 ((i3:Int) - 1)).toNat)*5) aG rfl (grV hg29) (hl.some_ (aq (al hk28 hg29))) rfl) (k:=?_))
  obtain⟨A31,c32,hx33⟩:=hl.verT_at ((w64 ((i3:Int) - 1)).toNat)
  refine wG1 (h:=λhg30=>bT (c:=0) (vs:=[ii (gt l ((w64 ((i3:Int) - 1)).toNat)).dot.s,ii (gt l ((w64 ((i3:Int) - 1)).toNat)).dot.n]) (hx33 (aq (al hk28 hg30))).2 rfl EZ F0 (grV hg30) rfl rfl) (k:=wG1 (h:=λhg34=>moV) (k:=wG1 (h:=λhg35=>moV) (k:=wG1 (h:=λhg36=>ar (i:=i3) EY EP rfl (grV hg36) (grV hg36) hl8 (hl.some_ hl8)) (k:=wG1 (h:=λhg37=>ah (i3*5) aG rfl (grV hg37) (hl.some_ hl8) rfl) (k:=wG1 (h:=λhg38=>bT (c:=0) (vs:=[ii (gt l i3).dot.s,ii (gt l i3).dot.n]) (hx11 hl8).2 rfl EZ F0 (grV hg38) rfl rfl) (k:=?_))))))
  obtain⟨z40,hz41,h⟩:=bnd h
  refine wC1 (h:=λhg39=>aH (aC call63 rfl rfl (dX (grV hg39) (grV hg39))) (λw hw=>pe (Γ:=Gh.all w) ((gt l ((w64 ((i3:Int) - 1)).toNat)).dot) ⟨(hx33 (aq (al hk28 hg39))).1.1,(hx33 (aq (al hk28 hg39))).1.2.1⟩ ((gt l i3).dot) ⟨(hx11 hl8).1.1,(hx11 hl8).1.2.1⟩ (Sat.all w) (bU hz41 hg39))) (k:=wG1 (h:=λhg42=>bb rfl (grV hg42)) (k:=zV pkA (k:=?_)))
  refine DJ ?_
  change WC _ _ _ _ _ _
  refine ciV h (λhb43 h=>?_) (λhb43 h=>?_)
  ·
   refine Dx (aV (k:=Dw ?_))
   exact DB λw hw=>rq_ r h hF hw
  refine DC (wc_ ?_)
  refine DA ?_
  refine mV (k:=sV (am rfl rfl rfl (ax hl8 hl.le)) (k:=aV (k:=?_)))
  exact Dz λw hw=>⟨hl8,(),h,slK,hw,trivial⟩
 have h:=hge6 (ige hb7)
 refine DE ?_
 change WC _ _ _ _ _ _
 refine Dx (aV (k:=Dw ?_))
 exact DB λw hw=>rq_ r h hF hw
theorem lU{Ar_1:Option Addr}{cr_1:Nat}(r_:Rec)(hr_:Rec.fits Γ Ar_1 cr_1 r_)(hs:Sat Γ w0){r:Bool}(h:bE r_=some r):CQ Tryz.prog 19 #[.agg (Rec.cs Ar_1 cr_1 r_).toArray] w0 (.bool r):=by
 refine goQ [2] func19 ntmps19 results19 hs λF hF=>?_
 refine Dx ?_
 refine bxV (v:=.agg (Rec.cs Ar_1 cr_1 r_).toArray) λg1=>?_
 refine aV (k:=Dw (Dx (sV (q_fl 0 b6) (k:=sV (ldV 0 En) (k:=sV vX (k:=mV (k:=vG1 (h:=λhg2=>q_fl 0 b6) (k:=?_))))))))
 refine vG1 (h:=λhg3=>ldV 0 En (hx:=grV hg3)) (k:=vG1 (h:=λhg4=>bg rfl Ek (grV hg4)) (k:=vG1 (h:=λhg5=>dh rfl (grV hg5)) (k:=sV pkA (k:=mV (k:=vG1 (h:=λhg6=>q_fl 1 aM) (k:=vG1 (h:=λhg7=>ldV 0 F1 (hx:=grV hg7)) (k:=?_)))))))
 obtain⟨z9,hz10,h⟩:=bnd h
 refine vC1 (h:=λhg8=>aH (aC call35 rfl rfl (kC (grV hg8))) (λw hw=>o0 (Γ:=Gh.all w) (hr_.2.2.mono hw.sat.le_all) hr_.2.1 (Sat.all w) (bU hz10 hg8))) (k:=sV pkA (k:=aV (k:=Dw ?_)))
 exact DB λw hw=>rq_ r h hF hw
theorem pA{Aa:Option Addr}{ca:Nat}{a:List Span}(ha:Sl bW Γ Aa a)(hac:a.length≤ca){Ab:Option Addr}{cb:Nat}{b:List Span}(hb:Sl bW Γ Ab b)(hbc:b.length≤cb)(hs:Sat Γ w0){r:Bool}(h:cY a b=some r):CQ Tryz.prog 64 #[.slice Aa a.length ca,.slice Ab b.length cb] w0 (.bool r):=by
 refine goQ [4] func64 ntmps64 results64 hs λF hF=>?_
 refine Dx (aV (k:=Dw (Dy (Dx (mV (k:=sV (ab rfl EW) (k:=mV (k:=?_))))))))
 refine sV (ab rfl EW) (k:=sV bj (k:=Dw ?_))
 refine ciV h (λhb1 h=>?_) (λhb1 h=>?_)
 ·
  refine Dx (aV (k:=Dw ?_))
  exact DB λw hw=>rq_ r h hF hw
 refine DC (wc_ (Dy (Dx (aV (k:=Dw (DD ?_))))))
 refine DF h (λ(i3:Nat) (s:Unit) σ w=>match s with | ()=>slots σ [(0,.slice Aa a.length ca),(1,.slice Ab b.length cb),(5,ii (i3:Int))]∧CC F Γ [] w∧True) ?_ ?_
 ·
  intro w hw
  exact⟨slK,hw,trivial⟩
 rintro f2 i3 ⟨⟩ σ w hi4 hlt5 hge6 ⟨hsl,hw,-⟩
 refine slV hsl hw [] ?_; clear hw hsl
 refine Dy (Dx (mV (k:=mV (k:=sV (ab rfl EW) (k:=sV aw (k:=Dw ?_))))))
 refine coV (λhb7=>?_) (λhb7=>?_)
 ·
  have hl8:=ilt hb7
  have h:=hlt5 hl8
  refine DC (wc_ (Dy (DD (Dy ?_))))
  refine drV ?_
  refine zV moV (k:=zV moV (k:=zV (ar (i:=i3) EW EM rfl rfl rfl hl8 (ha.some_ hl8)) (k:=zV (bT (c:=0) (vs:=(Span.cs (gt a i3))) (ha.spanT_at hl8).2 rfl EN EM rfl rfl rfl) (k:=zV moV (k:=zV moV (k:=?_))))))
  obtain⟨hk9,h⟩:=af h
  refine zV (ar (i:=i3) EW EM rfl rfl rfl (DP hk9) (hb.some_ (DP hk9))) (k:=zV (bT (c:=0) (vs:=(Span.cs (gt b i3))) (hb.spanT_at (DP hk9)).2 rfl EN EM rfl rfl rfl) (k:=zV (ry (a:=(gt a i3)) (b:=(gt b i3)) rfl rfl rfl) (k:=?_)))
  refine DJ ?_
  change WC _ _ _ _ _ _
  refine ciV h (λhb10 h=>?_) (λhb10 h=>?_)
  ·
   refine Dx (aV (k:=Dw ?_))
   exact DB λw hw=>rq_ r h hF hw
  refine DC (wc_ ?_)
  refine DA ?_
  refine mV (k:=sV (am rfl rfl rfl (ax hl8 ha.le)) (k:=aV (k:=?_)))
  exact Dz λw hw=>⟨hl8,(),h,slK,hw,trivial⟩
 have h:=hge6 (ige hb7)
 refine DE ?_
 change WC _ _ _ _ _ _
 refine Dx (aV (k:=Dw ?_))
 exact DB λw hw=>rq_ r h hF hw
theorem jA{Aa2:Option Addr}{ca2:Nat}(a:Ver)(ha:Ver.fits Γ Aa2 ca2 a){Ab2:Option Addr}{cb2:Nat}(b:Ver)(hb:Ver.fits Γ Ab2 cb2 b)(hs:Sat Γ w0){r:Bool}(h:b7 a b=some r):CQ Tryz.prog 36 #[.agg (Ver.cs Aa2 ca2 a).toArray,.agg (Ver.cs Ab2 cb2 b).toArray] w0 (.bool r):=by
 refine goQ [4] func36 ntmps36 results36 hs λF hF=>?_
 refine Dx ?_
 refine bxV (v:=.agg (Ver.cs Aa2 ca2 a).toArray) λg1=>?_
 refine bxV (v:=.agg (Ver.cs Ab2 cb2 b).toArray) λg2=>?_
 refine aV (k:=Dw (Dx (sV (q_fl 0 aG) (k:=sV (ldaV 1 (Dot.cs a.dot) EZ F0) (k:=sV (q_fl 0 aG) (k:=sV (ldaV 0 (Dot.cs b.dot) EZ F0) (k:=sV (nr (a:=a.dot) (b:=b.dot) rfl rfl rfl) (k:=?_))))))))
 refine mV (k:=vG1 (h:=λhg3=>q_fl 3 gF) (k:=vG1 (h:=λhg4=>ldV 1 isAgg4 (hx:=grV hg4)) (k:=vG1 (h:=λhg5=>q_fl 3 gF) (k:=vG1 (h:=λhg6=>ldV 0 isAgg4 (hx:=grV hg6)) (k:=vG1 (h:=λhg7=>CH underlying4 rfl (grV hg7) (grV hg7)) (k:=sV pkA (k:=mV (k:=?_))))))))
 refine vG1 (h:=λhg8=>q_fl 4 ec) (k:=vG1 (h:=λhg9=>ldV 1 En (hx:=grV hg9)) (k:=vG1 (h:=λhg10=>q_fl 4 ec) (k:=vG1 (h:=λhg11=>ldV 0 En (hx:=grV hg11)) (k:=vG1 (h:=λhg12=>oj rfl (grV hg12) (grV hg12)) (k:=sV pkA (k:=mV (k:=vG1 (h:=λhg13=>q_fl 2 aN) (k:=?_))))))))
 refine vG1 (h:=λhg14=>ldV 1 EX (hx:=grV hg14)) (k:=vG1 (h:=λhg15=>q_fl 2 aN) (k:=vG1 (h:=λhg16=>ldV 0 EX (hx:=grV hg16)) (k:=?_)))
 obtain⟨z18,hz19,h⟩:=bnd h
 refine vC1 (h:=λhg17=>aH (aC call64 rfl rfl (dX (grV hg17) (grV hg17))) (λw hw=>pA (Γ:=Gh.all w) (ha.2.2.1.2.mono hw.sat.le_all) ha.2.2.1.1 (hb.2.2.1.2.mono hw.sat.le_all) hb.2.2.1.1 (Sat.all w) (bU hz19 hg17))) (k:=sV pkA (k:=aV (k:=Dw ?_)))
 exact DB λw hw=>rq_ r h hF hw
theorem ox{Aa:Option Addr}{ca:Nat}{a:List Span}(ha:Sl bW Γ Aa a)(hac:a.length≤ca){Ab:Option Addr}{cb:Nat}{b:List Span}(hb:Sl bW Γ Ab b)(hbc:b.length≤cb)(hs:Sat Γ w0){r:Bool}(h:dq a b=some r):CQ Tryz.prog 38 #[.slice Aa a.length ca,.slice Ab b.length cb] w0 (.bool r):=by
 refine goQ [4] func38 ntmps38 results38 hs λF hF=>?_
 refine Dx (aV (k:=Dw (Dy (Dx (aV (k:=Dw (DD ?_)))))))
 refine DF h (λ(i2:Nat) (s:Unit) σ w=>match s with | ()=>slots σ [(0,.slice Aa a.length ca),(1,.slice Ab b.length cb),(5,ii (i2:Int))]∧CC F Γ [] w∧True) ?_ ?_
 ·
  intro w hw
  exact⟨slK,hw,trivial⟩
 rintro f1 i2 ⟨⟩ σ w hi3 hlt4 hge5 ⟨hsl,hw,-⟩
 refine slV hsl hw [] ?_; clear hw hsl
 refine Dy (Dx (mV (k:=mV (k:=sV (ab rfl EW) (k:=sV aw (k:=Dw ?_))))))
 refine coV (λhb6=>?_) (λhb6=>?_)
 ·
  have hl7:=ilt hb6
  have h:=hlt4 hl7
  refine DC (wc_ (Dy (DD (Dx (aV (k:=Dw (Dy ?_)))))))
  refine Dx (aV (k:=Dw (DD ?_)))
  refine DF h (λ(i10:Nat) (in_8:Bool) σ w=>slots σ [(0,.slice Aa a.length ca),(1,.slice Ab b.length cb),(5,ii (i2:Int)),(6,.bool in_8),(7,ii (i10:Int))]∧CC F Γ [] w∧True) ?_ ?_
  ·
   intro w hw
   exact⟨slK,hw,trivial⟩
  rintro f9 i10 in_8 σ w hi11 hlt12 hge13 ⟨hsl,hw,-⟩
  refine slV hsl hw [] ?_; clear hw hsl
  refine Dy (Dx (mV (k:=mV (k:=sV (ab rfl EW) (k:=sV aw (k:=Dw ?_))))))
  refine coV (λhb14=>?_) (λhb14=>?_)
  ·
   have hl15:=ilt hb14
   have h:=hlt12 hl15
   refine DC (wc_ (Dy (DD ?_)))
   refine drV ?_
   refine zV moV (k:=zV moV (k:=wG0 (h:=λhg16=>moV) (k:=wG0 (h:=λhg17=>moV) (k:=wG0 (h:=λhg18=>ar (i:=i2) EW EM rfl (grV hg18) (grV hg18) hl7 (ha.some_ hl7)) (k:=wG0 (h:=λhg19=>ah (i2*3) cg rfl (grV hg19) (ha.some_ hl7) rfl) (k:=wG0 (h:=λhg20=>q_ld (c:=0) (v:=ii (gt a i2).s) (ha.spanT_at hl7).2 rfl Ez (grV hg20) rfl) (k:=wG0 (h:=λhg21=>moV) (k:=?_))))))))
   refine wG0 (h:=λhg22=>moV) (k:=wG0 (h:=λhg23=>ar (i:=i10) EW EM rfl (grV hg23) (grV hg23) hl15 (hb.some_ hl15)) (k:=wG0 (h:=λhg24=>ah (i10*3) cg rfl (grV hg24) (hb.some_ hl15) rfl) (k:=wG0 (h:=λhg25=>q_ld (c:=0) (v:=ii (gt b i10).s) (hb.spanT_at hl15).2 rfl Ez (grV hg25) rfl) (k:=wG0 (h:=λhg26=>cW rfl (grV hg26) (grV hg26)) (k:=wG0 (h:=λhg27=>b4 (v:=.bool ((gt a i2).s==(gt b i10).s)) rfl (grV hg27)) (k:=wh1 (c0:=(!in_8)) (g:=((gt a i2).s==(gt b i10).s)) rfl rfl rfl rfl rfl (λ_=>QV.qo moV) (wh1 (c0:=(!in_8)) (g:=((gt a i2).s==(gt b i10).s)) rfl rfl rfl rfl rfl (λ_=>QV.qo moV) ?_)))))))
   refine wh1 (c0:=(!in_8)) (g:=((gt a i2).s==(gt b i10).s)) rfl rfl rfl rfl rfl (λhg30=>QV.qo (ar (i:=i10) EW EM rfl (grV hg30) (grV hg30) hl15 (hb.some_ hl15))) (wh1 (c0:=(!in_8)) (g:=((gt a i2).s==(gt b i10).s)) rfl rfl rfl rfl rfl (λhg31=>QV.qo (ah (i10*3+1) cB rfl (grV hg31) (hb.some_ hl15) rfl)) (wh1 (c0:=(!in_8)) (g:=((gt a i2).s==(gt b i10).s)) rfl rfl rfl rfl rfl (λhg32=>QV.qo (q_ld (c:=1) (v:=ii (gt b i10).f) (hb.spanT_at hl15).2 rfl EH (grV hg32) rfl)) (wh1 (c0:=(!in_8)) (g:=((gt a i2).s==(gt b i10).s)) rfl rfl rfl rfl rfl (λ_=>QV.qo moV) (wh1 (c0:=(!in_8)) (g:=((gt a i2).s==(gt b i10).s)) rfl rfl rfl rfl rfl (λ_=>QV.qo moV) (wh1 (c0:=(!in_8)) (g:=((gt a i2).s==(gt b i10).s)) rfl rfl rfl rfl rfl (λhg35=>QV.qo (ar (i:=i2) EW EM rfl (grV hg35) (grV hg35) hl7 (ha.some_ hl7))) (wh1 (c0:=(!in_8)) (g:=((gt a i2).s==(gt b i10).s)) rfl rfl rfl rfl rfl (λhg36=>QV.qo (ah (i2*3+1) cB rfl (grV hg36) (ha.some_ hl7) rfl)) (wh1 (c0:=(!in_8)) (g:=((gt a i2).s==(gt b i10).s)) rfl rfl rfl rfl rfl (λhg37=>QV.qo (q_ld (c:=1) (v:=ii (gt a i2).f) (ha.spanT_at hl7).2 rfl EH (grV hg37) rfl)) ?_)))))))
   refine wh1 (c0:=(!in_8)) (g:=((gt a i2).s==(gt b i10).s)) rfl rfl rfl rfl rfl (λhg38=>QV.qo (dh rfl (grV hg38) (grV hg38))) (wG0 (h:=λhg39=>eV rfl (grV hg39) (kM (c:=(!in_8)) (g:=((gt a i2).s==(gt b i10).s)) (y:=(decide ((gt b i10).f≤(gt a i2).f))) hg39)) (k:=wG0 (h:=λhg40=>b4 (v:=.bool (((gt a i2).s==(gt b i10).s)&&(decide ((gt b i10).f≤(gt a i2).f)))) rfl (grV hg40)) (k:=wh1 (c0:=(!in_8)) (g:=(((gt a i2).s==(gt b i10).s)&&(decide ((gt b i10).f≤(gt a i2).f)))) rfl rfl rfl rfl rfl (λ_=>QV.qo moV) (wh1 (c0:=(!in_8)) (g:=(((gt a i2).s==(gt b i10).s)&&(decide ((gt b i10).f≤(gt a i2).f)))) rfl rfl rfl rfl rfl (λ_=>QV.qo moV) (wh1 (c0:=(!in_8)) (g:=(((gt a i2).s==(gt b i10).s)&&(decide ((gt b i10).f≤(gt a i2).f)))) rfl rfl rfl rfl rfl (λhg43=>QV.qo (ar (i:=i2) EW EM rfl (grV hg43) (grV hg43) hl7 (ha.some_ hl7))) (wh1 (c0:=(!in_8)) (g:=(((gt a i2).s==(gt b i10).s)&&(decide ((gt b i10).f≤(gt a i2).f)))) rfl rfl rfl rfl rfl (λhg44=>QV.qo (ah (i2*3+2) bK rfl (grV hg44) (ha.some_ hl7) rfl)) (wh1 (c0:=(!in_8)) (g:=(((gt a i2).s==(gt b i10).s)&&(decide ((gt b i10).f≤(gt a i2).f)))) rfl rfl rfl rfl rfl (λhg45=>QV.qo (q_ld (c:=2) (v:=ii (gt a i2).t) (ha.spanT_at hl7).2 rfl EH (grV hg45) rfl)) ?_)))))))
   refine wh1 (c0:=(!in_8)) (g:=(((gt a i2).s==(gt b i10).s)&&(decide ((gt b i10).f≤(gt a i2).f)))) rfl rfl rfl rfl rfl (λ_=>QV.qo moV) (wh1 (c0:=(!in_8)) (g:=(((gt a i2).s==(gt b i10).s)&&(decide ((gt b i10).f≤(gt a i2).f)))) rfl rfl rfl rfl rfl (λ_=>QV.qo moV) (wh1 (c0:=(!in_8)) (g:=(((gt a i2).s==(gt b i10).s)&&(decide ((gt b i10).f≤(gt a i2).f)))) rfl rfl rfl rfl rfl (λhg48=>QV.qo (ar (i:=i10) EW EM rfl (grV hg48) (grV hg48) hl15 (hb.some_ hl15))) (wh1 (c0:=(!in_8)) (g:=(((gt a i2).s==(gt b i10).s)&&(decide ((gt b i10).f≤(gt a i2).f)))) rfl rfl rfl rfl rfl (λhg49=>QV.qo (ah (i10*3+2) bK rfl (grV hg49) (hb.some_ hl15) rfl)) (wh1 (c0:=(!in_8)) (g:=(((gt a i2).s==(gt b i10).s)&&(decide ((gt b i10).f≤(gt a i2).f)))) rfl rfl rfl rfl rfl (λhg50=>QV.qo (q_ld (c:=2) (v:=ii (gt b i10).t) (hb.spanT_at hl15).2 rfl EH (grV hg50) rfl)) (wh1 (c0:=(!in_8)) (g:=(((gt a i2).s==(gt b i10).s)&&(decide ((gt b i10).f≤(gt a i2).f)))) rfl rfl rfl rfl rfl (λhg51=>QV.qo (dh rfl (grV hg51) (grV hg51))) (wG0 (h:=λhg52=>eV rfl (grV hg52) (kM (c:=(!in_8)) (g:=(((gt a i2).s==(gt b i10).s)&&(decide ((gt b i10).f≤(gt a i2).f)))) (y:=(decide ((gt a i2).t≤(gt b i10).t))) hg52)) (k:=zV pkO (k:=?_))))))))
   refine zV aoV (k:=?_)
   refine DJ ?_
   change WC _ _ _ _ _ _
   refine DA ?_
   refine mV (k:=sV (am rfl rfl rfl (ax hl15 hb.le)) (k:=aV (k:=?_)))
   exact Dz λw hw=>⟨hl15,(in_8||((((gt a i2).s==(gt b i10).s)&&(decide ((gt b i10).f≤(gt a i2).f)))&&(decide ((gt a i2).t≤(gt b i10).t)))),h,slK,hw,trivial⟩
  have h:=hge13 (ige hb14)
  refine DE ?_
  change WC _ _ _ _ _ _
  refine Dx (mV (k:=sV bb (k:=Dw ?_)))
  refine ciV h (λhb53 h=>?_) (λhb53 h=>?_)
  ·
   refine Dx (aV (k:=Dw ?_))
   exact DB λw hw=>rq_ r h hF hw
  refine DC (wc_ ?_)
  refine DA ?_
  refine mV (k:=sV (am rfl rfl rfl (ax hl7 ha.le)) (k:=aV (k:=?_)))
  exact Dz λw hw=>⟨hl7,(),h,slK,hw,trivial⟩
 have h:=hge5 (ige hb6)
 refine DE ?_
 change WC _ _ _ _ _ _
 refine Dx (aV (k:=Dw ?_))
 exact DB λw hw=>rq_ r h hF hw
theorem mz{Aa:Option Addr}{ca:Nat}{a:List Ver}(ha:Sl verT Γ Aa a)(hac:a.length≤ca){Ab:Option Addr}{cb:Nat}{b:List Ver}(hb:Sl verT Γ Ab b)(hbc:b.length≤cb)(hs:Sat Γ w0){r:Bool}(h:cO a b=some r):CQ Tryz.prog 20 #[.slice Aa a.length ca,.slice Ab b.length cb] w0 (.bool r):=by
 refine goQ [4] func20 ntmps20 results20 hs λF hF=>?_
 refine Dx (aV (k:=Dw (Dy (Dx (aV (k:=Dw (DD ?_)))))))
 refine DF h (λ(i2:Nat) (s:Unit) σ w=>match s with | ()=>slots σ [(0,.slice Aa a.length ca),(1,.slice Ab b.length cb),(5,ii (i2:Int))]∧CC F Γ [] w∧True) ?_ ?_
 ·
  intro w hw
  exact⟨slK,hw,trivial⟩
 rintro f1 i2 ⟨⟩ σ w hi3 hlt4 hge5 ⟨hsl,hw,-⟩
 refine slV hsl hw [] ?_; clear hw hsl
 refine Dy (Dx (mV (k:=mV (k:=sV (ab rfl EY) (k:=sV aw (k:=Dw ?_))))))
 refine coV (λhb6=>?_) (λhb6=>?_)
 ·
  have hl7:=ilt hb6
  have h:=hlt4 hl7
  refine DC (wc_ (Dy (DD (Dx (aV (k:=Dw (DD ?_)))))))
  refine DF h (λ(i9:Nat) (s:Unit) σ w=>match s with | ()=>slots σ [(0,.slice Aa a.length ca),(1,.slice Ab b.length cb),(5,ii (i2:Int)),(6,ii (i9:Int))]∧CC F Γ [] w∧True) ?_ ?_
  ·
   intro w hw
   exact⟨slK,hw,trivial⟩
  rintro f8 i9 ⟨⟩ σ w hi10 hlt11 hge12 ⟨hsl,hw,-⟩
  refine slV hsl hw [] ?_; clear hw hsl
  refine Dy (Dx (mV (k:=mV (k:=sV (ab rfl EY) (k:=sV aw (k:=Dw ?_))))))
  refine coV (λhb13=>?_) (λhb13=>?_)
  ·
   have hl14:=ilt hb13
   have h:=hlt11 hl14
   refine DC (wc_ (Dy (DD (Dy (Dy ?_)))))
   refine drV ?_
   refine zV moV (k:=zV moV (k:=zV (ar (i:=i2) EY EP rfl rfl rfl hl7 (ha.some_ hl7)) (k:=zV (ah (i2*5) aG rfl rfl (ha.some_ hl7) rfl) (k:=?_))))
   obtain⟨A15,c16,hx17⟩:=ha.verT_at i2
   refine zV (bT (c:=0) (vs:=[ii (gt a i2).dot.s,ii (gt a i2).dot.n]) (hx17 hl7).2 rfl EZ F0 rfl rfl rfl) (k:=zV moV (k:=zV moV (k:=zV (ar (i:=i9) EY EP rfl rfl rfl hl14 (hb.some_ hl14)) (k:=zV (ah (i9*5) aG rfl rfl (hb.some_ hl14) rfl) (k:=?_)))))
   obtain⟨A18,c19,hx20⟩:=hb.verT_at i9
   refine zV (bT (c:=0) (vs:=[ii (gt b i9).dot.s,ii (gt b i9).dot.n]) (hx20 hl14).2 rfl EZ F0 rfl rfl rfl) (k:=zV (nr (a:=(gt a i2).dot) (b:=(gt b i9).dot) rfl rfl rfl) (k:=zV moV (k:=wG1 (h:=λhg21=>moV) (k:=wG1 (h:=λhg22=>moV) (k:=wG1 (h:=λhg23=>ar (i:=i2) EY EP rfl (grV hg23) (grV hg23) hl7 (ha.some_ hl7)) (k:=wG1 (h:=λhg24=>bT (c:=0) (vs:=(Ver.cs A15 c16 (gt a i2))) (hx17 hl7).2 rfl ES EP (grV hg24) rfl rfl) (k:=wG1 (h:=λhg25=>moV) (k:=?_))))))))
   refine wG1 (h:=λhg26=>moV) (k:=wG1 (h:=λhg27=>ar (i:=i9) EY EP rfl (grV hg27) (grV hg27) hl14 (hb.some_ hl14)) (k:=wG1 (h:=λhg28=>bT (c:=0) (vs:=(Ver.cs A18 c19 (gt b i9))) (hx20 hl14).2 rfl ES EP (grV hg28) rfl rfl) (k:=?_)))
   obtain⟨z30,hz31,h⟩:=bnd h
   refine wC1 (h:=λhg29=>aH (aC call36 rfl rfl (dX (grV hg29) (grV hg29))) (λw hw=>jA (Γ:=Gh.all w) (gt a i2) (Ver.fits_mono (hx17 hl7).1 hw.sat.le_all) (gt b i9) (Ver.fits_mono (hx20 hl14).1 hw.sat.le_all) (Sat.all w) (bU hz31 hg29))) (k:=wG1 (h:=λhg32=>bb rfl (grV hg32)) (k:=zV pkA (k:=?_)))
   refine DJ ?_
   change WC _ _ _ _ _ _
   refine ciV h (λhb33 h=>?_) (λhb33 h=>?_)
   ·
    refine Dx (aV (k:=Dw ?_))
    exact DB λw hw=>rq_ r h hF hw
   refine DC (wc_ (Dy ?_))
   refine drV ?_
   refine zV moV (k:=zV moV (k:=zV moV (k:=zV (am rfl rfl rfl (ax hl7 ha.le)) (k:=?_))))
   obtain⟨hk34,h⟩:=af h
   refine zV (vp (c:=ca) (lo:=i2) (hi:=i2+1) (xs:=a) EY EP rfl rfl rfl rfl (Nat.le_succ _) (DP hk34) hac) (k:=zV moV (k:=zV moV (k:=zV (ar (i:=i9) EY EP rfl rfl rfl hl14 (hb.some_ hl14)) (k:=zV (ah (i9*5) aG rfl rfl (hb.some_ hl14) rfl) (k:=zV (bT (c:=0) (vs:=[ii (gt b i9).dot.s,ii (gt b i9).dot.n]) (hx20 hl14).2 rfl EZ F0 rfl rfl rfl) (k:=?_))))))
   obtain⟨z35,hz36,h⟩:=bnd h
   refine wc rfl rfl rfl (aH (caV call37) (λw hw=>gz (Γ:=Gh.all w) ((ha.cut (cap:=ca) (lo:=i2) (hi:=i2+1) (Nat.le_succ _) (DP hk34) hac).mono hw.sat.le_all) (oE hac i2 (i2+1)) ((gt b i9).dot) ⟨(hx20 hl14).1.1,(hx20 hl14).1.2.1⟩ (Sat.all w) hz36)) (zV moV (k:=wG1 (h:=λhg37=>moV) (k:=wG1 (h:=λhg38=>moV) (k:=wG1 (h:=λhg39=>moV) (k:=wG1 (h:=λhg40=>am (r:=((i9+1:Nat):Int)) rfl (grV hg40) rfl (ax hl14 hb.le)) (k:=?_))))))
   obtain⟨hk42,h⟩:=af h
   refine wG1 (h:=λhg41=>vp (c:=cb) (lo:=i9) (hi:=i9+1) (xs:=b) EY EP rfl (grV hg41) (grV hg41) (grV hg41) (Nat.le_succ _) (DP (al hk42 hg41)) hbc) (k:=wG1 (h:=λhg43=>moV) (k:=wG1 (h:=λhg44=>moV) (k:=wG1 (h:=λhg45=>ar (i:=i2) EY EP rfl (grV hg45) (grV hg45) hl7 (ha.some_ hl7)) (k:=wG1 (h:=λhg46=>ah (i2*5) aG rfl (grV hg46) (ha.some_ hl7) rfl) (k:=wG1 (h:=λhg47=>bT (c:=0) (vs:=[ii (gt a i2).dot.s,ii (gt a i2).dot.n]) (hx17 hl7).2 rfl EZ F0 (grV hg47) rfl rfl) (k:=?_))))))
   obtain⟨z49,hz50,h⟩:=bnd h
   refine wC1 (h:=λhg48=>aH (aC call37 rfl rfl (dX (grV hg48) (grV hg48))) (λw hw=>gz (Γ:=Gh.all w) ((hb.cut (cap:=cb) (lo:=i9) (hi:=i9+1) (Nat.le_succ _) (DP (al hk42 hg48)) hbc).mono hw.sat.le_all) (oE hbc i9 (i9+1)) ((gt a i2).dot) ⟨(hx17 hl7).1.1,(hx17 hl7).1.2.1⟩ (Sat.all w) (bU hz50 hg48))) (k:=wG1 (h:=λhg51=>b4 (v:=.bool z49) rfl (grV hg51)) (k:=wh0 (c0:=z35) (g:=z49) rfl rfl rfl rfl rfl (λ_=>QV.qo moV) (wh0 (c0:=z35) (g:=z49) rfl rfl rfl rfl rfl (λ_=>QV.qo moV) (wh0 (c0:=z35) (g:=z49) rfl rfl rfl rfl rfl (λhg54=>QV.qo (ar (i:=i9) EY EP rfl (grV hg54) (grV hg54) hl14 (hb.some_ hl14))) (wh0 (c0:=z35) (g:=z49) rfl rfl rfl rfl rfl (λhg55=>QV.qo (ah (i9*5+2) aN rfl (grV hg55) (hb.some_ hl14) rfl)) (wh0 (c0:=z35) (g:=z49) rfl rfl rfl rfl rfl (λhg56=>QV.qo (q_ld (c:=2) (v:=.slice A18 ((gt b i9).past).length c19) (hx20 hl14).2 rfl EX (grV hg56) rfl)) (wh0 (c0:=z35) (g:=z49) rfl rfl rfl rfl rfl (λ_=>QV.qo moV) ?_)))))))
   refine wh0 (c0:=z35) (g:=z49) rfl rfl rfl rfl rfl (λ_=>QV.qo moV) (wh0 (c0:=z35) (g:=z49) rfl rfl rfl rfl rfl (λhg59=>QV.qo (ar (i:=i2) EY EP rfl (grV hg59) (grV hg59) hl7 (ha.some_ hl7))) (wh0 (c0:=z35) (g:=z49) rfl rfl rfl rfl rfl (λhg60=>QV.qo (ah (i2*5+2) aN rfl (grV hg60) (ha.some_ hl7) rfl)) (wh0 (c0:=z35) (g:=z49) rfl rfl rfl rfl rfl (λhg61=>QV.qo (q_ld (c:=2) (v:=.slice A15 ((gt a i2).past).length c16) (hx17 hl7).2 rfl EX (grV hg61) rfl)) ?_)))
   obtain⟨z63,hz64,h⟩:=bnd h
   refine wh0 (c0:=z35) (g:=z49) rfl rfl rfl rfl rfl (λhg62=>(aH (aC call38 rfl rfl (dX (grV hg62) (grV hg62))) (λw hw=>ox (Γ:=Gh.all w) ((hx20 hl14).1.2.2.1.2.mono hw.sat.le_all) (hx20 hl14).1.2.2.1.1 ((hx17 hl7).1.2.2.1.2.mono hw.sat.le_all) (hx17 hl7).1.2.2.1.1 (Sat.all w) (bU hz64 hg62)))) (wh0 (c0:=z35) (g:=z49) rfl rfl rfl rfl rfl (λhg65=>QV.qo (bb rfl (grV hg65))) (wG1 (h:=λhg66=>eV rfl (grV hg66) (yN (c:=z35) (g:=z49) (y:=(!z63)) hg66)) (k:=zV pkA (k:=?_))))
   refine DJ ?_
   change WC _ _ _ _ _ _
   refine ciV h (λhb67 h=>?_) (λhb67 h=>?_)
   ·
    refine Dx (aV (k:=Dw ?_))
    exact DB λw hw=>rq_ r h hF hw
   refine DC (wc_ ?_)
   refine DA ?_
   refine mV (k:=sV (am rfl rfl rfl (ax hl14 hb.le)) (k:=aV (k:=?_)))
   exact Dz λw hw=>⟨hl14,(),h,slK,hw,trivial⟩
  have h:=hge12 (ige hb13)
  refine DE ?_
  change WC _ _ _ _ _ _
  refine DA ?_
  refine mV (k:=sV (am rfl rfl rfl (ax hl7 ha.le)) (k:=aV (k:=?_)))
  exact Dz λw hw=>⟨hl7,(),h,slK,hw,trivial⟩
 have h:=hge5 (ige hb6)
 refine DE ?_
 change WC _ _ _ _ _ _
 refine Dx (aV (k:=Dw ?_))
 exact DB λw hw=>rq_ r h hF hw
theorem oA{Alist:Option Addr}{clist:Nat}{list:List Rec}(hlist:Sl recT Γ Alist list)(hlistc:list.length≤clist)(hs:Sat Γ w0){r:Bool}(h:cG list=some r):CQ Tryz.prog 5 #[.slice Alist list.length clist] w0 (.bool r):=by
 refine goQ [2] func5 ntmps5 results5 hs λF hF=>?_
 refine Dx (aV (k:=Dw (Dx (aV (k:=Dw (Dy (Dx ?_)))))))
 refine mV (k:=?_)
 obtain⟨z1,hz2,h⟩:=bnd h
 refine vqV (caV call18) (λw hw=>nW (Γ:=Gh.all w) (hlist.mono hw.sat.le_all) hlistc (Sat.all w) hz2) (k:=sV bx (k:=Dw ?_))
 refine ciV h (λhb3 h=>?_) (λhb3 h=>?_)
 ·
  refine Dx (aV (k:=Dw ?_))
  exact DB λw hw=>rq_ r h hF hw
 refine DC (wc_ (Dy (Dx (aV (k:=Dw (DD ?_))))))
 refine DF h (λ(i7:Nat) (n_4:Int) σ w=>slots σ [(0,.slice Alist list.length clist),(3,ii n_4),(4,ii (i7:Int))]∧CC F Γ [] w∧I64 n_4∧True) ?_ ?_
 ·
  intro w hw
  exact⟨slK,hw,iV,trivial⟩
 rintro f6 i7 n_4 σ w hi8 hlt9 hge10 ⟨hsl,hw,hr5,-⟩
 refine slV hsl hw [] ?_; clear hw hsl
 refine Dy (Dx (mV (k:=mV (k:=sV (ab rfl Fa) (k:=sV aw (k:=Dw ?_))))))
 refine coV (λhb11=>?_) (λhb11=>?_)
 ·
  have hl12:=ilt hb11
  have h:=hlt9 hl12
  refine DC (wc_ (Dy (DD (Dx (mV (k:=mV (k:=mV (k:=?_))))))))
  refine sV (ar (i:=i7) Fa EU rfl rfl rfl hl12 (hlist.some_ hl12)) (k:=sV (ah (i7*2+1) aM rfl rfl (hlist.some_ hl12) rfl) (k:=?_))
  obtain⟨A13,c14,hx15⟩:=hlist.recT_at i7
  refine sV (q_ld (c:=1) (v:=.slice A13 ((gt list i7).vers).length c14) (hx15 hl12).2 rfl F1 rfl rfl) (k:=sV (ab rfl EY) (k:=sV bN (k:=aV (k:=Dw (Dy (Dx (mV (k:=?_))))))))
  refine mV (k:=sV (ar (i:=i7) Fa EU rfl rfl rfl hl12 (hlist.some_ hl12)) (k:=sV (bT (c:=0) (vs:=(Rec.cs A13 c14 (gt list i7))) (hx15 hl12).2 rfl EV EU rfl rfl rfl) (k:=?_)))
  obtain⟨z16,hz17,h⟩:=bnd h
  refine vqV (caV call19) (λw hw=>lU (Γ:=Gh.all w) (gt list i7) (Rec.fits_mono (hx15 hl12).1 hw.sat.le_all) (Sat.all w) hz17) (k:=sV bb (k:=mV (k:=vG0 (h:=λhg18=>moV) (k:=vG0 (h:=λhg19=>bx rfl (grV hg19)) (k:=sV pkO (k:=Dw ?_))))))
  refine ciV h (λhb20 h=>?_) (λhb20 h=>?_)
  ·
   refine Dx (aV (k:=Dw ?_))
   exact DB λw hw=>rq_ r h hF hw
  refine DC (wc_ (Dx (aV (k:=Dw (DD ?_)))))
  refine DF h (λ(i22:Nat) (s:Unit) σ w=>match s with | ()=>slots σ [(0,.slice Alist list.length clist),(3,ii (w64 (n_4+((((gt list i7).vers).length:Nat):Int)))),(4,ii (i7:Int)),(5,ii (i22:Int))]∧CC F Γ [] w∧True) ?_ ?_
  ·
   intro w hw
   exact⟨slK,hw,trivial⟩
  rintro f21 i22 ⟨⟩ σ w hi23 hlt24 hge25 ⟨hsl,hw,-⟩
  refine slV hsl hw [] ?_; clear hw hsl
  refine Dy (Dx (mV (k:=mV (k:=sV (ab rfl Fa) (k:=sV aw (k:=Dw ?_))))))
  refine coV (λhb26=>?_) (λhb26=>?_)
  ·
   have hl27:=ilt hb26
   have h:=hlt24 hl27
   refine DC (wc_ (Dy (DD (Dy ?_))))
   refine drV ?_
   refine zV moV (k:=zV moV (k:=zV (ar (i:=i7) Fa EU rfl rfl rfl hl12 (hlist.some_ hl12)) (k:=zV (ah (i7*2) b6 rfl rfl (hlist.some_ hl12) rfl) (k:=?_))))
   obtain⟨A28,c29,hx30⟩:=hlist.recT_at i7
   refine zV (q_ld (c:=0) (v:=.string (gt list i7).key) (hx30 hl12).2 rfl En rfl rfl) (k:=zV moV (k:=zV moV (k:=zV (ar (i:=i22) Fa EU rfl rfl rfl hl27 (hlist.some_ hl27)) (k:=zV (ah (i22*2) b6 rfl rfl (hlist.some_ hl27) rfl) (k:=?_)))))
   obtain⟨A31,c32,hx33⟩:=hlist.recT_at i22
   refine zV (q_ld (c:=0) (v:=.string (gt list i22).key) (hx33 hl27).2 rfl En rfl rfl) (k:=zV oj (k:=zV moV (k:=wG1 (h:=λhg34=>moV) (k:=wG1 (h:=λhg35=>moV) (k:=wG1 (h:=λhg36=>ar (i:=i7) Fa EU rfl (grV hg36) (grV hg36) hl12 (hlist.some_ hl12)) (k:=wG1 (h:=λhg37=>ah (i7*2+1) aM rfl (grV hg37) (hlist.some_ hl12) rfl) (k:=wG1 (h:=λhg38=>q_ld (c:=1) (v:=.slice A28 ((gt list i7).vers).length c29) (hx30 hl12).2 rfl F1 (grV hg38) rfl) (k:=?_))))))))
   refine wG1 (h:=λhg39=>moV) (k:=wG1 (h:=λhg40=>moV) (k:=wG1 (h:=λhg41=>ar (i:=i22) Fa EU rfl (grV hg41) (grV hg41) hl27 (hlist.some_ hl27)) (k:=wG1 (h:=λhg42=>ah (i22*2+1) aM rfl (grV hg42) (hlist.some_ hl27) rfl) (k:=wG1 (h:=λhg43=>q_ld (c:=1) (v:=.slice A31 ((gt list i22).vers).length c32) (hx33 hl27).2 rfl F1 (grV hg43) rfl) (k:=?_)))))
   obtain⟨z45,hz46,h⟩:=bnd h
   refine wC1 (h:=λhg44=>aH (aC call20 rfl rfl (dX (grV hg44) (grV hg44))) (λw hw=>mz (Γ:=Gh.all w) ((hx30 hl12).1.2.2.mono hw.sat.le_all) (hx30 hl12).1.2.1 ((hx33 hl27).1.2.2.mono hw.sat.le_all) (hx33 hl27).1.2.1 (Sat.all w) (bU hz46 hg44))) (k:=wG1 (h:=λhg47=>bb rfl (grV hg47)) (k:=zV pkA (k:=?_)))
   refine DJ ?_
   change WC _ _ _ _ _ _
   refine ciV h (λhb48 h=>?_) (λhb48 h=>?_)
   ·
    refine Dx (aV (k:=Dw ?_))
    exact DB λw hw=>rq_ r h hF hw
   refine DC (wc_ ?_)
   refine DA ?_
   refine mV (k:=sV (am rfl rfl rfl (ax hl27 hlist.le)) (k:=aV (k:=?_)))
   exact Dz λw hw=>⟨hl27,(),h,slK,hw,trivial⟩
  have h:=hge25 (ige hb26)
  refine DE ?_
  change WC _ _ _ _ _ _
  refine DA ?_
  refine mV (k:=sV (am rfl rfl rfl (ax hl12 hlist.le)) (k:=aV (k:=?_)))
  exact Dz λw hw=>⟨hl12,(w64 (n_4+((((gt list i7).vers).length:Nat):Int))),h,slK,hw,(ep _),trivial⟩
 have h:=hge10 (ige hb11)
 refine DE ?_
 change WC _ _ _ _ _ _
 refine Dx (aV (k:=Dw ?_))
 exact DB λw hw=>rq_ r h hF hw
abbrev nL(r:Rec)(U:List Rowb)(Γ:Gh)(v:Value):Prop := ∃(A0_1:Option Addr), ∃(c0_1:Nat),v = .agg #[.string r.key,.slice A0_1 r.vers.length c0_1]∧U = []∧Rec.fits Γ A0_1 c0_1 r∧True
theorem nC{B:Gh}{Ar_1:Option Addr}{cr_1:Nat}(r_:Rec)(hr_:Rec.fits B Ar_1 cr_1 r_)(hp:Pre [] Γ w0)(hpB:Pre [] B w0){r:Rec}(h:gw r_=some r):Calls Tryz.prog 9 #[.agg (Rec.cs Ar_1 cr_1 r_).toArray] w0 (Outc Γ [] w0 (nL r)):=by
 refine cH (N:=35) (rs:=[.cell 2 36]) (args:=[.agg (Rec.cs Ar_1 cr_1 r_).toArray]) func9 rfl ntmps9 results9 rfl ?_
 obtain⟨F,hF⟩:∃F:Fm,F=⟨ids [],w0,Γ⟩:=⟨_,rfl⟩
 refine DN (C:=CC F Γ []) ?_ (hF▸hp.start)
 have hB:Lent F B:=hF▸Lent.start hpB
 refine Dx ?_
 refine bxV (v:=.agg (Rec.cs Ar_1 cr_1 r_).toArray) λg1=>?_
 refine alV ET λg2=>?_
 refine Dw (Dx (sV (q_fl 0 b6) (k:=sV (ldV 1 En) (k:=sV (aA (v:=.agg #[.string r_.key,.slice none 0 0]) rfl (iy rfl) (λw=>by kernel_rfl)) (k:=?_)))))
 refine alV ET λg3=>?_
 refine stV 0 (.agg #[.string r_.key,.slice none 0 0]) #[.string r_.key,.slice none 0 0] EU (k:=Dw (Dy (Dx (aV (k:=Dw (DD ?_))))))
 refine DF h (λ(i12:Nat) (x6:List Ver) σ w => ∃(Γ4:Gh), ∃(A7:Option Addr), ∃(c8:Nat), ∃(row9:Rowb),slots σ [(1,(pq g1)),(2,(pq g2)),(3,(pq g3)),(4,ii (i12:Int))]∧CC F Γ4 [row9,[(g3,.cells #[.string r_.key,.slice A7 x6.length c8] 36 (0,0))],[(g2,.cells #[.string ByteArray.empty,.slice none 0 0] 36 (0,0))],[(g1,.cells (Rec.cs Ar_1 cr_1 r_).toArray 36 (0,0))]] w∧Gh.le Γ Γ4∧Own verT Γ4 72 row9 A7 c8 x6∧True) ?_ ?_
 ·
  intro w hw
  have hw:=hw.pad
  exact⟨Γ,none,0,[],slK,hw,gR,(Own.nil verT _ 72),trivial⟩
 rintro f11 i12 x6 σ w hi13 hlt14 hge15 ⟨Γ4,A7,c8,row9,hsl,hw,hl5,ho10,-⟩
 refine slV hsl hw [_,_,_,_] ?_; clear hw hsl
 refine Dy (Dx (mV (k:=sV (q_fl 1 aM) (k:=sV (ldV 3 F1) (k:=sV (ab rfl EY) (k:=sV aw (k:=Dw ?_)))))))
 refine coV (λhb16=>?_) (λhb16=>?_)
 ·
  have hl17:=ilt hb16
  have h:=hlt14 hl17
  refine DC (wc_ (Dy (DD (Dx (sV (q_fl 1 aM) (k:=sV (ldV 3 F1) (k:=mV (k:=?_))))))))
  refine sV (ar (i:=i12) EY EP rfl rfl rfl hl17 (hr_.2.2.some_ hl17)) (k:=?_)
  obtain⟨A18,c19,hx20⟩:=hr_.2.2.verT_at i12
  refine sV (iI (c:=0) (vs:=(Ver.cs A18 c19 (gt r_.vers i12))) (λw hw=>hB.sat hw) (hx20 hl17).2 rfl ES EP rfl rfl rfl) (k:=?_)
  refine alV EO λg21=>?_
  refine stV 0 (.agg (Ver.cs A18 c19 (gt r_.vers i12)).toArray) (Ver.cs A18 c19 (gt r_.vers i12)).toArray EP (k:=Dw (Dx (aV (k:=Dw (Dx (mV (k:=sV (q_fl 2 aN) (k:=?_))))))))
  refine sV (ldV 0 EX) (k:=?_)
  refine WR.sub (λw hw=>hw.pad) ?_
  obtain⟨hk22,h⟩:=af h
  refine l7 (T:=bW) (xs:=[]) (ys:=(gt r_.vers i12).past) lx (i:=0) rfl rfl rfl rfl (by kernel_rfl) rfl rfl (Own.nil bW Γ4 78) (DP hk22) (λw hw=>ue (Γ:=Γ4) (λw hw=>hB.sat hw) (λ_ _ h=>h) (hx20 hl17).1.2.2.1.2 hw) ?_
  intro row23 A24 c25 ho26
  refine aV (k:=Dw (Dx (mV (k:=sV (q_fl 2 aN) (k:=stV 1 (.slice A24 (gt r_.vers i12).past.length c25) (Ver.cs A24 c25 (gt r_.vers i12)).toArray EQ (k:=Dw ?_))))))
  refine DA ?_
  refine sV (q_fl 1 aM) (k:=sV (ldV 3 F1) (k:=sV (ldaV 1 (Ver.cs A24 c25 (gt r_.vers i12)) ES EP) (k:=?_)))
  have hc31:=ho26.capz
  refine seR 0 [_,_,_,_,_,_] λΓ27 hl28 hr29=>?_
  have hs30:=ho26.sl hl28 hr29
  refine bsV (Ver.cs A24 c25 (gt r_.vers i12)).toArray 72 λg32=>?_
  obtain⟨hk33,h⟩:=af h
  refine apV 3 [(gt r_.vers i12)] lv (ho10.mono hl28) (DP hk33) (λw hw=>br (i:=0) rfl (by exact⟨A24,c25,rfl,⟨(hx20 hl17).1.1,(hx20 hl17).1.2.1,⟨hc31,hs30⟩,(hx20 hl17).1.2.2.2⟩⟩) hw) ?_
  intro row34 A35 c36 ho37
  refine sV (q_fl 1 aM) (k:=stV 4 (.slice A35 (x6++[(gt r_.vers i12)]).length c36) #[.string r_.key,.slice A35 (x6++[(gt r_.vers i12)]).length c36] sizeOf34 (k:=?_))
  refine Dz ?_
  change WC _ _ _ _ _ _
  refine DA ?_
  refine mV (k:=sV (am rfl rfl rfl (ax hl17 hr_.2.2.le)) (k:=aV (k:=?_)))
  exact Dz λw hw=>⟨hl17,(x6++[(gt r_.vers i12)]),h,Γ27,A35,c36,row34,slK,(hw.on [3,3,3,3]),(hl5.trans hl28),ho37,trivial⟩
 have h:=hge15 (ige hb16)
 refine DE ?_
 change WC _ _ _ _ _ _
 refine Dx (sV (ldaV 1 [.string r_.key,.slice A7 x6.length c8] EV EU) (k:=stV 2 (.agg #[.string r_.key,.slice A7 x6.length c8]) #[.string r_.key,.slice A7 x6.length c8] EU (k:=Dw ?_)))
 refine DB ?_
 intro w hw
 have hc42:=ho10.capz
 obtain⟨Γ38,hw,hl39,hr40⟩:=hw.seal (i:=0) rfl; have hs41:=ho10.sl hl39 hr40
 cases h
 subst hF
 exact⟨[.agg #[.string r_.key,.slice A7 x6.length c8]],(dL (i:=2) (us:=[.string r_.key,.slice A7 x6.length c8]) hw rfl EV EU (by kernel_rfl) rfl dK),aI (is:=[]) (by kernel_rfl) hw rfl ⟨A7,c8,rfl,rfl,⟨hr_.1,⟨hc42,hs41⟩⟩,trivial⟩⟩
abbrev sQ(gs_:Nat)(es_:Nat×Nat)(edk0:Nat)(r:a8×a6×Int)(U:List Rowb)(Γ:Gh)(v:Value):Prop := ∃(rows_':Rowb), ∃(rowdk0':Rowb),v = .int .i64 r.2.2∧U = [rows_',rowdk0']∧a8.ob es_ Γ gs_ rows_' r.1∧a6.ob edk0 Γ es_.2 rowdk0' r.2.1∧I64 r.2.2∧True
theorem sS{B:Gh}{gs_:Nat}{es_:Nat×Nat}{rows_:Rowb}{s_:a8}(hs_:a8.ob es_ Γ gs_ rows_ s_){Alist:Option Addr}{clist:Nat}{list:List Rec}(hlist:Sl recT B Alist list)(hlistc:list.length≤clist){edk0:Nat}{rowdk0:Rowb}{dk0:a6}(hdk0:a6.ob edk0 Γ es_.2 rowdk0 dk0)(hp:Pre [rows_,rowdk0] Γ w0)(hpB:Pre [rows_,rowdk0] B w0){r:a8×a6×Int}(h:j3 s_ list dk0=some r):Calls Tryz.prog 42 #[(pq gs_),.slice Alist list.length clist] w0 (Outc Γ [rows_,rowdk0] w0 (sQ gs_ es_ edk0 r)):=by
 refine goV [4] func42 ntmps42 results42 hp λF hF=>?_
 have hB:Lent F B:=hF▸Lent.start hpB
 refine Dx (aV (k:=Dw (Dy (Dx (mV (k:=sV (ab rfl Fa) (k:=mV (k:=?_))))))))
 refine Dw (DD ?_)
 refine DF h (λ(i10:Nat) (s:a8×a6) σ w=>match s with | (o3,o6) => ∃(Γ1:Gh), ∃(row4:Rowb), ∃(row7:Rowb),slots σ [(0,(pq gs_)),(10,.slice Alist list.length clist),(11,ii (list.length:Int)),(12,ii (i10:Int))]∧CC F Γ1 [row4,row7] w∧Gh.le Γ Γ1∧a8.ob es_ Γ1 gs_ row4 o3∧a6.ob edk0 Γ1 es_.2 row7 o6∧True) ?_ ?_
 ·
  intro w hw
  exact⟨Γ,rows_,rowdk0,slK,hw,gR,hs_,hdk0,trivial⟩
 rintro f9 i10 ⟨o3,o6⟩ σ w hi11 hlt12 hge13 ⟨Γ1,row4,row7,hsl,hw,hl2,ho5,ho8,-⟩
 refine slV hsl hw [_,_] ?_; clear hw hsl
 refine Dx (sV aw (k:=Dw (Dy ?_)))
 refine coV (λhb14=>?_) (λhb14=>?_)
 ·
  have hl15:=ilt hb14
  have h:=hlt12 hl15
  refine DC (wc_ (Dy (DD (Dx (sV (ar (i:=i10) Fa EU rfl rfl rfl hl15 (hlist.some_ hl15)) (k:=?_))))))
  obtain⟨A16,c17,hx18⟩:=hlist.recT_at i10
  refine sV (iI (c:=0) (vs:=(Rec.cs A16 c17 (gt list i10))) (λw hw=>hB.sat hw) (hx18 hl15).2 rfl EV EU rfl rfl rfl) (k:=?_)
  refine alV ET λg19=>?_
  refine stV 0 (.agg (Rec.cs A16 c17 (gt list i10)).toArray) (Rec.cs A16 c17 (gt list i10)).toArray EU (k:=Dw (Dx (mV (k:=sV (q_fl 0 b6) (k:=sV (ldV 0 En) (k:=?_))))))
  obtain⟨z20,hz21,h⟩:=bnd h
  refine ecV [1] (caV call44) (λw hp=>iv ho5 ((gt list i10).key) (hx18 hl15).1.1 hp hz21) ?_
  rintro Γ22 _ _ hl23 ⟨A26,c27,rfl,rfl,hc29,hr28,_⟩
  refine cwV 19 [_,_,_] (aV (k:=Dw (Dx (mV (k:=sV (q_fl 1 aM) (k:=sV (ldV 1 F1) (k:=?_)))))))
  obtain⟨z30,hz31,h⟩:=bnd h
  refine eu (is:=[]) hB rfl rfl (caV call78) rfl (λw Θ hp hpB hle hleB hR=>mD (hr28.mono hle) hc29 ((hx18 hl15).1.2.2.mono hleB) (hx18 hl15).1.2.1 hp hpB hz31) ?_
  rintro Γ32 _ _ hl33 ⟨A36,c37,row38,rfl,rfl,hr39,hr40,_⟩
  refine cwV 24 [_,_,_,_] (mV (k:=sV exV (k:=sV exV (k:=aV (k:=aV (k:=Dw ?_))))))
  refine DL (λσ w => ∃(e_43:Int), ∃(o45:a8), ∃(o48:a6), ∃(Γ41:Gh), ∃(row46:Rowb), ∃(row49:Rowb),gE f9 e_43 o45 o48=some r∧slots σ [(0,(pq gs_)),(9,ii e_43),(10,.slice Alist list.length clist),(11,ii (list.length:Int)),(12,ii (i10:Int))]∧CC F Γ41 [row46,row49] w∧Gh.le Γ32 Γ41∧I64 e_43∧a8.ob es_ Γ41 gs_ row46 o45∧a6.ob edk0 Γ41 es_.2 row49 o48∧True) ?_ ?_
  ·
   refine Dx (mV (k:=sV cW (k:=mV (k:=vG1 (h:=λhg51=>moV) (k:=vG1 (h:=λhg52=>moV) (k:=?_))))))
   obtain⟨z54,hz55,h⟩:=bnd h
   refine vC1 (h:=λhg53=>aH (aC call79 rfl rfl (dX (grV hg53) (grV hg53))) (λw hw=>mh (Γ:=Gh.all w) (hr39.sl hw.sat.le_all (hw.ra 0 rfl)) hr39.capz ((hr28.mono hl33).mono hw.sat.le_all) hc29 (Sat.all w) (bU hz55 hg53))) (k:=vG1 (h:=λhg56=>bb rfl (grV hg56)) (k:=sV pkA (k:=Dw ?_)))
   refine ciV h (λhb57 h=>?_) (λhb57 h=>?_)
   ·
    refine DA ?_
    refine mV (k:=sV (q_fl 0 b6) (k:=sV (ldV 2 En) (k:=mV (k:=sV (aA (v:=.agg #[.string (gt list i10).key,.slice A36 z30.1.length c37]) rfl (dJ rfl rfl) (λw=>by kernel_rfl)) (k:=?_)))))
    have hc62:=hr39.capz
    refine seR 0 [_,_,_,_] λΓ58 hl59 hr60=>?_
    have hs61:=hr39.sl hl59 hr60
    obtain⟨z63,hz64,h⟩:=bnd h
    refine eu (is:=[1,2]) hB rfl rfl (caV call46) rfl (λw Θ hp hpB hle hleB hR=>jz (ho5.mono ((hl23.trans hl33).trans hl59)) (⟨(gt list i10).key,z30.1⟩:Rec) (Rec.fits_mono ⟨(hx18 hl15).1.1,⟨hc62,hs61⟩⟩ hle) (ho8.mono ((hl23.trans hl33).trans hl59)) hp hpB hz64) ?_
    rintro Γ65 _ _ hl66 ⟨row69,row71,rfl,rfl,hr70,hr72,hr73,_⟩
    refine cwV 40 [_,_,_,_] (aV (k:=?_))
    exact Dz λw hw=>⟨z63.2.2,z63.1,z63.2.1,Γ65,row69,row71,h,slK,(hw.on [0,0]),(hl59.trans hl66),hr73,hr70,hr72,trivial⟩
   exact DC λw hw=>⟨z30.2,o3,o6,Γ32,row4,row7,h,slK,(hw.on [1,2]),gR,hr40,(ho5.mono (hl23.trans hl33)),(ho8.mono (hl23.trans hl33)),trivial⟩
  rintro σ w ⟨e_43,o45,o48,Γ41,row46,row49,h,hsl,hw,hl42,hr44,ho47,ho50,-⟩
  refine slV hsl hw [_,_] ?_; clear hw hsl
  refine Dx (mV (k:=sV bj (k:=Dw ?_)))
  refine ciV h (λhb74 h=>?_) (λhb74 h=>?_)
  ·
   refine Dx (mV (k:=aV (k:=Dw ?_)))
   exact DB λw hw=>re_ r [0,0] h hF hw ⟨row46,row49,rfl,rfl,ho47,ho50,hr44,trivial⟩
  refine DC (wc_ ?_)
  refine DA ?_
  refine sV (am rfl rfl rfl (ax hl15 hlist.le)) (k:=mV (k:=?_))
  exact Dz λw hw=>⟨hl15,(o45,o48),h,Γ41,row46,row49,slK,hw,(((hl2.trans hl23).trans hl33).trans hl42),ho47,ho50,trivial⟩
 have h:=hge13 (ige hb14)
 refine DE ?_
 change WC _ _ _ _ _ _
 refine Dx (aV (k:=Dw ?_))
 exact DB λw hw=>re_ r [0,0] h hF hw ⟨row4,row7,rfl,rfl,ho5,ho8,iV,trivial⟩
abbrev lX(Bo:Gh)(gs_:Nat)(es_:Nat×Nat)(rows_:Rowb)(r:List ByteArray)(U:List Rowb)(Γ:Gh)(v:Value):Prop := ∃(A0:Option Addr), ∃(c0:Nat), ∃(row0:Rowb),v = .slice A0 r.length c0∧U = [rows_,row0]∧Own strT Γ 9 row0 A0 c0 r∧True
theorem lW{Bo:Gh}{gs_:Nat}{es_:Nat×Nat}{rows_:Rowb}{s_:a8}(hs_:a8.ob es_ Bo gs_ rows_ s_)(hp:Pre [rows_] Γ w0)(hpO:Pre [rows_] Bo w0){r:List ByteArray}(h:ft s_=some r):Calls Tryz.prog 60 #[(pq gs_)] w0 (Outc Γ [rows_] w0 (lX Bo gs_ es_ rows_ r)):=by
 refine goV [2] func60 ntmps60 results60 hp λF hF=>?_
 have hO:Lent F Bo:=hF▸Lent.start hpO
 refine Dx (aV (k:=Dw (Dx (mV (k:=sV nlV (k:=sV (q_fl 1 jy) (k:=?_)))))))
 obtain⟨g0_1,r0_1,m1_1,r1_1,hrow_1,ho0_1,ho1_1,-⟩:=id hs_
 refine ufR 0 hrow_1 [_,_,_] ?_
 refine sV (ldV 0 F3) (k:=?_)
 refine wi (ρ:=ly) vR (mb:=some m1_1) rfl rfl (caV call98) ?_
 intro g2
 refine cwV 7 [_,_,_,_] ?_
 obtain⟨hk3,h⟩:=af h
 refine ecV [0,2] (caV call92) (λw hp=>wN ho1_1.atV (DP hk3) hp) ?_
 rintro Γ4 _ _ hl5 ⟨A8,c9,row10,rfl,rfl,ho11⟩
 refine cwV 8 [_,_,_,_,_] (aV (k:=Dw ?_))
 refine DB ?_
 intro w hw
 have hw:=hw.fold (is:=[3,3,1]) rfl hrow_1
 exact re_ r [0,1] h hF hw ⟨A8,c9,row10,rfl,rfl,ho11,trivial⟩
abbrev md(Bo:Gh)(gs_:Nat)(es_:Nat×Nat)(rows_:Rowb)(r:List Rec)(U:List Rowb)(Γ:Gh)(v:Value):Prop := ∃(A0:Option Addr), ∃(c0:Nat), ∃(row0:Rowb),v = .slice A0 r.length c0∧U = [rows_,row0]∧Own recT Γ 36 row0 A0 c0 r∧True
theorem m9{Bo:Gh}{gs_:Nat}{es_:Nat×Nat}{rows_:Rowb}{s_:a8}(hs_:a8.ob es_ Bo gs_ rows_ s_)(hp:Pre [rows_] Γ w0)(hpO:Pre [rows_] Bo w0){r:List Rec}(h:bP s_=some r):Calls Tryz.prog 32 #[(pq gs_)] w0 (Outc Γ [rows_] w0 (md Bo gs_ es_ rows_ r)):=by
 refine goV [2] func32 ntmps32 results32 hp λF hF=>?_
 have hO:Lent F Bo:=hF▸Lent.start hpO
 refine Dx (aV (k:=Dw (Dx (aV (k:=Dw (Dy (Dx ?_)))))))
 refine mV (k:=?_)
 obtain⟨z1,hz2,h⟩:=bnd h
 refine cw (is:=[0]) rfl rfl (caV call60) rfl (λw hw hp=>lW hs_ hp (hO.pre (is:=[0]) hw rfl) hz2) ?_
 rintro Γ3 _ _ hl4 ⟨A7,c8,row9,rfl,rfl,hr10,_⟩
 refine cwV 7 [_,_] (sV (ab rfl EE) (k:=mV (k:=Dw (DD ?_))))
 refine DF h (λ(i19:Nat) (out_13:List Rec) σ w => ∃(Γ11:Gh), ∃(A14:Option Addr), ∃(c15:Nat), ∃(row16:Rowb),slots σ [(0,(pq gs_)),(3,.slice A14 out_13.length c15),(7,.slice A7 z1.length c8),(8,ii (z1.length:Int)),(9,ii (i19:Int))]∧CC F Γ11 [row16,rows_,row9] w∧Gh.le Γ3 Γ11∧Own recT Γ11 36 row16 A14 c15 out_13∧True) ?_ ?_
 ·
  intro w hw
  have hw:=hw.pad
  exact⟨Γ3,none,0,[],slK,hw,gR,(Own.nil recT _ 36),trivial⟩
 rintro f18 i19 out_13 σ w hi20 hlt21 hge22 ⟨Γ11,A14,c15,row16,hsl,hw,hl12,ho17,-⟩
 refine slV hsl hw [_,_,_] ?_; clear hw hsl
 refine Dx (sV aw (k:=Dw (Dy ?_)))
 refine coV (λhb23=>?_) (λhb23=>?_)
 ·
  have hl24:=ilt hb23
  have h:=hlt21 hl24
  refine DC (wc_ (Dy (DD (Dx (sV (ar (i:=i19) EE EF rfl rfl rfl hl24 ((hr10.mono hl12).some_ hl24)) (k:=sV (nR (c:=0) (v:=.string (gt z1 i19)) (i:=2) rfl ((hr10.mono hl12).strT_at hl24).2 rfl En rfl rfl) (k:=aV (k:=?_))))))))
  refine Dw ?_
  refine DA ?_
  refine mV (k:=mV (k:=mV (k:=mV (k:=?_))))
  obtain⟨z25,hz26,h⟩:=bnd h
  refine eu (is:=[]) hO rfl rfl (caV call44) rfl (λw Θ hp hpB hle hleB hR=>jt (hs_.mono hleB) (λp hp=>hR _ (List.mem_of_getElem? (i:=1) rfl) p hp) (gt z1 i19) ((hr10.mono hl12).strT_at hl24).1 hp hpB hz26) ?_
  rintro Γ27 _ _ hl28 ⟨A31,c32,rfl,rfl,hc34,hr33,_⟩
  refine cwV 17 [_,_,_] (sV (aA (v:=.agg #[.string (gt z1 i19),.slice A31 z25.length c32]) rfl (dJ rfl rfl) (λw=>by kernel_rfl)) (k:=?_))
  refine bsV #[.string (gt z1 i19),.slice A31 z25.length c32] 36 λg35=>?_
  obtain⟨hk36,h⟩:=af h
  refine apV 1 [(⟨(gt z1 i19),z25⟩:Rec)] lI (ho17.mono hl28) (DP hk36) (λw hw=>br (i:=0) rfl (by exact⟨A31,c32,rfl,⟨((hr10.mono (hl12.trans hl28)).strT_at hl24).1,⟨hc34,hr33⟩⟩⟩) hw) ?_
  intro row37 A38 c39 ho40
  refine aV (k:=?_)
  refine Dz ?_
  change WC _ _ _ _ _ _
  refine DA ?_
  refine sV (am rfl rfl rfl (ax hl24 (hr10.mono hl12).le)) (k:=mV (k:=?_))
  exact Dz λw hw=>⟨hl24,(out_13++[(⟨(gt z1 i19),z25⟩:Rec)]),h,Γ27,A38,c39,row37,slK,(hw.on [1,1,1]),(hl12.trans hl28),ho40,trivial⟩
 have h:=hge22 (ige hb23)
 refine DE ?_
 change WC _ _ _ _ _ _
 refine Dx (mV (k:=aV (k:=Dw ?_)))
 exact DB λw hw=>re_ r [1,0] h hF hw ⟨A14,c15,row16,rfl,rfl,ho17,trivial⟩
abbrev nH(Bo:Gh)(gn:Nat)(en:Nat×Nat)(rown:Rowb)(r:List Rec)(U:List Rowb)(Γ:Gh)(v:Value):Prop := ∃(A0:Option Addr), ∃(c0:Nat), ∃(row0:Rowb),v = .slice A0 r.length c0∧U = [rown,row0]∧Own recT Γ 36 row0 A0 c0 r∧True
theorem cq{Bo:Gh}{gn:Nat}{en:Nat×Nat}{rown:Rowb}{n:aa}(hn:aa.ob en Bo gn rown n)(p_:Int)(hp_:I64 p_)(hp:Pre [rown] Γ w0)(hpO:Pre [rown] Bo w0){r:List Rec}(h:aL n p_=some r):Calls Tryz.prog 12 #[(pq gn),ii p_] w0 (Outc Γ [rown] w0 (nH Bo gn en rown r)):=by
 refine goV [4] func12 ntmps12 results12 hp λF hF=>?_
 have hO:Lent F Bo:=hF▸Lent.start hpO
 refine Dx (aV (k:=Dw (Dx (aV (k:=Dw (Dy (Dx ?_)))))))
 refine mV (k:=sV nlV (k:=sV (q_fl 4 p7) (k:=?_)))
 obtain⟨g4_1,r4_1,m5_1,r5_1,m6_1,r6_1,hrow_1,ho0_1,ho1_1,ho2_1,ho3_1,ho4_1,ho5_1,-⟩:=id hn
 refine ufR 0 hrow_1 [_,_,_,_] ?_
 refine sV (ldV 0 isAgg54) (k:=?_)
 obtain⟨z2,hz3,h⟩:=bnd h
 refine cw (is:=[1]) rfl rfl (caV call32) rfl (λw hw hp=>m9 ho3_1 hp (hO.pre (is:=[1]) hw rfl) hz3) ?_
 rintro Γ4 _ _ hl5 ⟨A8,c9,row10,rfl,rfl,hr11,_⟩
 refine cwV 12 [_,_,_,_,_] (sV (ab rfl Fa) (k:=mV (k:=Dw (DD ?_))))
 refine foC [2,0,1,1] hrow_1 [_,_] ?_
 refine DF h (λ(i19:Nat) (out_13:List Rec) σ w => ∃(A14:Option Addr), ∃(c15:Nat), ∃(row16:Rowb),slots σ [(1,ii p_),(5,.slice A14 out_13.length c15),(12,.slice A8 z2.length c9),(13,ii (z2.length:Int)),(14,ii (i19:Int))]∧CC F Γ4 [row16,rown,row10] w∧Own recT Γ4 36 row16 A14 c15 out_13∧True) ?_ ?_
 ·
  intro w hw
  have hw:=hw.pad
  exact⟨none,0,[],slK,hw,(Own.nil recT _ 36),trivial⟩
 rintro f18 i19 out_13 σ w hi20 hlt21 hge22 ⟨A14,c15,row16,hsl,hw,ho17,-⟩
 refine slV hsl hw [_,_,_] ?_; clear hw hsl
 refine Dx (sV aw (k:=Dw (Dy ?_)))
 refine coV (λhb23=>?_) (λhb23=>?_)
 ·
  have hl24:=ilt hb23
  have h:=hlt21 hl24
  refine DC (wc_ ?_)
  refine DL (λσ w => ∃(out_25:List Rec), ∃(A26:Option Addr), ∃(c27:Nat), ∃(row28:Rowb),d7 f18 out_25=some r∧slots σ [(1,ii p_),(5,.slice A26 out_25.length c27),(12,.slice A8 z2.length c9),(13,ii (z2.length:Int)),(14,ii (i19:Int))]∧CC F Γ4 [row28,rown,row10] w∧Own recT Γ4 36 row28 A26 c27 out_25∧True) ?_ ?_
  ·
   refine DD (Dx (sV (ar (i:=i19) Fa EU rfl rfl rfl hl24 (hr11.some_ hl24)) (k:=?_)))
   obtain⟨A30,c31,hx32⟩:=hr11.recT_at i19
   refine sV (u7 (c:=0) (vs:=(Rec.cs A30 c31 (gt z2 i19))) (i:=2) rfl (hx32 hl24).2 rfl EV EU rfl rfl) (k:=?_)
   refine alV ET λg33=>?_
   refine stV 0 (.agg (Rec.cs A30 c31 (gt z2 i19)).toArray) (Rec.cs A30 c31 (gt z2 i19)).toArray EU (k:=Dw (Dx (mV (k:=sV aw (k:=mV (k:=vG0 (h:=λhg34=>q_fl 0 b6) (k:=vG0 (h:=λhg35=>ldV 0 En (hx:=grV hg35)) (k:=?_))))))))
   obtain⟨z37,hz38,h⟩:=bnd h
   refine vC0 (h:=λhg36=>aH (aC call33 rfl rfl (kC (grV hg36))) (λw hw=>qu (Γ:=Gh.all w) ((gt z2 i19).key) (hx32 hl24).1.1 (Sat.all w) (bU hz38 hg36))) (k:=vG0 (h:=λhg39=>moV) (k:=vG0 (h:=λhg40=>cW rfl (grV hg40) (grV hg40)) (k:=sV pkO (k:=Dw ?_))))
   refine ciV h (λhb41 h=>?_) (λhb41 h=>?_)
   ·
    refine DA ?_
    refine mV (k:=sV (ldaV 0 (Rec.cs A30 c31 (gt z2 i19)) EV EU) (k:=?_))
    refine bsV (Rec.cs A30 c31 (gt z2 i19)).toArray 36 λg42=>?_
    obtain⟨hk43,h⟩:=af h
    refine apV 2 [(gt z2 i19)] lI ho17 (DP hk43) (λw hw=>br (i:=0) rfl (by exact⟨A30,c31,rfl,(hx32 hl24).1⟩) hw) ?_
    intro row44 A45 c46 ho47
    refine aV (k:=?_)
    exact Dz λw hw=>⟨(out_13++[(gt z2 i19)]),A45,c46,row44,h,slK,(hw.on [2,2,2]),ho47,trivial⟩
   exact DC λw hw=>⟨out_13,A14,c15,row16,h,slK,(hw.on [1,1,1]),ho17,trivial⟩
  rintro σ w ⟨out_25,A26,c27,row28,h,hsl,hw,ho29,-⟩
  refine slV hsl hw [_,_,_] ?_; clear hw hsl
  refine DA ?_
  refine sV (am rfl rfl rfl (ax hl24 hr11.le)) (k:=mV (k:=?_))
  exact Dz λw hw=>⟨hl24,out_25,h,A26,c27,row28,slK,hw,ho29,trivial⟩
 have h:=hge22 (ige hb23)
 refine DE ?_
 change WC _ _ _ _ _ _
 refine Dx (mV (k:=aV (k:=Dw ?_)))
 exact DB λw hw=>re_ r [1,0] h hF hw ⟨A14,c15,row16,rfl,rfl,ho17,trivial⟩
theorem px{Aa:Option Addr}{ca:Nat}{a:List Ver}(ha:Sl verT Γ Aa a)(hac:a.length≤ca){Ab:Option Addr}{cb:Nat}{b:List Ver}(hb:Sl verT Γ Ab b)(hbc:b.length≤cb)(hs:Sat Γ w0){r:Bool}(h:fO a b=some r):CQ Tryz.prog 34 #[.slice Aa a.length ca,.slice Ab b.length cb] w0 (.bool r):=by
 refine goQ [4] func34 ntmps34 results34 hs λF hF=>?_
 refine Dx (aV (k:=Dw (Dy (Dx (mV (k:=sV (ab rfl EY) (k:=mV (k:=?_))))))))
 refine sV (ab rfl EY) (k:=sV bj (k:=Dw ?_))
 refine ciV h (λhb1 h=>?_) (λhb1 h=>?_)
 ·
  refine Dx (aV (k:=Dw ?_))
  exact DB λw hw=>rq_ r h hF hw
 refine DC (wc_ (Dy (Dx (aV (k:=Dw (DD ?_))))))
 refine DF h (λ(i3:Nat) (s:Unit) σ w=>match s with | ()=>slots σ [(0,.slice Aa a.length ca),(1,.slice Ab b.length cb),(5,ii (i3:Int))]∧CC F Γ [] w∧True) ?_ ?_
 ·
  intro w hw
  exact⟨slK,hw,trivial⟩
 rintro f2 i3 ⟨⟩ σ w hi4 hlt5 hge6 ⟨hsl,hw,-⟩
 refine slV hsl hw [] ?_; clear hw hsl
 refine Dy (Dx (mV (k:=mV (k:=sV (ab rfl EY) (k:=sV aw (k:=Dw ?_))))))
 refine coV (λhb7=>?_) (λhb7=>?_)
 ·
  have hl8:=ilt hb7
  have h:=hlt5 hl8
  refine DC (wc_ (Dy (DD (Dy ?_))))
  refine drV ?_
  refine zV moV (k:=zV moV (k:=zV (ar (i:=i3) EY EP rfl rfl rfl hl8 (ha.some_ hl8)) (k:=?_)))
  obtain⟨A9,c10,hx11⟩:=ha.verT_at i3
  refine zV (bT (c:=0) (vs:=(Ver.cs A9 c10 (gt a i3))) (hx11 hl8).2 rfl ES EP rfl rfl rfl) (k:=zV moV (k:=zV moV (k:=?_)))
  obtain⟨hk12,h⟩:=af h
  refine zV (ar (i:=i3) EY EP rfl rfl rfl (DP hk12) (hb.some_ (DP hk12))) (k:=?_)
  obtain⟨A13,c14,hx15⟩:=hb.verT_at i3
  refine zV (bT (c:=0) (vs:=(Ver.cs A13 c14 (gt b i3))) (hx15 (DP hk12)).2 rfl ES EP rfl rfl rfl) (k:=?_)
  obtain⟨z16,hz17,h⟩:=bnd h
  refine wc rfl rfl rfl (aH (caV call36) (λw hw=>jA (Γ:=Gh.all w) (gt a i3) (Ver.fits_mono (hx11 hl8).1 hw.sat.le_all) (gt b i3) (Ver.fits_mono (hx15 (DP hk12)).1 hw.sat.le_all) (Sat.all w) hz17)) (zV bb (k:=?_))
  refine DJ ?_
  change WC _ _ _ _ _ _
  refine ciV h (λhb18 h=>?_) (λhb18 h=>?_)
  ·
   refine Dx (aV (k:=Dw ?_))
   exact DB λw hw=>rq_ r h hF hw
  refine DC (wc_ ?_)
  refine DA ?_
  refine mV (k:=sV (am rfl rfl rfl (ax hl8 ha.le)) (k:=aV (k:=?_)))
  exact Dz λw hw=>⟨hl8,(),h,slK,hw,trivial⟩
 have h:=hge6 (ige hb7)
 refine DE ?_
 change WC _ _ _ _ _ _
 refine Dx (aV (k:=Dw ?_))
 exact DB λw hw=>rq_ r h hF hw
theorem dB{Aa:Option Addr}{ca:Nat}{a:List Rec}(ha:Sl recT Γ Aa a)(hac:a.length≤ca){Ab:Option Addr}{cb:Nat}{b:List Rec}(hb:Sl recT Γ Ab b)(hbc:b.length≤cb)(hs:Sat Γ w0){r:Bool}(h:aQ a b=some r):CQ Tryz.prog 13 #[.slice Aa a.length ca,.slice Ab b.length cb] w0 (.bool r):=by
 refine goQ [4] func13 ntmps13 results13 hs λF hF=>?_
 refine Dx (aV (k:=Dw (Dy (Dx (mV (k:=sV (ab rfl Fa) (k:=mV (k:=?_))))))))
 refine sV (ab rfl Fa) (k:=sV bj (k:=Dw ?_))
 refine ciV h (λhb1 h=>?_) (λhb1 h=>?_)
 ·
  refine Dx (aV (k:=Dw ?_))
  exact DB λw hw=>rq_ r h hF hw
 refine DC (wc_ (Dy (Dx (aV (k:=Dw (DD ?_))))))
 refine DF h (λ(i3:Nat) (s:Unit) σ w=>match s with | ()=>slots σ [(0,.slice Aa a.length ca),(1,.slice Ab b.length cb),(5,ii (i3:Int))]∧CC F Γ [] w∧True) ?_ ?_
 ·
  intro w hw
  exact⟨slK,hw,trivial⟩
 rintro f2 i3 ⟨⟩ σ w hi4 hlt5 hge6 ⟨hsl,hw,-⟩
 refine slV hsl hw [] ?_; clear hw hsl
 refine Dy (Dx (mV (k:=mV (k:=sV (ab rfl Fa) (k:=sV aw (k:=Dw ?_))))))
 refine coV (λhb7=>?_) (λhb7=>?_)
 ·
  have hl8:=ilt hb7
  have h:=hlt5 hl8
  refine DC (wc_ (Dy (DD (Dy ?_))))
  refine drV ?_
  refine zV moV (k:=zV moV (k:=zV (ar (i:=i3) Fa EU rfl rfl rfl hl8 (ha.some_ hl8)) (k:=zV (ah (i3*2) b6 rfl rfl (ha.some_ hl8) rfl) (k:=?_))))
  obtain⟨A9,c10,hx11⟩:=ha.recT_at i3
  refine zV (q_ld (c:=0) (v:=.string (gt a i3).key) (hx11 hl8).2 rfl En rfl rfl) (k:=zV moV (k:=zV moV (k:=?_)))
  obtain⟨hk12,h⟩:=af h
  refine zV (ar (i:=i3) Fa EU rfl rfl rfl (DP hk12) (hb.some_ (DP hk12))) (k:=zV (ah (i3*2) b6 rfl rfl (hb.some_ (DP hk12)) rfl) (k:=?_))
  obtain⟨A13,c14,hx15⟩:=hb.recT_at i3
  refine zV (q_ld (c:=0) (v:=.string (gt b i3).key) (hx15 (DP hk12)).2 rfl En rfl rfl) (k:=zV vX (k:=zV moV (k:=wG0 (h:=λhg16=>moV) (k:=wG0 (h:=λhg17=>moV) (k:=wG0 (h:=λhg18=>ar (i:=i3) Fa EU rfl (grV hg18) (grV hg18) hl8 (ha.some_ hl8)) (k:=wG0 (h:=λhg19=>ah (i3*2+1) aM rfl (grV hg19) (ha.some_ hl8) rfl) (k:=wG0 (h:=λhg20=>q_ld (c:=1) (v:=.slice A9 ((gt a i3).vers).length c10) (hx11 hl8).2 rfl F1 (grV hg20) rfl) (k:=?_))))))))
  refine wG0 (h:=λhg21=>moV) (k:=wG0 (h:=λhg22=>moV) (k:=wG0 (h:=λhg23=>ar (i:=i3) Fa EU rfl (grV hg23) (grV hg23) (DP hk12) (hb.some_ (DP hk12))) (k:=wG0 (h:=λhg24=>ah (i3*2+1) aM rfl (grV hg24) (hb.some_ (DP hk12)) rfl) (k:=wG0 (h:=λhg25=>q_ld (c:=1) (v:=.slice A13 ((gt b i3).vers).length c14) (hx15 (DP hk12)).2 rfl F1 (grV hg25) rfl) (k:=?_)))))
  obtain⟨z27,hz28,h⟩:=bnd h
  refine wC0 (h:=λhg26=>aH (aC call34 rfl rfl (dX (grV hg26) (grV hg26))) (λw hw=>px (Γ:=Gh.all w) ((hx11 hl8).1.2.2.mono hw.sat.le_all) (hx11 hl8).1.2.1 ((hx15 (DP hk12)).1.2.2.mono hw.sat.le_all) (hx15 (DP hk12)).1.2.1 (Sat.all w) (bU hz28 hg26))) (k:=wG0 (h:=λhg29=>bb rfl (grV hg29)) (k:=zV pkO (k:=?_)))
  refine DJ ?_
  change WC _ _ _ _ _ _
  refine ciV h (λhb30 h=>?_) (λhb30 h=>?_)
  ·
   refine Dx (aV (k:=Dw ?_))
   exact DB λw hw=>rq_ r h hF hw
  refine DC (wc_ ?_)
  refine DA ?_
  refine mV (k:=sV (am rfl rfl rfl (ax hl8 ha.le)) (k:=aV (k:=?_)))
  exact Dz λw hw=>⟨hl8,(),h,slK,hw,trivial⟩
 have h:=hge6 (ige hb7)
 refine DE ?_
 change WC _ _ _ _ _ _
 refine Dx (aV (k:=Dw ?_))
 exact DB λw hw=>rq_ r h hF hw
abbrev oi(r:Unit)(U:List Rowb)(Γ:Gh)(v:Value):Prop := ∃(Jl':Rowb),v = .tuple #[]∧U = [Jl']∧True
theorem cD{Al:Option Addr}{cl:Nat}{Jl:Rowb}{l:List Rec}(hln:(Jl.map (·.1)).Nodup)(hl:Sl recT (ghr Jl) Al l)(hlc:l.length≤cl)(hp:Pre [Jl] Γ w0){r:Unit}(h:aP l=some r):Calls Tryz.prog 14 #[.slice Al l.length cl] w0 (Outc Γ [Jl] w0 (oi r)):=by
 refine goV [] func14 ntmps14 results14 hp λF hF=>?_
 refine Dx (aV (k:=Dw (DD ?_)))
 refine WC.loopJ (l.length) (λ(i1:Nat) σ w => ∃(J2:Rowb) (ys4:List Rec),(J2.map (·.1)).Nodup∧Sl recT (ghr J2) Al ys4∧shL Rec.sh ys4=shL Rec.sh l∧slots σ [(0,.slice Al l.length cl),(2,ii (i1:Int))]∧CC F Γ [J2] w) ?_ ?_
 ·
  intro w hw; exact⟨Jl,l,hln,hl,rfl,slK,hw⟩
 rintro i1 σ w ⟨J2,ys4,hn3,hj5,hs6,hsl,hw⟩
 have hq7:=j4 hs6
 refine slV hsl hw [_] ?_; clear hw hsl
 refine Dy (Dx (mV (k:=mV (k:=sV (ab rfl Fa) (k:=sV aw (k:=Dw ?_))))))
 refine coV (λhb8=>?_) (λhb8=>?_)
 ·
  have hl9:=ilt hb8
  have hq10:=jlt hs6 (ltq hl9 hq7.symm)
  refine DC (wc_ (Dy (DD (Dx (aV (k:=Dw (DD ?_)))))))
  refine WC.loopJ (((gt ys4 i1).vers).length) (λ(i11:Nat) σ w => ∃(J12:Rowb) (ys14:List Rec),(J12.map (·.1)).Nodup∧Sl recT (ghr J12) Al ys14∧shL Rec.sh ys14=shL Rec.sh l∧slots σ [(0,.slice Al l.length cl),(2,ii (i1:Int)),(3,ii (i11:Int))]∧CC F Γ [J12] w) ?_ ?_
  ·
   intro w hw; exact⟨J2,ys4,hn3,hj5,hs6,slK,hw⟩
  rintro i11 σ w ⟨J12,ys14,hn13,hj15,hs16,hsl,hw⟩
  have hq17:=j4 hs16
  refine slV hsl hw [_] ?_; clear hw hsl
  refine Dy (Dx (mV (k:=mV (k:=mV (k:=sV (ar (i:=i1) Fa EU rfl rfl rfl hl9 (hj15.some_ (ltq hl9 hq17.symm))) (k:=sV (ah (i1*2+1) aM rfl rfl (hj15.some_ (ltq hl9 hq17.symm)) rfl) (k:=?_)))))))
  obtain⟨A18,c19,hx20⟩:=hj15.recT_at i1
  refine sV (tO (c:=1) (v:=.slice A18 ((gt ys14 i1).vers).length c19) (satJ (i:=0) rfl hn13) (hx20 (ltq hl9 hq17.symm)).2 rfl F1 rfl rfl) (k:=sV (ab rfl EY) (k:=sV aw (k:=Dw ?_)))
  refine coV (λhb21=>?_) (λhb21=>?_)
  ·
   have hl22:=ilt hb21
   have hq23:=jlt (iE hs16 hq10) hl22
   refine DC (wc_ (Dy (DD (Dy (Dx (aV (k:=Dw ?_)))))))
   refine DD ?_
   refine WC.loopJ (((gt ((gt ys14 i1).vers) i11).past).length) (λ(i24:Nat) σ w => ∃(J25:Rowb) (ys27:List Rec),(J25.map (·.1)).Nodup∧Sl recT (ghr J25) Al ys27∧shL Rec.sh ys27=shL Rec.sh l∧slots σ [(0,.slice Al l.length cl),(2,ii (i1:Int)),(3,ii (i11:Int)),(4,ii (i24:Int))]∧CC F Γ [J25] w) ?_ ?_
   ·
    intro w hw; exact⟨J12,ys14,hn13,hj15,hs16,slK,hw⟩
   rintro i24 σ w ⟨J25,ys27,hn26,hj28,hs29,hsl,hw⟩
   have hq30:=j4 hs29
   refine slV hsl hw [_] ?_; clear hw hsl
   have hlt31:=jtl (iE hs29 hq10) hq23
   refine Dy (Dx (mV (k:=mV (k:=mV (k:=sV (ar (i:=i1) Fa EU rfl rfl rfl hl9 (hj28.some_ (ltq hl9 hq30.symm))) (k:=sV (ah (i1*2+1) aM rfl rfl (hj28.some_ (ltq hl9 hq30.symm)) rfl) (k:=?_)))))))
   obtain⟨A32,c33,hx34⟩:=hj28.recT_at i1
   refine sV (tO (c:=1) (v:=.slice A32 ((gt ys27 i1).vers).length c33) (satJ (i:=0) rfl hn26) (hx34 (ltq hl9 hq30.symm)).2 rfl F1 rfl rfl) (k:=mV (k:=sV (ar (i:=i11) EY EP rfl rfl rfl hlt31 ((hx34 (ltq hl9 hq30.symm)).1.2.2.some_ hlt31)) (k:=sV (ah (i11*5+2) aN rfl rfl ((hx34 (ltq hl9 hq30.symm)).1.2.2.some_ hlt31) rfl) (k:=?_))))
   obtain⟨A35,c36,hx37⟩:=(hx34 (ltq hl9 hq30.symm)).1.2.2.verT_at i11
   refine sV (tO (c:=2) (v:=.slice A35 ((gt ((gt ys27 i1).vers) i11).past).length c36) (satJ (i:=0) rfl hn26) (hx37 hlt31).2 rfl EX rfl rfl) (k:=sV (ab rfl EW) (k:=sV aw (k:=Dw ?_)))
   refine coV (λhb38=>?_) (λhb38=>?_)
   ·
    have hl39:=ilt hb38
    have hq40:=jlt (iE (iE hs29 hq10) hq23) hl39
    refine DC (wc_ (Dy (DD ?_)))
    refine DA ?_
    refine mV (k:=mV (k:=sV (ar (i:=i1) Fa EU rfl rfl rfl hl9 (hj28.some_ (ltq hl9 hq30.symm))) (k:=sV (ah (i1*2+1) aM rfl rfl (hj28.some_ (ltq hl9 hq30.symm)) rfl) (k:=sV (tO (c:=1) (v:=.slice A32 ((gt ys27 i1).vers).length c33) (satJ (i:=0) rfl hn26) (hx34 (ltq hl9 hq30.symm)).2 rfl F1 rfl rfl) (k:=mV (k:=sV (ar (i:=i11) EY EP rfl rfl rfl hlt31 ((hx34 (ltq hl9 hq30.symm)).1.2.2.some_ hlt31)) (k:=sV (ah (i11*5+2) aN rfl rfl ((hx34 (ltq hl9 hq30.symm)).1.2.2.some_ hlt31) rfl) (k:=?_))))))))
    obtain⟨A41,c42,hx43⟩:=(hx34 (ltq hl9 hq30.symm)).1.2.2.verT_at i11
    refine sV (tO (c:=2) (v:=.slice A41 ((gt ((gt ys27 i1).vers) i11).past).length c42) (satJ (i:=0) rfl hn26) (hx43 hlt31).2 rfl EX rfl rfl) (k:=mV (k:=sV (ar (i:=i24) EW EM rfl rfl rfl hl39 ((hx43 hlt31).1.2.2.1.2.some_ hl39)) (k:=sV (ah (i24*3+2) bK rfl rfl ((hx43 hlt31).1.2.2.1.2.some_ hl39) rfl) (k:=?_))))
    refine t7 (c:=2) (u:=ii (gt ((gt ((gt ys27 i1).vers) i11).past) i24).t) (v:=ii (-4)) rfl rfl rfl rfl (by kernel_rfl) EG rfl rfl ((hx43 hlt31).1.2.2.1.2.spanT_at hl39).2 rfl (.int _ _ iV) (i:=0) rfl hn26 ?_
    intro J44 hn45 hl46
    obtain⟨ys47,hj48,hs49⟩:=hj28.like vK hl46
    have hs49:=hs49.trans hs29
    have hq50:=j4 hs49
    have hlt51:=jtl (iE hs49 hq10) hq23
    have hlt52:=jtl (iE (iE hs49 hq10) hq23) hq40
    refine Dz ?_
    change WC _ _ _ _ _ _
    refine DA ?_
    refine mV (k:=sV (am rfl rfl rfl (ax hl39 (hx37 hlt31).1.2.2.1.2.le)) (k:=aV (k:=?_)))
    refine Dz ?_
    intro w hw; exact⟨(jtl (iE (iE hs16 hq10) hq23) hq40),J44,ys47,hn45,hj48,hs49,slK,hw⟩
   refine DE ?_
   change WC _ _ _ _ _ _
   refine DA ?_
   refine mV (k:=mV (k:=sV (ar (i:=i1) Fa EU rfl rfl rfl hl9 (hj28.some_ (ltq hl9 hq30.symm))) (k:=sV (ah (i1*2+1) aM rfl rfl (hj28.some_ (ltq hl9 hq30.symm)) rfl) (k:=sV (tO (c:=1) (v:=.slice A32 ((gt ys27 i1).vers).length c33) (satJ (i:=0) rfl hn26) (hx34 (ltq hl9 hq30.symm)).2 rfl F1 rfl rfl) (k:=mV (k:=sV (ar (i:=i11) EY EP rfl rfl rfl hlt31 ((hx34 (ltq hl9 hq30.symm)).1.2.2.some_ hlt31)) (k:=sV (ah (i11*5+4) ec rfl rfl ((hx34 (ltq hl9 hq30.symm)).1.2.2.some_ hlt31) rfl) (k:=?_))))))))
   obtain⟨A53,c54,hx55⟩:=(hx34 (ltq hl9 hq30.symm)).1.2.2.verT_at i11
   refine t7 (c:=4) (u:=.string (gt ((gt ys27 i1).vers) i11).val) (v:=.string (⟨#[115,112,111,105,108,116]⟩:ByteArray)) rfl rfl rfl rfl (by kernel_rfl) EF rfl rfl (hx55 hlt31).2 rfl (.str _ _ (show (⟨#[115,112,111,105,108,116]⟩:ByteArray).size≤lim by decide)) (i:=0) rfl hn26 ?_
   intro J56 hn57 hl58
   obtain⟨ys59,hj60,hs61⟩:=hj28.like vK hl58
   have hs61:=hs61.trans hs29
   have hq62:=j4 hs61
   have hlt63:=jtl (iE hs61 hq10) hq23
   refine Dz ?_
   change WC _ _ _ _ _ _
   refine DA ?_
   refine mV (k:=sV (am rfl rfl rfl (ax hl22 (hx20 (ltq hl9 hq17.symm)).1.2.2.le)) (k:=aV (k:=?_)))
   refine Dz ?_
   intro w hw; exact⟨(jtl (iE hs6 hq10) hq23),J56,ys59,hn57,hj60,hs61,slK,hw⟩
  refine DE ?_
  change WC _ _ _ _ _ _
  refine DA ?_
  refine mV (k:=sV (am rfl rfl rfl (ax hl9 (hq7▸hj5.le))) (k:=aV (k:=?_)))
  refine Dz ?_
  intro w hw; exact⟨hl9,J12,ys14,hn13,hj15,hs16,slK,hw⟩
 refine DE ?_
 intro w hw
 cases h
 subst hF
 exact aI (is:=[0]) (by kernel_rfl) hw rfl ⟨J2,rfl,rfl,trivial⟩
abbrev sP(r:List Rec)(U:List Rowb)(Γ:Gh)(v:Value):Prop := ∃(A0:Option Addr), ∃(c0:Nat), ∃(row0:Rowb),v = .slice A0 r.length c0∧U = [row0]∧Own recT Γ 36 row0 A0 c0 r∧True
theorem sT{B:Gh}{Al:Option Addr}{cl:Nat}{l:List Rec}(hl:Sl recT B Al l)(hlc:l.length≤cl)(hp:Pre [] Γ w0)(hpB:Pre [] B w0){r:List Rec}(h:iR l=some r):Calls Tryz.prog 43 #[.slice Al l.length cl] w0 (Outc Γ [] w0 (sP r)):=by
 refine goV [2] func43 ntmps43 results43 hp λF hF=>?_
 have hB:Lent F B:=hF▸Lent.start hpB
 refine Dx (aV (k:=Dw (Dx (aV (k:=Dw (Dy (Dx ?_)))))))
 refine mV (k:=sV (ab rfl Fa) (k:=mV (k:=Dw (DD ?_))))
 refine DF h (λ(i9:Nat) (out_3:List Rec) σ w => ∃(Γ1:Gh), ∃(A4:Option Addr), ∃(c5:Nat), ∃(row6:Rowb),slots σ [(3,.slice A4 out_3.length c5),(9,.slice Al l.length cl),(10,ii (l.length:Int)),(11,ii (i9:Int))]∧CC F Γ1 [row6] w∧Gh.le Γ Γ1∧Own recT Γ1 36 row6 A4 c5 out_3∧True) ?_ ?_
 ·
  intro w hw
  have hw:=hw.pad
  exact⟨Γ,none,0,[],slK,hw,gR,(Own.nil recT _ 36),trivial⟩
 rintro f8 i9 out_3 σ w hi10 hlt11 hge12 ⟨Γ1,A4,c5,row6,hsl,hw,hl2,ho7,-⟩
 refine slV hsl hw [_] ?_; clear hw hsl
 refine Dx (sV aw (k:=Dw (Dy ?_)))
 refine coV (λhb13=>?_) (λhb13=>?_)
 ·
  have hl14:=ilt hb13
  have h:=hlt11 hl14
  refine DC (wc_ (Dy (DD (Dx (sV (ar (i:=i9) Fa EU rfl rfl rfl hl14 (hl.some_ hl14)) (k:=?_))))))
  obtain⟨A15,c16,hx17⟩:=hl.recT_at i9
  refine sV (iI (c:=0) (vs:=(Rec.cs A15 c16 (gt l i9))) (λw hw=>hB.sat hw) (hx17 hl14).2 rfl EV EU rfl rfl rfl) (k:=?_)
  refine alV ET λg18=>?_
  refine stV 0 (.agg (Rec.cs A15 c16 (gt l i9)).toArray) (Rec.cs A15 c16 (gt l i9)).toArray EU (k:=Dw (Dx (sV (q_fl 0 b6) (k:=sV (ldV 0 En) (k:=sV (aA (v:=.agg #[.string (gt l i9).key,.slice none 0 0]) rfl (iy rfl) (λw=>by kernel_rfl)) (k:=?_))))))
  refine alV ET λg19=>?_
  refine stV 0 (.agg #[.string (gt l i9).key,.slice none 0 0]) #[.string (gt l i9).key,.slice none 0 0] EU (k:=Dw (Dy (Dx (sV (q_fl 1 aM) (k:=sV (ldV 1 F1) (k:=sV (ab rfl EY) (k:=mV (k:=?_))))))))
  refine Dw (DD ?_)
  refine DF h (λ(i28:Nat) (x22:List Ver) σ w => ∃(Γ20:Gh), ∃(A23:Option Addr), ∃(c24:Nat), ∃(row25:Rowb),slots σ [(3,.slice A4 out_3.length c5),(6,(pq g19)),(9,.slice Al l.length cl),(10,ii (l.length:Int)),(11,ii (i9:Int)),(19,.slice A15 ((gt l i9).vers).length c16),(20,ii ((((gt l i9).vers).length:Nat):Int)),(21,ii (i28:Int))]∧CC F Γ20 [row25,[(g19,.cells #[.string (gt l i9).key,.slice A23 x22.length c24] 36 (0,0))],row6] w∧Gh.le Γ1 Γ20∧Own verT Γ20 72 row25 A23 c24 x22∧True) ?_ ?_
  ·
   intro w hw
   have hw:=hw.pad
   exact⟨Γ1,none,0,[],slK,(hw.on [0,0,1]),gR,(Own.nil verT _ 72),trivial⟩
  rintro f27 i28 x22 σ w hi29 hlt30 hge31 ⟨Γ20,A23,c24,row25,hsl,hw,hl21,ho26,-⟩
  refine slV hsl hw [_,_,_] ?_; clear hw hsl
  refine Dx (sV aw (k:=Dw (Dy ?_)))
  refine coV (λhb32=>?_) (λhb32=>?_)
  ·
   have hl33:=ilt hb32
   have h:=hlt30 hl33
   refine DC (wc_ (Dy (DD (Dx (sV (ar (i:=i28) EY EP rfl rfl rfl hl33 ((hx17 hl14).1.2.2.some_ hl33)) (k:=?_))))))
   obtain⟨A34,c35,hx36⟩:=(hx17 hl14).1.2.2.verT_at i28
   refine sV (iI (c:=0) (vs:=(Ver.cs A34 c35 (gt ((gt l i9).vers) i28))) (λw hw=>hB.sat hw) (hx36 hl33).2 rfl ES EP rfl rfl rfl) (k:=?_)
   refine alV EO λg37=>?_
   refine stV 0 (.agg (Ver.cs A34 c35 (gt ((gt l i9).vers) i28)).toArray) (Ver.cs A34 c35 (gt ((gt l i9).vers) i28)).toArray EP (k:=Dw (Dx (sV (q_fl 2 aN) (k:=sV (ldV 0 EX) (k:=?_)))))
   refine WR.sub (λw hw=>hw.pad) ?_
   obtain⟨hk38,h⟩:=af h
   refine l7 (T:=bW) (xs:=[]) (ys:=(gt ((gt l i9).vers) i28).past) lx (i:=0) rfl rfl rfl rfl (by kernel_rfl) rfl rfl (Own.nil bW Γ20 78) (DP hk38) (λw hw=>ue (Γ:=Γ20) (λw hw=>hB.sat hw) (λ_ _ h=>h) (hx36 hl33).1.2.2.1.2 hw) ?_
   intro row39 A40 c41 ho42
   refine sV (q_fl 2 aN) (k:=stV 1 (.slice A40 (gt ((gt l i9).vers) i28).past.length c41) (Ver.cs A40 c41 (gt ((gt l i9).vers) i28)).toArray EQ (k:=Dw ?_))
   refine DA ?_
   refine sV (q_fl 1 aM) (k:=sV (ldV 3 F1) (k:=sV (ldaV 1 (Ver.cs A40 c41 (gt ((gt l i9).vers) i28)) ES EP) (k:=?_)))
   have hc47:=ho42.capz
   refine seR 0 [_,_,_,_,_] λΓ43 hl44 hr45=>?_
   have hs46:=ho42.sl hl44 hr45
   refine bsV (Ver.cs A40 c41 (gt ((gt l i9).vers) i28)).toArray 72 λg48=>?_
   obtain⟨hk49,h⟩:=af h
   refine apV 3 [(gt ((gt l i9).vers) i28)] lv (ho26.mono hl44) (DP hk49) (λw hw=>br (i:=0) rfl (by exact⟨A40,c41,rfl,⟨(hx36 hl33).1.1,(hx36 hl33).1.2.1,⟨hc47,hs46⟩,(hx36 hl33).1.2.2.2⟩⟩) hw) ?_
   intro row50 A51 c52 ho53
   refine sV (q_fl 1 aM) (k:=stV 4 (.slice A51 (x22++[(gt ((gt l i9).vers) i28)]).length c52) #[.string (gt l i9).key,.slice A51 (x22++[(gt ((gt l i9).vers) i28)]).length c52] sizeOf34 (k:=?_))
   refine Dz ?_
   change WC _ _ _ _ _ _
   refine DA ?_
   refine sV (am rfl rfl rfl (ax hl33 (hx17 hl14).1.2.2.le)) (k:=mV (k:=?_))
   exact Dz λw hw=>⟨hl33,(x22++[(gt ((gt l i9).vers) i28)]),h,Γ43,A51,c52,row50,slK,(hw.on [3,3,3]),(hl21.trans hl44),ho53,trivial⟩
  have h:=hge31 (ige hb32)
  refine DE ?_
  change WC _ _ _ _ _ _
  refine DA ?_
  refine mV (k:=sV (ldaV 1 [.string (gt l i9).key,.slice A23 x22.length c24] EV EU) (k:=?_))
  have hc58:=ho26.capz
  refine seR 0 [_,_,_] λΓ54 hl55 hr56=>?_
  have hs57:=ho26.sl hl55 hr56
  refine bsV #[.string (gt l i9).key,.slice A23 x22.length c24] 36 λg59=>?_
  obtain⟨hk60,h⟩:=af h
  refine apV 3 [(⟨(gt l i9).key,x22⟩:Rec)] lI (ho7.mono (hl21.trans hl55)) (DP hk60) (λw hw=>br (i:=0) rfl (by exact⟨A23,c24,rfl,⟨(hx17 hl14).1.1,⟨hc58,hs57⟩⟩⟩) hw) ?_
  intro row61 A62 c63 ho64
  refine aV (k:=?_)
  refine Dz ?_
  change WC _ _ _ _ _ _
  refine DA ?_
  refine sV (am rfl rfl rfl (ax hl14 hl.le)) (k:=mV (k:=?_))
  exact Dz λw hw=>⟨hl14,(out_3++[(⟨(gt l i9).key,x22⟩:Rec)]),h,Γ54,A62,c63,row61,slK,(hw.on [3]),((hl2.trans hl21).trans hl55),ho64,trivial⟩
 have h:=hge12 (ige hb13)
 refine DE ?_
 change WC _ _ _ _ _ _
 refine Dx (mV (k:=aV (k:=Dw ?_)))
 exact DB λw hw=>re_ r [0] h hF hw ⟨A4,c5,row6,rfl,rfl,ho7,trivial⟩
end Fw
end Go.Proofs.YtgaplodcdhhefaaGreat
