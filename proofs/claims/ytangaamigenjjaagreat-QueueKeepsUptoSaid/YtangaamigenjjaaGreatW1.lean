/- Walks through the functions that the law reaches (printed by a program). No condition. -/
import Derived.Test.YtangaamigenjjaaGreatM
import Derived.Test.YtangaamigenjjaaGreatS
namespace Go.Proofs.YtangaamigenjjaaGreat
namespace Fw
set_option linter.unusedVariables false
set_option linter.unusedSimpArgs false
set_option linter.unusedSectionVars false
set_option maxRecDepth 100000
set_option maxHeartbeats 400000
open Go.RowKit
open Go.Proofs.Tryz
variable {Γ:Gh} {w0:World}
def a7.ob(e:TypeId)(Γ:Gh)(g:Nat)(row:Rowb)(x:a7):Prop := ∃(m1:Nat) (r1:Rowb) (m2:Nat) (r2:Rowb) (A3:Option Addr) (c3:Nat) (r3:Rowb),row=([[(g,.cells #[.int .i64 x.room,.map (some m1),.map (some m2),.slice A3 x.loose.length c3] e (0,0))],r1,r2,r3]:List Rowb).flatten∧I64 x.room∧MapO (strK Tryz.underlying9) (slT ay).v Γ r1 m1 x.safe_∧MapO (strK Tryz.underlying9) (slT ay).v Γ r2 m2 x.seen∧Own j7 Γ 195 r3 A3 c3 x.loose∧True
theorem a7.ob.mono{e:TypeId}{Γ Δ:Gh}{g:Nat}{row:Rowb}{x:a7}(h:a7.ob e Γ g row x)(hs:Γ.le Δ):a7.ob e Δ g row x:=by
  obtain⟨m1,r1,m2,r2,A3,c3,r3,hr,h0,h1,h2,h3,_⟩:=h
  exact⟨m1,r1,m2,r2,A3,c3,r3,hr,h0,h1.mono hs,h2.mono hs,h3.mono hs,trivial⟩
abbrev ao.ob(J:Gh→Rowb→ao→Prop)(Γ:Gh)(g:Nat)(row:Rowb)(x:ao):Prop:=YS.ob J Γ g row x
theorem ao.ob.mono{J:Gh→Rowb→ao→Prop}{Γ Δ:Gh}{g:Nat}{row:Rowb}{x:ao}(h:ao.ob J Γ g row x)(hs:Γ.le Δ):ao.ob J Δ g row x:=YS.ob.mono h hs
abbrev af.ob(J:Gh→Rowb→af→Prop)(Γ:Gh)(g:Nat)(row:Rowb)(x:af):Prop:=YS.ob J Γ g row x
theorem af.ob.mono{J:Gh→Rowb→af→Prop}{Γ Δ:Gh}{g:Nat}{row:Rowb}{x:af}(h:af.ob J Γ g row x)(hs:Γ.le Δ):af.ob J Δ g row x:=YS.ob.mono h hs
def ah.ob(e:Nat×Nat)(Γ:Gh)(g:Nat)(row:Rowb)(x:ah):Prop:=row=([[(g,.cells #[.pointer (some ⟨e.2,0,none⟩),.string x.place_name,.int .i64 x.place_gen,.int .i64 x.size,.int .i64 x.last,.int .i64 x.tail,.int .i64 x.count,.int .i64 x.bytes] e.1 (0,0))]]:List Rowb).flatten∧x.place_name.size≤lim∧I64 x.place_gen∧I64 x.size∧I64 x.last∧I64 x.tail∧I64 x.count∧I64 x.bytes∧True
theorem ah.ob.mono{e:Nat×Nat}{Γ Δ:Gh}{g:Nat}{row:Rowb}{x:ah}(h:ah.ob e Γ g row x)(hs:Γ.le Δ):ah.ob e Δ g row x:=by
  obtain⟨hr,h0,h1,h2,h3,h4,h5,h6,_⟩:=h
  exact⟨hr,h0,h1,h2,h3,h4,h5,h6,trivial⟩
def a6.ob(e:Nat×Nat)(Γ:Gh)(g:Nat)(row:Rowb)(x:a6):Prop := ∃(A2:Option Addr) (c2:Nat) (y5:Value) (g6:Nat) (r6:Rowb) (A7:Option Addr) (c7:Nat) (A8:Option Addr) (A9:Option Addr) (c9:Nat) (r9:Rowb) (m11:Nat) (r11:Rowb) (A12:Option Addr) (c12:Nat),row=([[(g,.cells #[.int .i64 x.c_self,.int .i64 x.c_sites,.slice A2 x.c_links.length c2,.int .i64 x.c_cap,.int .i64 x.c_base,y5,.pointer (some ⟨g6,0,none⟩),.slice A7 x.applied.length c7,.pointer A8,.slice A9 x.list.length c9,.int .i64 x.next,.map (some m11),.slice A12 x.members.length c12] e.1 (0,0))],r6,r9,r11]:List Rowb).flatten∧I64 x.c_self∧I64 x.c_sites∧x.c_links.length≤c2∧Sl intT Γ A2 x.c_links∧I64 x.c_cap∧I64 x.c_base∧ah.ob (109,e.2) Γ g6 r6 x.log∧x.applied.length≤c7∧Sl intT Γ A7 x.applied∧Pd recT Γ A8 x.under∧LM aL aZ (intK Tryz.underlying3) gp.v Γ 89 r9 A9 c9 x.list∧I64 x.next∧MapO (intK Tryz.underlying3) gp.v Γ r11 m11 x.gaps∧x.members.length≤c12∧Sl intT Γ A12 x.members∧True
theorem a6.ob.mono{e:Nat×Nat}{Γ Δ:Gh}{g:Nat}{row:Rowb}{x:a6}(h:a6.ob e Γ g row x)(hs:Γ.le Δ):a6.ob e Δ g row x:=by
  obtain⟨A2,c2,y5,g6,r6,A7,c7,A8,A9,c9,r9,m11,r11,A12,c12,hr,h0,h1,h2,h3,h4,h5,h6,h7,h8,h9,h10,h11,h12,h13,h14,_⟩:=h
  exact⟨A2,c2,y5,g6,r6,A7,c7,A8,A9,c9,r9,m11,r11,A12,c12,hr,h0,h1,h2,h3.mono hs,h4,h5,ah.ob.mono h6 hs,h7,h8.mono hs,h9.mono hs,h10.mono hs,h11,h12.mono hs,h13,h14.mono hs,trivial⟩
def am.ob(e:TypeId)(Γ:Gh)(g:Nat)(row:Rowb)(x:am):Prop := ∃(A0:Option Addr) (c0:Nat),row=([[(g,.cells #[.slice A0 x.b.length c0,.int .i64 x.at_,.bool x.bad] e (0,0))]]:List Rowb).flatten∧x.b.length≤c0∧Sl ay Γ A0 x.b∧I64 x.at_∧True
theorem am.ob.mono{e:TypeId}{Γ Δ:Gh}{g:Nat}{row:Rowb}{x:am}(h:am.ob e Γ g row x)(hs:Γ.le Δ):am.ob e Δ g row x:=by
  obtain⟨A0,c0,hr,h0,h1,h2,_⟩:=h
  exact⟨A0,c0,hr,h0,h1.mono hs,h2,trivial⟩
def aa.ob(e:TypeId)(Γ:Gh)(g:Nat)(row:Rowb)(x:aa):Prop := ∃(A0:Option Addr) (c0:Nat),row=([[(g,.cells #[.slice A0 x.b.length c0,.int .i64 x.at_] e (0,0))]]:List Rowb).flatten∧x.b.length≤c0∧Sl ay Γ A0 x.b∧I64 x.at_∧True
theorem aa.ob.mono{e:TypeId}{Γ Δ:Gh}{g:Nat}{row:Rowb}{x:aa}(h:aa.ob e Γ g row x)(hs:Γ.le Δ):aa.ob e Δ g row x:=by
  obtain⟨A0,c0,hr,h0,h1,h2,_⟩:=h
  exact⟨A0,c0,hr,h0,h1.mono hs,h2,trivial⟩
def a8.ob(e:TypeId)(Γ:Gh)(g:Nat)(row:Rowb)(x:a8):Prop := ∃(A0:Option Addr) (c0:Nat) (r0:Rowb),row=([[(g,.cells #[.slice A0 x.b.length c0] e (0,0))],r0]:List Rowb).flatten∧Own ay Γ 5 r0 A0 c0 x.b∧True
theorem a8.ob.mono{e:TypeId}{Γ Δ:Gh}{g:Nat}{row:Rowb}{x:a8}(h:a8.ob e Γ g row x)(hs:Γ.le Δ):a8.ob e Δ g row x:=by
  obtain⟨A0,c0,r0,hr,h0,_⟩:=h
  exact⟨A0,c0,r0,hr,h0.mono hs,trivial⟩
theorem Bv:q8 dotT sh0:=⟨by
  rintro Γ Δ cs cs' x ⟨rfl,hf⟩ hl h
  obtain⟨f0,f1⟩:=hf
  obtain⟨u0,w0,rfl,k0,h⟩:=dt h
  obtain⟨u1,w1,rfl,k1,h⟩:=dt h
  have h:=oM h
  subst h
  obtain⟨y0,rfl,g0⟩:=mz k0 f0
  obtain⟨y1,rfl,g1⟩:=mz k1 f1
  exact⟨⟨y0,y1⟩,⟨rfl,g0,g1⟩,rfl⟩⟩
theorem xe:q8 gO sh0:=⟨by
  rintro Γ Δ cs cs' x ⟨rfl,hf⟩ hl h
  obtain⟨f0,f1,f2⟩:=hf
  obtain⟨u0,w0,rfl,k0,h⟩:=dt h
  obtain⟨u1,w1,rfl,k1,h⟩:=dt h
  obtain⟨u2,w2,rfl,k2,h⟩:=dt h
  have h:=oM h
  subst h
  obtain⟨y0,rfl,g0⟩:=mz k0 f0
  obtain⟨y1,rfl,g1⟩:=mz k1 f1
  obtain⟨y2,rfl,g2⟩:=mz k2 f2
  exact⟨⟨y0,y1,y2⟩,⟨rfl,g0,g1,g2⟩,rfl⟩⟩
@[reducible] def Ver.sh (x:Ver):Sh:=shL sh0 x.past
theorem mh:q8 verT Ver.sh:=⟨by
  rintro Γ Δ cs cs' x ⟨A2,c2,rfl,hf⟩ hl h
  obtain⟨f0,f1,f2,f4⟩:=hf
  obtain⟨u0,w0,rfl,k0,h⟩:=dt h
  obtain⟨u1,w1,rfl,k1,h⟩:=dt h
  obtain⟨u2,w2,rfl,k2,h⟩:=dt h
  obtain⟨u3,w3,rfl,k3,h⟩:=dt h
  obtain⟨u4,w4,rfl,k4,h⟩:=dt h
  have h:=oM h
  subst h
  obtain⟨y0,rfl,g0⟩:=mz k0 f0
  obtain⟨y1,rfl,g1⟩:=mz k1 f1
  obtain⟨y2,rfl,g2,e2⟩:=vB xe hl k2 f2
  obtain⟨y3,rfl⟩:=zM k3
  obtain⟨y4,rfl,g4⟩:=uH k4 f4
  exact⟨⟨⟨y0,y1⟩,y2,y3,y4⟩,⟨A2,c2,rfl,g0,g1,g2,g4⟩,e2⟩⟩
@[reducible] def Rec.sh (x:Rec):Sh:=shL Ver.sh x.vers
theorem BF:q8 recT Rec.sh:=⟨by
  rintro Γ Δ cs cs' x ⟨A1,c1,rfl,hf⟩ hl h
  obtain⟨f0,f1⟩:=hf
  obtain⟨u0,w0,rfl,k0,h⟩:=dt h
  obtain⟨u1,w1,rfl,k1,h⟩:=dt h
  have h:=oM h
  subst h
  obtain⟨y0,rfl,g0⟩:=uH k0 f0
  obtain⟨y1,rfl,g1,e1⟩:=vB mh hl k1 f1
  exact⟨⟨y0,y1⟩,⟨A1,c1,rfl,g0,g1⟩,e1⟩⟩
@[reducible] def ai.sh (x:ai):Sh:=.n [shL Ver.sh x.rec_.vers,shL sh0 x.route]
theorem fY:q8 bN ai.sh:=⟨by
  rintro Γ Δ cs cs' x ⟨A2,c2,A3,c3,rfl,hf⟩ hl h
  obtain⟨f0,f1,f2,f3⟩:=hf
  obtain⟨u0,w0,rfl,k0,h⟩:=dt h
  obtain⟨u1,w1,rfl,k1,h⟩:=dt h
  obtain⟨u2,w2,rfl,k2,h⟩:=dt h
  obtain⟨u3,w3,rfl,k3,h⟩:=dt h
  have h:=oM h
  subst h
  obtain⟨y0,rfl,g0⟩:=mz k0 f0
  obtain⟨y1,rfl,g1⟩:=uH k1 f1
  obtain⟨y2,rfl,g2,e2⟩:=vB mh hl k2 f2
  obtain⟨y3,rfl,g3,e3⟩:=vB jw hl k3 f3
  exact⟨⟨y0,⟨y1,y2⟩,y3⟩,⟨A2,c2,A3,c3,rfl,g0,g1,g2,g3⟩,(Bm e2 e3)⟩⟩
abbrev vj(r:a7)(U:List Rowb)(Γ:Gh)(v:Value):Prop := ∃(g0:Nat), ∃(row0:Rowb),v = .pointer (some ⟨g0,0,none⟩)∧U = [row0]∧a7.ob 78 Γ g0 row0 r∧True
theorem qJ(room:Int)(hroom:I64 room)(hp:Pre [] Γ w0){r:a7}(h:k6 room=some r):Calls Tryz.prog 7 #[ii room] w0 (Outc Γ [] w0 (vj r)):=by
 refine goV [2] func7 ntmps7 results7 hp λF hF=>?_
 refine BZ (aV (k:=BX (BZ (mV (k:=sV tS (k:=sV xS (k:=?_)))))))
 refine iW (strK CU) (slT ay).v rfl rfl rfl rfl ?_
 intro g1 row2 hm3
 refine iW (strK CU) (slT ay).v rfl rfl rfl rfl ?_
 intro g4 row5 hm6
 refine sV (aR (v:=.agg #[ii (min (max room 0) 1073741824),.map (some g1),.map (some g4),.slice none 0 0]) rfl (qK rfl rfl rfl) (λw=>by kernel_rfl)) (k:=?_)
 refine bxV (v:=.agg #[ii (min (max room 0) 1073741824),.map (some g1),.map (some g4),.slice none 0 0]) λg7=>?_
 refine aV (k:=BX ?_)
 refine C2 ?_
 intro w hw
 have hw:=hw.pad
 obtain⟨row_8,hrow_8,hob_8⟩:∃rw:Rowb,rw=([[(g7,.cells #[ii (min (max room 0) 1073741824),.map (some g1),.map (some g4),.slice none 0 0] 78 (0,0))],row2,row5,[]]:List Rowb).flatten∧a7.ob 78 Γ g7 rw (⟨(min (max room 0) 1073741824),([]:List (ByteArray×(List UInt8))),([]:List (ByteArray×(List UInt8))),[]⟩:a7):=⟨_,rfl,g1,row2,g4,row5,none,0,[],rfl,(Ag (xQ hroom iV) iV),hm3,hm6,(Own.nil j7 Γ 195),trivial⟩
 have hw:=hw.fold (is:=[1,2,1,0]) rfl hrow_8
 cases h
 subst hF
 exact aM (is:=[0]) (by kernel_rfl) hw rfl ⟨g7,row_8,rfl,rfl,hob_8,trivial⟩
abbrev pC(r:aq)(U:List Rowb)(Γ:Gh)(v:Value):Prop := ∃(A0_2:Option Addr), ∃(c0_2:Nat), ∃(A0_5:Option Addr), ∃(c0_5:Nat),v = .agg #[.int .i64 r.self,.int .i64 r.sites,.slice A0_2 r.links.length c0_2,.int .i64 r.cap,.int .i64 r.base,.slice A0_5 r.members.length c0_5]∧U = []∧aq.fits Γ A0_2 c0_2 A0_5 c0_5 r∧True
theorem lc(hp:Pre [] Γ w0){r:aq}(h:gL=some r):Calls Tryz.prog 5 #[] w0 (Outc Γ [] w0 (pC r)):=by
 refine dl (N:=4) (rs:=[.cell 0 25]) (args:=[]) func5 rfl ntmps5 results5 rfl ?_
 obtain⟨F,hF⟩:∃F:Fm,F=⟨ids [],w0,Γ⟩:=⟨_,rfl⟩
 refine Cf (C:=CC F Γ []) ?_ (hF▸hp.start)
 refine BZ ?_
 refine alV zeroValue25 λg1=>?_
 refine BX (BZ ?_)
 refine bsV #[ii 2] 3 λg2=>?_
 refine bsV #[ii 1] 3 λg3=>?_
 refine sV (aR (v:=.agg #[ii 1,ii 2,.slice (some ⟨g2,0,none⟩) 1 1,ii 1,ii 0,.slice (some ⟨g3,0,none⟩) 1 1]) rfl (qZ rfl rfl rfl rfl rfl) (λw=>by kernel_rfl)) (k:=stV 2 (.agg #[ii 1,ii 2,.slice (some ⟨g2,0,none⟩) 1 1,ii 1,ii 0,.slice (some ⟨g3,0,none⟩) 1 1]) #[ii 1,ii 2,.slice (some ⟨g2,0,none⟩) 1 1,ii 1,ii 0,.slice (some ⟨g3,0,none⟩) 1 1] CV (k:=BX ?_))
 refine C2 ?_
 intro w hw
 have ho4:Own intT Γ 3 [(g2,.cells #[ii 2] 3 (0,0))] (some ⟨g2,0,none⟩) 1 [2]:=C7 (T:=intT) (ys:=[2]) [[ii 2]] rfl (show 1≤lim by decide) ⟨⟨rfl,iV⟩,trivial⟩
 have hc9:=ho4.capz
 obtain⟨Γ5,hw,hl6,hr7⟩:=hw.seal (i:=1) rfl; have hs8:=ho4.sl hl6 hr7
 have ho10:Own intT Γ5 3 [(g3,.cells #[ii 1] 3 (0,0))] (some ⟨g3,0,none⟩) 1 [1]:=C7 (T:=intT) (ys:=[1]) [[ii 1]] rfl (show 1≤lim by decide) ⟨⟨rfl,iV⟩,trivial⟩
 have hc15:=ho10.capz
 obtain⟨Γ11,hw,hl12,hr13⟩:=hw.seal (i:=0) rfl; have hs14:=ho10.sl hl12 hr13
 cases h
 subst hF
 exact⟨[.agg #[ii 1,ii 2,.slice (some ⟨g2,0,none⟩) [2].length 1,ii 1,ii 0,.slice (some ⟨g3,0,none⟩) [1].length 1]],(da (i:=2) (us:=[ii 1,ii 2,.slice (some ⟨g2,0,none⟩) [2].length 1,ii 1,ii 0,.slice (some ⟨g3,0,none⟩) [1].length 1]) hw rfl isAgg25 CV (by kernel_rfl) rfl db),aM (is:=[]) (by kernel_rfl) hw rfl ⟨(some ⟨g2,0,none⟩),1,(some ⟨g3,0,none⟩),1,rfl,rfl,⟨iV,iV,⟨hc9,(hs8.mono hl12)⟩,iV,iV,⟨hc15,hs14⟩⟩,trivial⟩⟩
theorem sN{Amembers:Option Addr}{cmembers:Nat}{members:List Int}(hmembers:Sl intT Γ Amembers members)(hmembersc:members.length≤cmembers)(hs:Sat Γ w0){r:Bool}(h:ou members=some r):CQ Tryz.prog 32 #[.slice Amembers members.length cmembers] w0 (.bool r):=by
 refine goQ [2] func32 ntmps32 results32 hs λF hF=>?_
 refine BZ (aV (k:=BX (C1 (BZ (mV (k:=sV (ab rfl CW) (k:=mV (k:=?_))))))))
 refine BX (C5 ?_)
 refine Cc h (λ(i2:Nat) (s:Unit) σ w=>match s with | ()=>slots σ [(0,.slice Amembers members.length cmembers),(5,.slice Amembers members.length cmembers),(6,ii (members.length:Int)),(7,ii (i2:Int))]∧CC F Γ [] w∧True) ?_ ?_
 ·
  intro w hw
  exact⟨slK,hw,trivial⟩
 rintro f1 i2 ⟨⟩ σ w hi3 hlt4 hge5 ⟨hsl,hw,-⟩
 refine slV hsl hw [] ?_; clear hw hsl
 refine BZ (sV aQ (k:=BX (C1 ?_)))
 refine coV (λhb6=>?_) (λhb6=>?_)
 ·
  have hl7:=ilt hb6
  have h:=hlt4 hl7
  refine C4 (wc_ (C1 (C5 (BZ (mV (k:=sV (aO (i:=i2) CW CX rfl rfl rfl hl7 (hmembers.some_ hl7)) (k:=sV (q_ld (c:=0) (v:=ii (gt members i2)) (hmembers.intT_at hl7).2 rfl CY rfl rfl) (k:=?_))))))))
  refine aV (k:=aV (k:=BX (BZ (mV (k:=sV aQ (k:=mV (k:=vG0 (h:=λhg8=>moV) (k:=?_))))))))
  refine vG0 (h:=λhg9=>cp rfl (grV hg9)) (k:=sV pkO (k:=mV (k:=vG0 (h:=λhg10=>moV) (k:=vG0 (h:=λhg11=>cp rfl (grV hg11)) (k:=vG0 (h:=λhg12=>au (v:=.bool (decide (0<(i2:Int)))) rfl (grV hg12)) (k:=vh1 (c0:=(!((decide ((gt members i2)<1))||(decide (8<(gt members i2)))))) (g:=(decide (0<(i2:Int)))) rfl rfl rfl rfl rfl (λ_=>QV.qo moV) (vh1 (c0:=(!((decide ((gt members i2)<1))||(decide (8<(gt members i2)))))) (g:=(decide (0<(i2:Int)))) rfl rfl rfl rfl rfl (λ_=>QV.qo moV) ?_)))))))
  refine vh1 (c0:=(!((decide ((gt members i2)<1))||(decide (8<(gt members i2)))))) (g:=(decide (0<(i2:Int)))) rfl rfl rfl rfl rfl (λ_=>QV.qo moV) (vh1 (c0:=(!((decide ((gt members i2)<1))||(decide (8<(gt members i2)))))) (g:=(decide (0<(i2:Int)))) rfl rfl rfl rfl rfl (λhg16=>QV.qo (iQ rfl (grV hg16))) ?_)
  obtain⟨hk18,h⟩:=ag h
  refine vh1 (c0:=(!((decide ((gt members i2)<1))||(decide (8<(gt members i2)))))) (g:=(decide (0<(i2:Int)))) rfl rfl rfl rfl rfl (λhg17=>QV.qo (q_ix CW CX rfl (grV hg17) (grV hg17) (aD hk18 hg17) (hmembers.some_ (dU (aD hk18 hg17))))) (vh1 (c0:=(!((decide ((gt members i2)<1))||(decide (8<(gt members i2)))))) (g:=(decide (0<(i2:Int)))) rfl rfl rfl rfl rfl (λhg19=>QV.qo (q_ld (c:=0) (v:=ii (gt members ((w64 ((i2:Int) - 1)).toNat))) (hmembers.intT_at (dU (aD hk18 hg19))).2 rfl CY (grV hg19) rfl)) (vh1 (c0:=(!((decide ((gt members i2)<1))||(decide (8<(gt members i2)))))) (g:=(decide (0<(i2:Int)))) rfl rfl rfl rfl rfl (λhg20=>QV.qo (gU rfl (grV hg20) (grV hg20))) (vG0 (h:=λhg21=>fx rfl (grV hg21) (lr (c:=(!((decide ((gt members i2)<1))||(decide (8<(gt members i2)))))) (g:=(decide (0<(i2:Int)))) (y:=(decide ((gt members i2)≤(gt members ((w64 ((i2:Int) - 1)).toNat))))) hg21)) (k:=sV pkO (k:=BX ?_)))))
  refine ciV h (λhb22 h=>?_) (λhb22 h=>?_)
  ·
   refine BZ (aV (k:=BX ?_))
   exact C2 λw hw=>rq_ r h hF hw
  refine C4 (wc_ ?_)
  refine C3 ?_
  refine sV (aw rfl rfl rfl (aA hl7 hmembers.le)) (k:=mV (k:=?_))
  exact C0 λw hw=>⟨hl7,(),h,slK,hw,trivial⟩
 have h:=hge5 (ige hb6)
 refine C8 ?_
 change WC _ _ _ _ _ _
 refine BZ (mV (k:=sV (ab rfl CW) (k:=sV cp (k:=aV (k:=BX ?_)))))
 exact C2 λw hw=>rq_ r h hF hw
theorem kd{Ac_2:Option Addr}{cc_2:Nat}{Ac_5:Option Addr}{cc_5:Nat}(c_:aq)(hc_:aq.fits Γ Ac_2 cc_2 Ac_5 cc_5 c_)(hs:Sat Γ w0){r:Bool}(h:fu c_=some r):CQ Tryz.prog 20 #[.agg (aq.cs Ac_2 cc_2 Ac_5 cc_5 c_).toArray] w0 (.bool r):=by
 refine goQ [2] func20 ntmps20 results20 hs λF hF=>?_
 refine BZ ?_
 refine bxV (v:=.agg (aq.cs Ac_2 cc_2 Ac_5 cc_5 c_).toArray) λg1=>?_
 refine aV (k:=BX (C1 (BZ (sV (q_fl 2 iJ) (k:=sV (ldV 0 CZ) (k:=sV (ab rfl CW) (k:=mV (k:=?_))))))))
 refine BX (C5 ?_)
 refine Cc h (λ(i3:Nat) (s:Unit) σ w=>match s with | ()=>slots σ [(1,(pq g1)),(6,.slice Ac_2 c_.links.length cc_2),(7,ii (c_.links.length:Int)),(8,ii (i3:Int))]∧CC F Γ [[(g1,.cells (aq.cs Ac_2 cc_2 Ac_5 cc_5 c_).toArray 25 (0,0))]] w∧True) ?_ ?_
 ·
  intro w hw
  exact⟨slK,hw,trivial⟩
 rintro f2 i3 ⟨⟩ σ w hi4 hlt5 hge6 ⟨hsl,hw,-⟩
 refine slV hsl hw [_] ?_; clear hw hsl
 refine BZ (sV aQ (k:=BX (C1 ?_)))
 refine coV (λhb7=>?_) (λhb7=>?_)
 ·
  have hl8:=ilt hb7
  have h:=hlt5 hl8
  refine C4 (wc_ (C1 (C5 (BZ (mV (k:=sV (aO (i:=i3) CW CX rfl rfl rfl hl8 (hc_.2.2.1.2.some_ hl8)) (k:=sV (q_ld (c:=0) (v:=ii (gt c_.links i3)) (hc_.2.2.1.2.intT_at hl8).2 rfl CY rfl rfl) (k:=?_))))))))
  refine aV (k:=aV (k:=BX (BZ (mV (k:=sV aQ (k:=mV (k:=vG0 (h:=λhg9=>moV) (k:=?_))))))))
  refine vG0 (h:=λhg10=>q_fl 1 gS) (k:=vG0 (h:=λhg11=>ldV 0 CY (hx:=grV hg11)) (k:=vG0 (h:=λhg12=>cp rfl (grV hg12) (grV hg12)) (k:=sV pkO (k:=mV (k:=vG0 (h:=λhg13=>moV) (k:=vG0 (h:=λhg14=>q_fl 0 ke) (k:=vG0 (h:=λhg15=>ldV 0 CY (hx:=grV hg15)) (k:=?_))))))))
  refine vG0 (h:=λhg16=>bD rfl (grV hg16) (grV hg16)) (k:=sV pkO (k:=mV (k:=vG0 (h:=λhg17=>moV) (k:=vG0 (h:=λhg18=>cp rfl (grV hg18)) (k:=vG0 (h:=λhg19=>au (v:=.bool (decide (0<(i3:Int)))) rfl (grV hg19)) (k:=vh1 (c0:=(!(((decide ((gt c_.links i3)<1))||(decide (c_.sites<(gt c_.links i3))))||((gt c_.links i3)==c_.self)))) (g:=(decide (0<(i3:Int)))) rfl rfl rfl rfl rfl (λ_=>QV.qo moV) (vh1 (c0:=(!(((decide ((gt c_.links i3)<1))||(decide (c_.sites<(gt c_.links i3))))||((gt c_.links i3)==c_.self)))) (g:=(decide (0<(i3:Int)))) rfl rfl rfl rfl rfl (λ_=>QV.qo (q_fl 2 iJ)) ?_)))))))
  refine vh1 (c0:=(!(((decide ((gt c_.links i3)<1))||(decide (c_.sites<(gt c_.links i3))))||((gt c_.links i3)==c_.self)))) (g:=(decide (0<(i3:Int)))) rfl rfl rfl rfl rfl (λhg22=>QV.qo (ldV 0 CZ (hx:=grV hg22))) (vh1 (c0:=(!(((decide ((gt c_.links i3)<1))||(decide (c_.sites<(gt c_.links i3))))||((gt c_.links i3)==c_.self)))) (g:=(decide (0<(i3:Int)))) rfl rfl rfl rfl rfl (λ_=>QV.qo moV) (vh1 (c0:=(!(((decide ((gt c_.links i3)<1))||(decide (c_.sites<(gt c_.links i3))))||((gt c_.links i3)==c_.self)))) (g:=(decide (0<(i3:Int)))) rfl rfl rfl rfl rfl (λhg24=>QV.qo (iQ rfl (grV hg24))) ?_))
  obtain⟨hk26,h⟩:=ag h
  refine vh1 (c0:=(!(((decide ((gt c_.links i3)<1))||(decide (c_.sites<(gt c_.links i3))))||((gt c_.links i3)==c_.self)))) (g:=(decide (0<(i3:Int)))) rfl rfl rfl rfl rfl (λhg25=>QV.qo (q_ix CW CX rfl (grV hg25) (grV hg25) (aD hk26 hg25) (hc_.2.2.1.2.some_ (dU (aD hk26 hg25))))) (vh1 (c0:=(!(((decide ((gt c_.links i3)<1))||(decide (c_.sites<(gt c_.links i3))))||((gt c_.links i3)==c_.self)))) (g:=(decide (0<(i3:Int)))) rfl rfl rfl rfl rfl (λhg27=>QV.qo (q_ld (c:=0) (v:=ii (gt c_.links ((w64 ((i3:Int) - 1)).toNat))) (hc_.2.2.1.2.intT_at (dU (aD hk26 hg27))).2 rfl CY (grV hg27) rfl)) (vh1 (c0:=(!(((decide ((gt c_.links i3)<1))||(decide (c_.sites<(gt c_.links i3))))||((gt c_.links i3)==c_.self)))) (g:=(decide (0<(i3:Int)))) rfl rfl rfl rfl rfl (λhg28=>QV.qo (gU rfl (grV hg28) (grV hg28))) (vG0 (h:=λhg29=>fx rfl (grV hg29) (lr (c:=(!(((decide ((gt c_.links i3)<1))||(decide (c_.sites<(gt c_.links i3))))||((gt c_.links i3)==c_.self)))) (g:=(decide (0<(i3:Int)))) (y:=(decide ((gt c_.links i3)≤(gt c_.links ((w64 ((i3:Int) - 1)).toNat))))) hg29)) (k:=sV pkO (k:=BX ?_)))))
  refine ciV h (λhb30 h=>?_) (λhb30 h=>?_)
  ·
   refine BZ (aV (k:=BX ?_))
   exact C2 λw hw=>rq_ r h hF hw
  refine C4 (wc_ ?_)
  refine C3 ?_
  refine sV (aw rfl rfl rfl (aA hl8 hc_.2.2.1.2.le)) (k:=mV (k:=?_))
  exact C0 λw hw=>⟨hl8,(),h,slK,hw,trivial⟩
 have h:=hge6 (ige hb7)
 refine C8 ?_
 change WC _ _ _ _ _ _
 refine BZ (sV (q_fl 1 gS) (k:=sV (ldV 0 CY) (k:=sV kG (k:=mV (k:=vG1 (h:=λhg31=>q_fl 1 gS) (k:=vG1 (h:=λhg32=>ldV 0 CY (hx:=grV hg32)) (k:=vG1 (h:=λhg33=>gU rfl (grV hg33)) (k:=?_))))))))
 refine sV pkA (k:=mV (k:=vG1 (h:=λhg34=>q_fl 0 ke) (k:=vG1 (h:=λhg35=>ldV 0 CY (hx:=grV hg35)) (k:=vG1 (h:=λhg36=>kG rfl (grV hg36)) (k:=sV pkA (k:=mV (k:=vG1 (h:=λhg37=>q_fl 0 ke) (k:=?_))))))))
 refine vG1 (h:=λhg38=>ldV 0 CY (hx:=grV hg38)) (k:=vG1 (h:=λhg39=>q_fl 1 gS) (k:=vG1 (h:=λhg40=>ldV 0 CY (hx:=grV hg40)) (k:=vG1 (h:=λhg41=>gU rfl (grV hg41) (grV hg41)) (k:=sV pkA (k:=mV (k:=vG1 (h:=λhg42=>q_fl 3 rF) (k:=vG1 (h:=λhg43=>ldV 0 CY (hx:=grV hg43)) (k:=?_))))))))
 refine vG1 (h:=λhg44=>kG rfl (grV hg44)) (k:=sV pkA (k:=mV (k:=vG1 (h:=λhg45=>q_fl 3 rF) (k:=vG1 (h:=λhg46=>ldV 0 CY (hx:=grV hg46)) (k:=vG1 (h:=λhg47=>gU rfl (grV hg47)) (k:=sV pkA (k:=mV (k:=?_))))))))
 refine vG1 (h:=λhg48=>q_fl 4 l6) (k:=vG1 (h:=λhg49=>ldV 0 D0 (hx:=grV hg49)) (k:=vG1 (h:=λhg50=>kG rfl (grV hg50)) (k:=sV pkA (k:=mV (k:=vG1 (h:=λhg51=>q_fl 4 l6) (k:=vG1 (h:=λhg52=>ldV 0 D0 (hx:=grV hg52)) (k:=vG1 (h:=λhg53=>gU rfl (grV hg53)) (k:=?_))))))))
 refine sV pkA (k:=mV (k:=vG1 (h:=λhg54=>q_fl 5 rc) (k:=vG1 (h:=λhg55=>ldV 0 CZ (hx:=grV hg55)) (k:=?_))))
 obtain⟨z57,hz58,h⟩:=bnd h
 refine vC1 (h:=λhg56=>b3 (aE call32 rfl rfl (mv (grV hg56))) (λw hw=>sN (Γ:=Gh.all w) (hc_.2.2.2.2.2.2.mono hw.sat.le_all) hc_.2.2.2.2.2.1 (Sat.all w) (cK hz58 hg56))) (k:=sV pkA (k:=aV (k:=BX ?_)))
 exact C2 λw hw=>rq_ r h hF hw
theorem iu(s_:ByteArray)(hs_:s_.size≤lim)(c_:Int)(hc_:U8 c_)(hs:Sat Γ w0){r:Int}(h:cC s_ c_=some r):CQ Tryz.prog 136 #[.string s_,.int .u8 c_] w0 (ii r):=by
 refine goQ [4] func136 ntmps136 results136 hs λF hF=>?_
 refine BZ (aV (k:=BX (BZ (mV (k:=mV (k:=sV (BD (s:=s_) (c:=c_) func167 (by kernel_rfl) (by kernel_rfl) (by kernel_rfl) (by kernel_rfl) rfl (by kernel_rfl)) (k:=aV (k:=?_))))))))
 refine BX ?_
 exact C2 λw hw=>rq_ r h hF hw
theorem fI(s_:ByteArray)(hs_:s_.size≤lim)(hs:Sat Γ w0){r:Int}(h:bj s_=some r):CQ Tryz.prog 97 #[.string s_,.string (⟨#[46]⟩:ByteArray)] w0 (ii r):=by
 refine goQ [4] func97 ntmps97 results97 hs λF hF=>?_
 refine BZ (aV (k:=BX (BZ (mV (k:=sV (show QV _ _ _ _ (ii 1) from (show QV _ _ _ _ (ii (((⟨#[46]⟩:ByteArray).size:Nat):Int)) from cG rfl CU)) (k:=aV (k:=BX ?_)))))))
 refine C1 (C5 (BZ (mV (k:=sV bD (k:=mV (k:=?_))))))
 refine WR.sat (c0:=true) (g:=(1==0)) rfl rfl rfl (notf (show (((1:Int)==0))=false by decide)) ?_
 refine mV (k:=?_)
 refine WR.sat (c0:=true) (g:=(1==0)) rfl rfl rfl (notf (show (((1:Int)==0))=false by decide)) ?_
 refine mV (k:=?_)
 refine WR.sat (c0:=true) (g:=(1==0)) rfl rfl rfl (notf (show (((1:Int)==0))=false by decide)) ?_
 refine sV rh (k:=sV (eh (v:=.bool ((⟨#[46]⟩:ByteArray)==s_)) rfl rfl (show (((1:Int)==0))=false by decide) (by kernel_rfl)) (k:=aV (k:=BX ?_)))
 refine ciV h (λhb1 h=>?_) (λhb1 h=>?_)
 ·
  refine BZ (aV (k:=BX ?_))
  exact C2 λw hw=>rq_ r h hF hw
 refine BZ (mV (k:=sV bD (k:=aV (k:=BX ?_))))
 refine Ch (b:=(1==1)) (by kernel_rfl) (show (((1:Int)==1))=true by decide) ?_
 refine BZ (mV (k:=mV (k:=sV (show QV _ _ _ _ (.int .u8 46) from yW (s:=(⟨#[46]⟩:ByteArray)) (i:=0) CU rfl rfl rfl (by decide)) (k:=?_))))
 obtain⟨z2,hz3,h⟩:=bnd h
 refine vqV (caV call136) (λw hw=>iu (Γ:=Gh.all w) s_ hs_ 46 (show U8 46 by decide) (Sat.all w) hz3) (k:=aV (k:=BX ?_))
 exact C2 λw hw=>rq_ r h hF hw
theorem qp(s_:ByteArray)(hs_:s_.size≤lim)(hs:Sat Γ w0){r:Int}(h:gY s_=some r):CQ Tryz.prog 69 #[.string s_,.string (⟨#[46]⟩:ByteArray)] w0 (ii r):=by
 refine goQ [4] func69 ntmps69 results69 hs λF hF=>?_
 refine BZ (aV (k:=BX (BZ (mV (k:=mV (k:=?_))))))
 obtain⟨z1,hz2,h⟩:=bnd h
 refine vqV (caV call97) (λw hw=>fI (Γ:=Gh.all w) s_ hs_ (Sat.all w) hz2) (k:=aV (k:=BX ?_))
 exact C2 λw hw=>rq_ r h hF hw
theorem nX(s_:ByteArray)(hs_:s_.size≤lim)(hs:Sat Γ w0){r:Bool}(h:fA s_=some r):CQ Tryz.prog 33 #[.string s_,.string (⟨#[46]⟩:ByteArray)] w0 (.bool r):=by
 refine goQ [4] func33 ntmps33 results33 hs λF hF=>?_
 refine BZ (aV (k:=BX (BZ (mV (k:=mV (k:=?_))))))
 obtain⟨z1,hz2,h⟩:=bnd h
 refine vqV (caV call69) (λw hw=>qp (Γ:=Gh.all w) s_ hs_ (Sat.all w) hz2) (k:=sV kG (k:=aV (k:=BX ?_)))
 exact C2 λw hw=>rq_ r h hF hw
theorem jF{gp__0:Nat}(p__1:ByteArray)(hp__1:p__1.size≤lim)(p__2:Int)(hp__2:I64 p__2)(hs:Sat Γ w0){r:ByteArray}(h:eM p__1 p__2=some r):CQ Tryz.prog 37 #[.agg #[(pq gp__0),.string p__1,ii p__2]] w0 (.string r):=by
 refine goQ [2] func37 ntmps37 results37 hs λF hF=>?_
 refine BZ ?_
 refine bxV (v:=.agg #[(pq gp__0),.string p__1,ii p__2]) λg1=>?_
 refine aV (k:=BX (BZ (sV (q_fl 1 pQ) (k:=sV (ldV 0 D1) (k:=sV (py rfl rfl rfl hp__1 (show (⟨#[46,109]⟩:ByteArray).size≤lim by decide)) (k:=aV (k:=BX ?_)))))))
 exact C2 λw hw=>rq_ r h hF hw
abbrev kJ(r:List UInt8)(U:List Rowb)(Γ:Gh)(v:Value):Prop := ∃(A0:Option Addr), ∃(c0:Nat), ∃(row0:Rowb),v = .slice A0 r.length c0∧U = [row0]∧Own ay Γ 5 row0 A0 c0 r∧True
theorem gV{As_:Option Addr}{cs_:Nat}{s_:List UInt8}(hs_:Sl ay Γ As_ s_)(hs_c:s_.length≤cs_)(hp:Pre [] Γ w0){r:List UInt8}(h:cd s_=some r):Calls Tryz.prog 98 #[.slice As_ s_.length cs_] w0 (Outc Γ [] w0 (kJ r)):=by
 refine goV [2] func98 ntmps98 results98 hp λF hF=>?_
 refine BZ (aV (k:=BX (C1 (BZ (mV (k:=sV (jx D2 rfl rfl rfl) (k:=BX ?_)))))))
 refine WC.cnil h (by kernel_rfl) (λhb=>hs_.none_nil hb) (λhb1 h=>?_) (λhb1 h=>?_)
 ·
  refine BZ (aV (k:=BX ?_))
  refine C2 ?_
  intro w hw
  have hw:=hw.pad
  exact re_ r [0] h hF hw ⟨none,0,[],rfl,rfl,(Own.nil ay _ 5),trivial⟩
 refine C4 (wc_ (BZ ?_))
 refine bsV #[] 5 λg2=>?_
 refine mV (k:=?_)
 have ho3:Own ay Γ 5 [(g2,.cells #[] 5 (0,0))] (some ⟨g2,0,none⟩) 0 ([]:List UInt8):=C7 (T:=ay) (ys:=([]:List UInt8)) [] rfl (show 0≤lim by decide) (show True from trivial)
 obtain⟨hk4,h⟩:=ag h
 refine apV 0 s_ gc ho3 (Cl hk4) (λw hw=>kQ hs_ hw) ?_
 intro row5 A6 c7 ho8
 refine aV (k:=BX ?_)
 exact C2 λw hw=>re_ r [0] h hF hw ⟨A6,c7,row5,rfl,rfl,ho8,trivial⟩
abbrev pL(gd:Nat)(ed:Nat)(rowd:Rowb)(r:(List UInt8)×Bool)(U:List Rowb)(Γ:Gh)(v:Value):Prop := ∃(A0:Option Addr), ∃(c0:Nat), ∃(row0:Rowb),v = .tuple #[.slice A0 r.1.length c0,.bool r.2]∧U = [rowd,row0]∧Own ay Γ 5 row0 A0 c0 r.1∧True
theorem iU{gd ed:Nat}{rowd:Rowb}{d:a7}(hd:a7.ob ed Γ gd rowd d)(name:ByteArray)(hname:name.size≤lim)(hp:Pre [rowd] Γ w0){r:(List UInt8)×Bool}(h:dJ d name=some r):Calls Tryz.prog 70 #[(pq gd),.string name] w0 (Outc Γ [rowd] w0 (pL gd ed rowd r)):=by
 refine goV [4,5] func70 ntmps70 results70 hp λF hF=>?_
 refine BZ (aV (k:=aV (k:=BX (BZ (mV (k:=sV nlV (k:=sV (q_fl 2 k5) (k:=?_))))))))
 obtain⟨m1_1,r1_1,m2_1,r2_1,A3_1,c3_1,r3_1,hrow_1,ho0_1,ho1_1,ho2_1,ho3_1,-⟩:=id hd
 refine ufR 0 hrow_1 [_,_,_,_] ?_
 refine sV (ldV 0 isAgg75) (k:=mV (k:=?_))
 obtain⟨v2,⟨A5,c6,hv3,hc7,hs8⟩,hat4⟩:=MapO.look ho2_1 name (z:=.slice none 0 0) (zx:=[]) ⟨none,0,rfl,CE _,Sl.nil _ _ _⟩
 obtain rfl:v2=_:=List.cons.inj hv3 |>.1
 refine sV (wF (v:=.slice A5 ((mget name d.seen).getD []).length c6) hat4 rfl D3 D4 rfl rfl (i:=2) rfl) (k:=mV (k:=sV exV (k:=sV exV (k:=aV (k:=aV (k:=BX (BZ ?_)))))))
 refine mV (k:=?_)
 obtain⟨z9,hz10,h⟩:=bnd h
 refine ecV [] (caV call98) (λw hp=>gV hs8 hc7 hp hz10) ?_
 rintro Γ11 _ _ hl12 ⟨A15,c16,row17,rfl,rfl,hr18,_⟩
 refine cwV 18 [_,_,_,_,_] (mV (k:=aV (k:=aV (k:=BX ?_))))
 refine C2 ?_
 intro w hw
 have hw:=hw.fold (is:=[1,1,1,1]) rfl hrow_1
 exact re_ r [0,0] h hF hw ⟨A15,c16,row17,rfl,rfl,hr18,trivial⟩
theorem lj{Ab:Option Addr}{cb:Nat}{b:List UInt8}(hb:Sl ay Γ Ab b)(hbc:b.length≤cb)(at_:Int)(hat_:I64 at_)(hs:Sat Γ w0){r:Int×Int×Int}(h:fN b at_=some r):CQ Tryz.prog 72 #[.slice Ab b.length cb,ii at_] w0 (.tuple #[ii r.1,ii r.2.1,ii r.2.2]):=by
 refine goQ [4,5,6] func72 ntmps72 results72 hs λF hF=>?_
 refine BZ (aV (k:=aV (k:=aV (k:=BX (WC.scope (C1 (BZ ?_)))))))
 refine mV (k:=sV aQ (k:=mV (k:=vG0 (h:=λhg1=>moV) (k:=vG0 (h:=λhg2=>moV) (k:=vG0 (h:=λhg3=>ab rfl D2 (grV hg3)) (k:=vG0 (h:=λhg4=>cp rfl (grV hg4) (grV hg4)) (k:=sV pkO (k:=?_))))))))
 refine BX ?_
 refine ciV h (λhb5 h=>?_) (λhb5 h=>?_)
 ·
  refine BZ (aV (k:=aV (k:=aV (k:=BX ?_))))
  exact C2 λw hw=>by obtain rfl:=Option.some.inj h; exact⟨by kernel_rfl,fr_ hF hw⟩
 refine C4 (wc_ (BZ (aV (k:=BX (BZ (aV (k:=BX ?_)))))))
 refine C1 ?_
 refine WC.label ?_
 change WC _ _ _ _ _ _
 refine Ce (λσ w => ∃(e_6:Int),jK e_6=some r∧slots σ [(7,ii e_6)]∧CC F Γ [] w∧I64 e_6∧True) ?_ ?_
 ·
  refine BZ (mV (k:=mV (k:=?_)))
  obtain⟨hk8,h⟩:=ag h
  refine sV (lx (c:=cb) (lo:=at_.toNat) (xs:=b) D2 D5 rfl rfl (jJ rfl hk8) (dD hk8)) (k:=sV (ab rfl D2) (k:=mV (k:=BX (C5 ?_))))
  refine Cc h (λ(i11:Nat) (n_9:Int) σ w=>slots σ [(1,ii at_),(7,ii 4),(8,.int .u64 n_9),(21,.slice (if cb=at_.toNat then Ab else Option.map (λa=>a.add (at_.toNat*1)) Ab) (List.drop at_.toNat b).length (cb - at_.toNat)),(22,ii (((List.drop at_.toNat b).length:Nat):Int)),(23,ii (i11:Int))]∧CC F Γ [] w∧True) ?_ ?_
  ·
   intro w hw
   exact⟨slK,hw,trivial⟩
  rintro f10 i11 n_9 σ w hi12 hlt13 hge14 ⟨hsl,hw,-⟩
  refine slV hsl hw [] ?_; clear hw hsl
  refine BZ (sV aQ (k:=BX (C1 ?_)))
  refine coV (λhb15=>?_) (λhb15=>?_)
  ·
   have hl16:=ilt hb15
   have h:=hlt13 hl16
   refine C4 (wc_ (C1 (C5 (BZ (mV (k:=sV (aO (i:=i11) D2 D5 rfl rfl rfl hl16 ((hb.cut_from (c:=cb) (lo:=at_.toNat) (dD hk8) hbc).some_ hl16)) (k:=sV (q_ld (c:=0) (v:=.int .u8 (((gt (List.drop at_.toNat b) i11).toNat:Nat):Int)) ((hb.cut_from (c:=cb) (lo:=at_.toNat) (dD hk8) hbc).byteT_at hl16).2 rfl isAgg5 rfl rfl) (k:=?_))))))))
   refine aV (k:=aV (k:=BX (C1 (C5 ?_))))
   refine Ce (λσ w => ∃(x_17:Bool),j5 b at_ n_9 f10 i11 x_17=some r∧slots σ [(1,ii at_),(7,ii 4),(8,.int .u64 n_9),(9,ii (i11:Int)),(10,.int .u8 (((gt (List.drop at_.toNat b) i11).toNat:Nat):Int)),(21,.slice (if cb=at_.toNat then Ab else Option.map (λa=>a.add (at_.toNat*1)) Ab) (List.drop at_.toNat b).length (cb - at_.toNat)),(22,ii (((List.drop at_.toNat b).length:Nat):Int)),(23,ii (i11:Int)),(28,.bool x_17)]∧CC F Γ [] w∧True) ?_ ?_
   ·
    refine BZ (mV (k:=sV bD (k:=mV (k:=vG1 (h:=λhg18=>moV) (k:=vG1 (h:=λhg19=>cp rfl (grV hg19)) (k:=sV pkA (k:=aV (k:=?_))))))))
    refine BX ?_
    refine ciV h (λhb20 h=>?_) (λhb20 h=>?_)
    ·
     exact C4 λw hw=>⟨(((i11:Int)==8)&&(decide (127<(((gt (List.drop at_.toNat b) i11).toNat:Nat):Int)))),h,slK,hw,trivial⟩
    refine C3 ?_
    refine mV (k:=sV cp (k:=mV (k:=vG1 (h:=λhg21=>moV) (k:=vG1 (h:=λhg22=>bD rfl (grV hg22)) (k:=sV pkA (k:=aV (k:=?_)))))))
    exact C0 λw hw=>⟨((decide (0<(i11:Int)))&&((((gt (List.drop at_.toNat b) i11).toNat:Nat):Int)==0)),h,slK,hw,trivial⟩
   rintro σ w ⟨x_17,h,hsl,hw,-⟩
   refine slV hsl hw [] ?_; clear hw hsl
   refine ciV h (λhb23 h=>?_) (λhb23 h=>?_)
   ·
    refine BZ (aV (k:=BX ?_))
    exact C8 λw hw=>⟨2,h,slK,hw,iV,trivial⟩
   refine BZ (mV (k:=sV aQ (k:=aV (k:=BX ?_))))
   refine ciV h (λhb24 h=>?_) (λhb24 h=>?_)
   ·
    refine BZ (mV (k:=mV (k:=sV (j0 D6 D7) (k:=mV (k:=sV tz (k:=?_))))))
    obtain⟨hk25,h⟩:=ag h
    refine sV (Ay rfl rfl rfl hk25) (k:=sV q_or (k:=sV (j0 underlying2 D6) (k:=mV (k:=mV (k:=sV eH (k:=sV eH (k:=aV (k:=?_))))))))
    refine aV (k:=aV (k:=BX ?_))
    exact C2 λw hw=>by obtain rfl:=Option.some.inj h; exact⟨by kernel_rfl,fr_ hF hw⟩
   refine C4 (wc_ ?_)
   refine C3 ?_
   refine mV (k:=mV (k:=sV xZ (k:=sV (j0 D6 D7) (k:=mV (k:=sV tz (k:=?_))))))
   obtain⟨hk26,h⟩:=ag h
   refine sV (Ay rfl rfl rfl hk26) (k:=sV q_or (k:=aV (k:=?_)))
   refine C0 ?_
   change WC _ _ _ _ _ _
   refine C3 ?_
   refine sV (aw rfl rfl rfl (aA hl16 (hb.cut_from (c:=cb) (lo:=at_.toNat) (dD hk8) hbc).le)) (k:=mV (k:=?_))
   exact C0 λw hw=>⟨hl16,(ior .u64 n_9 (ishl .u64 (wu64 (iand .u8 (((gt (List.drop at_.toNat b) i11).toNat:Nat):Int) 127)) (w64 (7*(i11:Int))))),h,slK,hw,trivial⟩
  have h:=hge14 (ige hb15)
  exact C8 λw hw=>⟨4,h,slK,hw,iV,trivial⟩
 rintro σ w ⟨e_6,h,hsl,hw,hr7,-⟩
 refine slV hsl hw [] ?_; clear hw hsl
 refine BZ (mV (k:=aV (k:=aV (k:=aV (k:=BX ?_)))))
 exact C2 λw hw=>by obtain rfl:=Option.some.inj h; exact⟨by kernel_rfl,fr_ hF hw⟩
theorem qa{Aparts:Option Addr}{cparts:Nat}{parts:List (List UInt8)}(hparts:Sl (slT ay) Γ Aparts parts)(hpartsc:parts.length≤cparts)(hs:Sat Γ w0){r:Int}(h:jt parts=some r):CQ Tryz.prog 114 #[.slice Aparts parts.length cparts] w0 (.int .u32 r):=by
 refine goQ [2] func114 ntmps114 results114 hs λF hF=>?_
 refine BZ (aV (k:=BX (BZ (aV (k:=BX (C1 (BZ ?_)))))))
 refine mV (k:=sV (ab rfl D8) (k:=mV (k:=BX (C5 ?_))))
 refine Cc h (λ(i3:Nat) (r_1:Int) σ w=>slots σ [(3,.int .u32 r_1),(8,.slice Aparts parts.length cparts),(9,ii (parts.length:Int)),(10,ii (i3:Int))]∧CC F Γ [] w∧True) ?_ ?_
 ·
  intro w hw
  exact⟨slK,hw,trivial⟩
 rintro f2 i3 r_1 σ w hi4 hlt5 hge6 ⟨hsl,hw,-⟩
 refine slV hsl hw [] ?_; clear hw hsl
 refine BZ (sV aQ (k:=BX (C1 ?_)))
 refine coV (λhb7=>?_) (λhb7=>?_)
 ·
  have hl8:=ilt hb7
  have h:=hlt5 hl8
  refine C4 (wc_ (C1 (C5 (BZ (sV (aO (i:=i3) D8 D9 rfl rfl rfl hl8 (hparts.some_ hl8)) (k:=?_))))))
  obtain⟨A9,c10,hx11⟩:=hparts.slT_at i3
  refine sV (q_ld (c:=0) (v:=.slice A9 (gt parts i3).length c10) (hx11 hl8).2 rfl Da rfl rfl) (k:=aV (k:=BX (BZ (mV (k:=sV (ab rfl D2) (k:=mV (k:=BX ?_)))))))
  refine C5 ?_
  refine Cc h (λ(i14:Nat) (r_12:Int) σ w=>slots σ [(3,.int .u32 r_12),(8,.slice Aparts parts.length cparts),(9,ii (parts.length:Int)),(10,ii (i3:Int)),(14,.slice A9 (gt parts i3).length c10),(15,ii (((gt parts i3).length:Nat):Int)),(16,ii (i14:Int))]∧CC F Γ [] w∧True) ?_ ?_
  ·
   intro w hw
   exact⟨slK,hw,trivial⟩
  rintro f13 i14 r_12 σ w hi15 hlt16 hge17 ⟨hsl,hw,-⟩
  refine slV hsl hw [] ?_; clear hw hsl
  refine BZ (sV aQ (k:=BX (C1 ?_)))
  refine coV (λhb18=>?_) (λhb18=>?_)
  ·
   have hl19:=ilt hb18
   have h:=hlt16 hl19
   refine C4 (wc_ (C1 (C5 (BZ (sV (aO (i:=i14) D2 D5 rfl rfl rfl hl19 ((hx11 hl8).1.2.some_ hl19)) (k:=sV (q_ld (c:=0) (v:=.int .u8 (((gt (gt parts i3) i14).toNat:Nat):Int)) ((hx11 hl8).1.2.byteT_at hl19).2 rfl isAgg5 rfl rfl) (k:=aV (k:=?_))))))))
   refine BX (BZ (mV (k:=mV (k:=sV (j0 underlying211 D7) (k:=sV Ad (k:=aV (k:=BX ?_)))))))
   refine BZ (mV (k:=BX (C5 ?_)))
   refine Ci h (λ(i22:Nat) (r_20:Int) σ w=>slots σ [(3,.int .u32 r_20),(8,.slice Aparts parts.length cparts),(9,ii (parts.length:Int)),(10,ii (i3:Int)),(14,.slice A9 (gt parts i3).length c10),(15,ii (((gt parts i3).length:Nat):Int)),(16,ii (i14:Int)),(24,ii (i22:Int))]∧CC F Γ [] w∧True) ?_ ?_
   ·
    intro w hw
    exact⟨slK,hw,trivial⟩
   rintro f21 i22 r_20 σ w hi23 hlt24 hge25 ⟨hsl,hw,-⟩
   refine slV hsl hw [] ?_; clear hw hsl
   refine BZ (sV aQ (k:=BX (C1 ?_)))
   refine coV (λhb26=>?_) (λhb26=>?_)
   ·
    have hl27:=ilt hb26
    have h:=hlt24 hl27
    refine C4 (wc_ (C1 (C5 ?_)))
    refine C3 ?_
    refine mV (k:=sV (wn rfl rfl rfl (by decide)) (k:=mV (k:=sV xZ (k:=sV Aq (k:=sV xZ (k:=sV Ad (k:=aV (k:=?_))))))))
    refine C0 ?_
    change WC _ _ _ _ _ _
    refine C3 ?_
    refine sV (aw rfl rfl rfl (qw hl27 (by decide))) (k:=mV (k:=?_))
    exact C0 λw hw=>⟨hl27,(ixor .u32 (ishr .u32 r_20 1) (iand .u32 3988292384 (wu32 (0 - (iand .u32 r_20 1))))),h,slK,hw,trivial⟩
   have h:=hge25 (ige hb26)
   refine C8 ?_
   change WC _ _ _ _ _ _
   refine C3 ?_
   refine sV (aw rfl rfl rfl (aA hl19 (hx11 hl8).1.2.le)) (k:=mV (k:=?_))
   exact C0 λw hw=>⟨hl19,r_20,h,slK,hw,trivial⟩
  have h:=hge17 (ige hb18)
  refine C8 ?_
  change WC _ _ _ _ _ _
  refine C3 ?_
  refine sV (aw rfl rfl rfl (aA hl8 hparts.le)) (k:=mV (k:=?_))
  exact C0 λw hw=>⟨hl8,r_12,h,slK,hw,trivial⟩
 have h:=hge6 (ige hb7)
 refine C8 ?_
 change WC _ _ _ _ _ _
 refine BZ (mV (k:=sV (BI rfl rfl) (k:=aV (k:=BX ?_))))
 exact C2 λw hw=>rq_ r h hF hw
abbrev sW(r:(List UInt8)×Int×Int)(U:List Rowb)(Γ:Gh)(v:Value):Prop := ∃(A0:Option Addr), ∃(c0:Nat), ∃(row0:Rowb),v = .tuple #[.slice A0 r.1.length c0,.int .i64 r.2.1,.int .i64 r.2.2]∧U = [row0]∧Own ay Γ 5 row0 A0 c0 r.1∧I64 r.2.1∧I64 r.2.2∧True
theorem tt{Ab:Option Addr}{cb:Nat}{b:List UInt8}(hb:Sl ay Γ Ab b)(hbc:b.length≤cb)(at_:Int)(hat_:I64 at_)(hp:Pre [] Γ w0){r:(List UInt8)×Int×Int}(h:jI b at_=some r):Calls Tryz.prog 141 #[.slice Ab b.length cb,ii at_] w0 (Outc Γ [] w0 (sW r)):=by
 refine goV [4,5,6] func141 ntmps141 results141 hp λF hF=>?_
 refine BZ (aV (k:=aV (k:=aV (k:=BX (BZ (mV (k:=mV (k:=?_))))))))
 obtain⟨z1,hz2,h⟩:=bnd h
 refine vqV (caV call72) (λw hw=>lj (Γ:=Gh.all w) (hb.mono hw.sat.le_all) hbc at_ hat_ (Sat.all w) hz2) (k:=mV (k:=sV exV (k:=sV exV (k:=sV exV (k:=aV (k:=aV (k:=aV (k:=?_))))))))
 refine BX (C1 (BZ (mV (k:=sV bO (k:=BX ?_)))))
 refine ciV h (λhb3 h=>?_) (λhb3 h=>?_)
 ·
  refine BZ (mV (k:=aV (k:=aV (k:=aV (k:=BX ?_)))))
  refine C2 ?_
  intro w hw
  have hw:=hw.pad
  obtain⟨hk4,h⟩:=ag h
  cases h
  subst hF
  exact aM (is:=[0]) (by kernel_rfl) hw rfl ⟨none,0,[],rfl,rfl,(Own.nil ay _ 5),iV,(dY hk4),trivial⟩
 refine C4 (wc_ (C1 (BZ (mV (k:=sV cp (k:=BX ?_))))))
 refine ciV h (λhb5 h=>?_) (λhb5 h=>?_)
 ·
  refine BZ (aV (k:=aV (k:=aV (k:=BX ?_))))
  refine C2 ?_
  intro w hw
  have hw:=hw.pad
  exact re_ r [0] h hF hw ⟨none,0,[],rfl,rfl,(Own.nil ay _ 5),iV,iV,trivial⟩
 refine C4 (wc_ (C1 (BZ (mV (k:=sV (ab rfl D2) (k:=mV (k:=sV iQ (k:=?_))))))))
 refine mV (k:=sV eH (k:=sV aQ (k:=BX ?_)))
 refine ciV h (λhb6 h=>?_) (λhb6 h=>?_)
 ·
  refine BZ (aV (k:=aV (k:=aV (k:=BX ?_))))
  refine C2 ?_
  intro w hw
  have hw:=hw.pad
  exact re_ r [0] h hF hw ⟨none,0,[],rfl,rfl,(Own.nil ay _ 5),iV,iV,trivial⟩
 refine C4 (wc_ (BZ (mV (k:=mV (k:=sV eH (k:=mV (k:=sV eH (k:=?_))))))))
 refine mV (k:=sV eH (k:=?_))
 obtain⟨hk7,h⟩:=ag h
 obtain⟨hk8,h⟩:=ag h
 obtain⟨hk9,h⟩:=ag h
 refine sV (xC (c:=cb) (lo:=(w64 (z1.2.1+4)).toNat) (hi:=(w64 ((w64 (z1.2.1+4))+z1.1)).toNat) (xs:=b) D2 D5 rfl rfl (xP rfl hk8) (jJ rfl hk7) (Cl hk9) (dD hk7) hbc) (k:=aV (k:=BX (BZ (mV (k:=mV (k:=mV (k:=?_)))))))
 obtain⟨hk10,h⟩:=ag h
 obtain⟨hk11,h⟩:=ag h
 obtain⟨hk12,h⟩:=ag h
 refine sV (xC (c:=cb) (lo:=at_.toNat) (hi:=z1.2.1.toNat) (xs:=b) D2 D5 rfl rfl (xP rfl hk11) (jJ rfl hk10) (Cl hk12) (dD hk10) hbc) (k:=mV (k:=?_))
 refine bsV #[.slice (if cb=at_.toNat then Ab else Option.map (λa=>a.add (at_.toNat*1)) Ab) (List.drop at_.toNat (List.take z1.2.1.toNat b)).length (cb - at_.toNat),.slice (if cb=(w64 (z1.2.1+4)).toNat then Ab else Option.map (λa=>a.add (((w64 (z1.2.1+4)).toNat)*1)) Ab) (List.drop ((w64 (z1.2.1+4)).toNat) (List.take ((w64 ((w64 (z1.2.1+4))+z1.1)).toNat) b)).length (cb - (w64 (z1.2.1+4)).toNat)] 69 λg13=>?_
 have ho14:Own (slT ay) Γ 69 [(g13,.cells #[.slice (if cb=at_.toNat then Ab else Option.map (λa=>a.add (at_.toNat*1)) Ab) (List.drop at_.toNat (List.take z1.2.1.toNat b)).length (cb - at_.toNat),.slice (if cb=(w64 (z1.2.1+4)).toNat then Ab else Option.map (λa=>a.add (((w64 (z1.2.1+4)).toNat)*1)) Ab) (List.drop ((w64 (z1.2.1+4)).toNat) (List.take ((w64 ((w64 (z1.2.1+4))+z1.1)).toNat) b)).length (cb - (w64 (z1.2.1+4)).toNat)] 69 (0,0))] (some ⟨g13,0,none⟩) 2 [(List.drop at_.toNat (List.take z1.2.1.toNat b)),(List.drop ((w64 (z1.2.1+4)).toNat) (List.take ((w64 ((w64 (z1.2.1+4))+z1.1)).toNat) b))]:=C7 (T:=(slT ay)) (ys:=[(List.drop at_.toNat (List.take z1.2.1.toNat b)),(List.drop ((w64 (z1.2.1+4)).toNat) (List.take ((w64 ((w64 (z1.2.1+4))+z1.1)).toNat) b))]) [[.slice (if cb=at_.toNat then Ab else Option.map (λa=>a.add (at_.toNat*1)) Ab) (List.drop at_.toNat (List.take z1.2.1.toNat b)).length (cb - at_.toNat)],[.slice (if cb=(w64 (z1.2.1+4)).toNat then Ab else Option.map (λa=>a.add (((w64 (z1.2.1+4)).toNat)*1)) Ab) (List.drop ((w64 (z1.2.1+4)).toNat) (List.take ((w64 ((w64 (z1.2.1+4))+z1.1)).toNat) b)).length (cb - (w64 (z1.2.1+4)).toNat)]] rfl (show 2≤lim by decide) ⟨⟨(if cb=at_.toNat then Ab else Option.map (λa=>a.add (at_.toNat*1)) Ab),(cb - at_.toNat),rfl,(uj hbc at_.toNat z1.2.1.toNat),(hb.cut (cap:=cb) (lo:=at_.toNat) (hi:=z1.2.1.toNat) (Cl hk12) (dD hk10) hbc)⟩,⟨(if cb=(w64 (z1.2.1+4)).toNat then Ab else Option.map (λa=>a.add (((w64 (z1.2.1+4)).toNat)*1)) Ab),(cb - (w64 (z1.2.1+4)).toNat),rfl,(uj hbc ((w64 (z1.2.1+4)).toNat) ((w64 ((w64 (z1.2.1+4))+z1.1)).toNat)),(hb.cut (cap:=cb) (lo:=(w64 (z1.2.1+4)).toNat) (hi:=(w64 ((w64 (z1.2.1+4))+z1.1)).toNat) (Cl hk9) (dD hk7) hbc)⟩,trivial⟩
 obtain⟨z15,hz16,h⟩:=bnd h
 refine vqV (caV call114) (λw hw=>qa (Γ:=Gh.all w) (ho14.sl hw.sat.le_all (hw.ra 0 rfl)) ho14.capz (Sat.all w) hz16) (k:=aV (k:=BX (C1 (BZ (mV (k:=BX (C5 ?_)))))))
 refine Ci h (λ(i18:Nat) (s:Unit) σ w=>match s with | ()=>slots σ [(0,.slice Ab b.length cb),(7,ii z1.1),(8,ii z1.2.1),(10,.slice (if cb=(w64 (z1.2.1+4)).toNat then Ab else Option.map (λa=>a.add (((w64 (z1.2.1+4)).toNat)*1)) Ab) (List.drop ((w64 (z1.2.1+4)).toNat) (List.take ((w64 ((w64 (z1.2.1+4))+z1.1)).toNat) b)).length (cb - (w64 (z1.2.1+4)).toNat)),(11,.int .u32 z15),(47,ii (i18:Int))]∧CC F Γ [] w∧True) ?_ ?_
 ·
  intro w hw
  exact⟨slK,(hw.on []),trivial⟩
 rintro f17 i18 ⟨⟩ σ w hi19 hlt20 hge21 ⟨hsl,hw,-⟩
 refine slV hsl hw [] ?_; clear hw hsl
 refine BZ (sV aQ (k:=BX (C1 ?_)))
 refine coV (λhb22=>?_) (λhb22=>?_)
 ·
  have hl23:=ilt hb22
  have h:=hlt20 hl23
  refine C4 (wc_ (C1 (C5 (BZ (mV (k:=aV (k:=BX ?_)))))))
  refine C1 ?_
  refine drV ?_
  refine zV moV (k:=zV moV (k:=zV moV (k:=zV eH (k:=?_))))
  obtain⟨hk24,h⟩:=ag h
  refine zV (q_ix D2 D5 rfl rfl rfl hk24 (hb.some_ (dU hk24))) (k:=zV (q_ld (c:=0) (v:=.int .u8 (((gt b ((w64 (z1.2.1+(i18:Int))).toNat)).toNat:Nat):Int)) (hb.byteT_at (dU hk24)).2 rfl isAgg5 rfl rfl) (k:=zV moV (k:=zV moV (k:=zV tz (k:=?_)))))
  obtain⟨hk25,h⟩:=ag h
  refine zV (wn rfl rfl rfl hk25) (k:=zV (j0 D7 underlying211) (k:=zV bO (k:=?_)))
  refine Cd ?_
  change WC _ _ _ _ _ _
  refine ciV h (λhb26 h=>?_) (λhb26 h=>?_)
  ·
   refine BZ (aV (k:=aV (k:=aV (k:=BX ?_))))
   refine C2 ?_
   intro w hw
   have hw:=hw.pad
   exact re_ r [0] h hF hw ⟨none,0,[],rfl,rfl,(Own.nil ay _ 5),iV,iV,trivial⟩
  refine C4 (wc_ ?_)
  refine C3 ?_
  refine sV (aw rfl rfl rfl (qw hl23 (by decide))) (k:=mV (k:=?_))
  exact C0 λw hw=>⟨hl23,(),h,slK,hw,trivial⟩
 have h:=hge21 (ige hb22)
 refine C8 ?_
 change WC _ _ _ _ _ _
 refine BZ ?_
 refine bsV #[] 5 λg27=>?_
 refine mV (k:=?_)
 have ho28:Own ay Γ 5 [(g27,.cells #[] 5 (0,0))] (some ⟨g27,0,none⟩) 0 ([]:List UInt8):=C7 (T:=ay) (ys:=([]:List UInt8)) [] rfl (show 0≤lim by decide) (show True from trivial)
 obtain⟨hk29,h⟩:=ag h
 refine apV 0 ((List.drop ((w64 (z1.2.1+4)).toNat) (List.take ((w64 ((w64 (z1.2.1+4))+z1.1)).toNat) b))) gc ho28 (Cl hk29) (λw hw=>kQ (hb.cut (cap:=cb) (lo:=(w64 (z1.2.1+4)).toNat) (hi:=(w64 ((w64 (z1.2.1+4))+z1.1)).toNat) (Cl hk9) (dD hk7) hbc) hw) ?_
 intro row30 A31 c32 ho33
 refine mV (k:=sV eH (k:=mV (k:=sV eH (k:=aV (k:=aV (k:=aV (k:=BX ?_)))))))
 exact C2 λw hw=>re_ r [0] h hF hw ⟨A31,c32,row30,rfl,rfl,ho33,(ji _),iV,trivial⟩
abbrev pH(J:Gh→Rowb→ao→Prop)(lY:Nat)(gb0:Nat)(Ab0v:Option Addr)(cb0v:Nat)(b0v:List UInt8)(gb1:Nat)(gb1v:Nat)(b1v:Int)(r:ao×Int)(U:List Rowb)(Γ:Gh)(v:Value):Prop := ∃(rowsY':Rowb),v = .tuple #[]∧U = [rowsY',[(gb0,.cells #[.slice Ab0v b0v.length cb0v] 69 (0,0))],[(gb1,.cells #[.pointer (some ⟨gb1v,0,none⟩)] 190 (0,0))],[(gb1v,.cells #[.int .i64 r.2] 28 (0,0))]]∧ao.ob J Γ lY rowsY' r.1∧I64 r.2∧True
theorem pG{J:Gh→Rowb→ao→Prop}{Y:ao→List UInt8→Int→Option ao}{lY:Nat}(hY:∀{Γ:Gh} {w:World} {row:Rowb} {s s':ao} {Ay0_:Option Addr} {cy0_:Nat} {y0_:List UInt8} (hy0_:Sl ay Γ Ay0_ y0_) (hy0_c:y0_.length≤cy0_) (y1_:Int) (hy1_:I64 y1_) (hs:ao.ob J Γ lY row s) (hp:Pre [row] Γ w) (h:Y s y0_ y1_=some s'),YieldAt (FR none) 0 Tryz.prog lY #[.slice Ay0_ y0_.length cy0_,ii y1_] w (Outc Γ [row] w λU Δ v => ∃row':Rowb,v = .bool true∧U = [row']∧ao.ob J Δ lY row' s')){rowsY:Rowb}{sY:ao}(hsY:ao.ob J Γ lY rowsY sY){gb0:Nat}{Ab0v:Option Addr}{cb0v:Nat}{b0v:List UInt8}(hb0v:Sl ay Γ Ab0v b0v)(hb0vc:b0v.length≤cb0v){gb1:Nat}{gb1v:Nat}(b1v:Int)(hb1v:I64 b1v)(hp:Pre [rowsY,[(gb0,.cells #[.slice Ab0v b0v.length cb0v] 69 (0,0))],[(gb1,.cells #[(pq gb1v)] 190 (0,0))],[(gb1v,.cells #[ii b1v] 28 (0,0))]] Γ w0){r:ao×Int}(h:iT Y sY b0v b1v=some r):Calls Tryz.prog 140 #[.func (.yield lY) #[] #[],(pq gb0),(pq gb1)] w0 (Outc Γ [rowsY,[(gb0,.cells #[.slice Ab0v b0v.length cb0v] 69 (0,0))],[(gb1,.cells #[(pq gb1v)] 190 (0,0))],[(gb1v,.cells #[ii b1v] 28 (0,0))]] w0 (pH J lY gb0 Ab0v cb0v b0v gb1 gb1v b1v r)):=by
 refine goV [] func140 ntmps140 results140 hp λF hF=>?_
 refine BZ (aV (k:=BX (C5 ?_)))
 refine WC.loopN h (λ(s:Int×Int×ao) σ w=>match s with | (at_3,x5,o7) => ∃(Γ1:Gh), ∃(row8:Rowb),slots σ [(0,.func (.yield lY) #[] #[]),(1,(pq gb0)),(2,(pq gb1)),(4,ii at_3)]∧CC F Γ1 [row8,[(gb0,.cells #[.slice Ab0v b0v.length cb0v] 69 (0,0))],[(gb1,.cells #[(pq gb1v)] 190 (0,0))],[(gb1v,.cells #[ii x5] 28 (0,0))]] w∧Gh.le Γ Γ1∧I64 at_3∧I64 x5∧ao.ob J Γ1 lY row8 o7∧True) ?_ ?_
 ·
  intro w hw
  exact⟨Γ,rowsY,slK,hw,gR,iV,hb1v,hsY,trivial⟩
 rintro f10 ⟨at_3,x5,o7⟩ σ w h ⟨Γ1,row8,hsl,hw,hl2,hr4,hr6,ho9,-⟩
 refine slV hsl hw [_,_,_,_] ?_; clear hw hsl
 refine C1 (BZ (mV (k:=sV (ldV 1 Da) (k:=sV (ab rfl D2) (k:=sV aQ (k:=BX ?_))))))
 refine ciV h (λhb14 h=>?_) (λhb14 h=>?_)
 ·
  refine C4 (wc_ (C5 (BZ (sV (ldV 1 Da) (k:=mV (k:=?_))))))
  obtain⟨z15,hz16,h⟩:=bnd h
  refine ecV [] (caV call141) (λw hp=>tt (hb0v.mono hl2) hb0vc at_3 hr4 hp hz16) ?_
  rintro Γ17 _ _ hl18 ⟨A21,c22,row23,rfl,rfl,hr24,hr25,hr26,_⟩
  refine cwV 15 [_,_,_,_,_] (mV (k:=sV exV (k:=sV exV (k:=sV exV (k:=aV (k:=aV (k:=aV (k:=?_))))))))
  refine BX (BZ (sV (ldV 3 isAgg190) (k:=mV (k:=sV nlV (k:=stV 4 (ii z15.2.2) #[ii z15.2.2] sizeOf28 (k:=BX (C1 ?_)))))))
  refine C1 ?_
  refine WC.ofI (WCI.region ?_)
  refine WI.op (λ_ h=>nomatch h) ?_
  refine mV (k:=?_)
  refine C9 ?_
  refine WI.op (λ_ h=>nomatch h) ?_
  refine sV bO (k:=?_)
  refine C9 ?_
  refine WI.op (λ_ h=>nomatch h) ?_
  refine mV (k:=?_)
  refine C9 ?_
  refine WI.op (λ_ h=>nomatch h) ?_
  refine vG0 (h:=λhg27=>au (v:=.func (.yield lY) #[] #[]) rfl (by kernel_rfl)) (k:=?_)
  refine C9 ?_
  refine WI.op (λ_ h=>nomatch h) ?_
  refine vG0 (h:=λhg28=>moV) (k:=?_)
  refine C9 ?_
  refine WI.op (λ_ h=>nomatch h) ?_
  refine vG0 (h:=λhg29=>moV) (k:=?_)
  refine C9 ?_
  refine(Bool.eq_false_or_eq_true (!(z15.2.2 != 0))).elim (λhb30=>?_) (λhb30=>?_)
  ·
   have h:=bt hb30 h
   refine WI.sat (c0:=true) (g:=(z15.2.2 != 0)) rfl rfl rfl hb30 ?_
   have hc35:=hr24.capz
   intro w hw; obtain⟨Γ31,hw,hl32,hr33⟩:=hw.seal (i:=0) rfl; have hs34:=hr24.sl hl32 hr33
   refine WI.here (C:=CC F Γ31 [[],row8,[(gb0,.cells #[.slice Ab0v b0v.length cb0v] 69 (0,0))],[(gb1,.cells #[(pq gb1v)] 190 (0,0))],[(gb1v,.cells #[ii z15.2.2] 28 (0,0))]]) ?_ hw
   clear hw
   obtain⟨z36,hz37,h⟩:=bnd h
   refine WI.yield (is:=[1]) rfl rfl (λ_ h=>nomatch h) (sw rfl (grV hb30) (cN (grV hb30) (grV hb30))) rfl (λw hp=>hY hs34 hc35 z15.2.1 hr25 (ho9.mono (hl18.trans hl32)) hp hz37) ?_
   rintro Γ38 _ _ hl39 ⟨row42,rfl,rfl,hr43⟩
   change WI _ _ _ _ (CC F Γ38 [row42,[],[(gb0,.cells #[.slice Ab0v b0v.length cb0v] 69 (0,0))],[(gb1,.cells #[(pq gb1v)] 190 (0,0))],[(gb1v,.cells #[ii z15.2.2] 28 (0,0))]]) _ _ (upd _ 28 (.bool true))
   refine WI.sat (c0:=true) (g:=(z15.2.2 != 0)) rfl rfl rfl hb30 ?_
   refine WI.op (λ_ h=>nomatch h) ?_
   refine sV aX (k:=?_)
   refine C9 ?_
   refine WI.op (λ_ h=>nomatch h) ?_
   refine sV (eh (v:=.bool (!true)) rfl rfl (xK hb30) (by kernel_rfl)) (k:=?_)
   refine C9 ?_
   refine WI.nil ?_
   change WC _ _ _ _ _ _
   refine Cb (b:=(!true)) (by kernel_rfl) (nott rfl) ?_
   refine C4 (wc_ ?_)
   refine C3 ?_
   refine mV (k:=aV (k:=?_))
   exact C0 λw hw=>⟨(z15.2.1,z15.2.2,z36),h,Γ38,row42,slK,(hw.on [0,1,1,1]),(((hl2.trans hl18).trans hl32).trans hl39),hr25,hr26,hr43,trivial⟩
  have h:=bf hb30 h
  refine WI.op (λ_ h=>nomatch h) ?_
  refine C6 (c0:=true) (g:=(z15.2.2 != 0)) rfl rfl rfl hb30 rfl ?_
  refine C9 ?_
  refine WI.op (λ_ h=>nomatch h) ?_
  refine C6 (c0:=true) (g:=(z15.2.2 != 0)) rfl rfl rfl hb30 rfl ?_
  refine C9 ?_
  refine WI.op (λ_ h=>nomatch h) ?_
  refine sV (eZ (v:=.bool true) rfl rfl (yP hb30) (by kernel_rfl)) (k:=?_)
  refine C9 ?_
  refine WI.nil ?_
  change WC _ _ _ _ _ _
  refine Ch (b:=true) (by kernel_rfl) rfl ?_
  exact C2 λw hw=>re_ r [1,1,1,1] h hF hw ⟨row8,rfl,rfl,(ho9.mono hl18),hr26,trivial⟩
 refine C8 ?_
 intro w hw
 cases h
 subst hF
 exact aM (is:=[0,0,0,0]) (by kernel_rfl) hw rfl ⟨row8,rfl,rfl,ho9,hr6,trivial⟩
def JAll(l gout gat:Nat)(rec:Loop)(Γ:Gh)(row:Rowb)(s:ao):Prop := ∃(A:Option Addr) (c:Nat) (rowo:Rowb),row=([[(l,.loop rec)],[(gout,.cells #[.slice A s.1.length c] 60 (0,0))],[(gat,.cells #[.int .i64 s.2] 3 (0,0))],rowo]:List Rowb).flatten∧Own (slT ay) Γ 69 rowo A c s.1∧I64 s.2
theorem qN{A:Option Addr}{c:Nat}{b:List UInt8}(ge:Nat)(hp:Pre [] Γ w0):Calls Tryz.prog 99 #[.slice A b.length c,(pq ge)] w0 (Outc Γ [] w0 (λU Δ v => ∃g1 g2:Nat,v = .func (.func 140) #[] #[(pq g1),(pq g2)]∧U = [[(g1,.cells #[.slice A b.length c] 69 (0,0))],[(g2,.cells #[(pq ge)] 190 (0,0))]])):=by
 refine goV [4] func99 ntmps99 results99 hp λF hF=>?_
 refine BZ ?_
 refine bxV (v:=.slice A b.length c) λg1=>?_
 refine bxV (v:=(pq ge)) λg2=>?_
 refine aU (v:=.nilFunc) (k:=?_)
 refine C0 ?_
 change WC _ _ _ _ _ _
 refine BZ (sV (iD (v:=.func (.func 140) #[] #[(pq g1),(pq g2)]) rfl (by kernel_rfl)) (k:=aU (v:=.func (.func 140) #[] #[(pq g1),(pq g2)]) (k:=?_)))
 refine C0 ?_
 change WC _ _ _ _ _ _
 refine C2 ?_
 intro w hw
 subst hF
 exact aM (is:=[1,0]) (by kernel_rfl) hw rfl ⟨g1,g2,rfl,rfl⟩
abbrev tK(r:List (List UInt8)×Int×Int)(U:List Rowb)(Γ:Gh)(v:Value):Prop := ∃(A0:Option Addr), ∃(c0:Nat), ∃(row0:Rowb),v = .tuple #[.slice A0 r.1.length c0,.int .i64 r.2.1,.int .i64 r.2.2]∧U = [row0]∧Own (slT ay) Γ 69 row0 A0 c0 r.1∧I64 r.2.1∧I64 r.2.2∧True
set_option maxRecDepth 100000 in
set_option maxHeartbeats 800000 in
theorem pS{Γ:Gh}{w0:World}{Ab:Option Addr}{cb:Nat}{b:List UInt8}(hb:Sl ay Γ Ab b)(hbc:b.length≤cb)(hp:Pre [] Γ w0){r:List (List UInt8)×Int×Int}(h:jp b=some r):Calls Tryz.prog 71 #[.slice Ab b.length cb] w0 (Outc Γ [] w0 (tK r)):=by
 obtain⟨z,hz,h⟩:=bnd h
 cases h
 refine sa (n:=22) (rs:=[2,3,4]) (args:=[.slice Ab b.length cb]) func71 rfl ntmps71 results71 rfl ?_
 obtain⟨F,hF⟩:∃F:Fm,F=⟨ids [],w0,Γ⟩:=⟨_,rfl⟩
 refine WC2.here (C:=CC F Γ []) ?_ (hF▸hp.start)
 refine WC2.seq ?_
 refine C3 ?_
 refine aV (k:=aV (k:=aV (k:=?_)))
 refine C0 ?_
 change WC2 _ _ _ _ _ _
 refine WC2.seq ?_
 refine C3 ?_
 refine alV zeroValue60 λgout=>?_
 refine C0 ?_
 change WC2 _ _ _ _ _ _
 refine WC2.seq ?_
 refine C3 ?_
 refine alV zeroValue28 λge=>?_
 refine C0 ?_
 change WC2 _ _ _ _ _ _
 refine WC2.seq ?_
 refine C3 ?_
 refine alV zeroValue3 λgat=>?_
 refine stV 0 (ii 0) #[ii 0] CX (k:=?_)
 refine C0 ?_
 change WC2 _ _ _ _ _ _
 refine WC2.seq3 ?_
 refine C3 ?_
 refine mV (k:=?_)
 refine ecV [] (caV call99) (λw hp=>qN (A:=Ab) (c:=cb) (b:=b) ge hp) ?_
 rintro Γ1 _ _ hl1 ⟨g1,g2,rfl,rfl⟩
 refine cwV 11 [_,_,_,_,_] ?_
 refine C0 ?_
 change WC3 _ _ _ _ _ _ _
 refine WC3.rangeF (n:=22) (gf:=140) (lb:=#[(pq g1),(pq g2)]) (by kernel_rfl) call140 ?_
 intro l D rec w hst hpe hps has hbo hagr hw
 have hY:∀{Γ:Gh} {w:World} {row:Rowb} {s s':ao} {Ay0_:Option Addr} {cy0_:Nat} {y0_:List UInt8} (hy0_:Sl ay Γ Ay0_ y0_) (hy0_c:y0_.length≤cy0_) (y1_:Int) (hy1_:I64 y1_) (hs:ao.ob (JAll l gout gat rec) Γ l row s) (hp:Pre [row] Γ w) (h:eG s y0_ y1_=some s'),
   YieldAt (FR none) 0 Tryz.prog l #[.slice Ay0_ y0_.length cy0_,ii y1_] w (Outc Γ [row] w λU Δ v => ∃row':Rowb,v = .bool true∧U = [row']∧ao.ob (JAll l gout gat rec) Δ l row' s'):=by
  intro Γ w row s s' A c y0 h0 h0c y1 h1 hs hp h
  obtain⟨hk,h⟩:=ag h
  cases h
  obtain⟨Γ',hle,Ao,co,rowo,rfl,ho,hi⟩:=hs
  have ho:=ho.mono hle
  refine YieldAt.mono (R:=Outc Γ [[(l,.loop rec)],[(gout,.cells #[.slice Ao s.1.length co] 60 (0,0))],[(gat,.cells #[ii s.2] 3 (0,0))],rowo] w λU Δ v => ∃A2 c2 row2,v = .bool true∧U = [[(l,.loop rec)],[(gout,.cells #[.slice A2 (s.1++[y0]).length c2] 60 (0,0))],[(gat,.cells #[ii y1] 3 (0,0))],row2]∧Own (slT ay) Δ 69 row2 A2 c2 (s.1++[y0])) ?_ ?_
  ·
   refine um has hbo hp.parts hst hpe (by rw [hps]; rfl) (N:=⟨22,[]⟩) (σ1:=_) (by rw [hps]; exact hagr.par2 rfl rfl) ?_
   intro F hF
   refine WCI.rs ?_
   refine WI.op (λ_ h=>nomatch h) ?_
   refine aV (k:=?_)
   refine C9 ?_
   refine WI.done ?_
   refine WCI.region ?_
   refine WI.op (λ_ h=>nomatch h) ?_
   refine aV (k:=?_)
   refine C9 ?_
   refine WI.nil ?_
   intro w hw
   refine⟨Γ,_,hw,?_⟩
   refine WCI.block ?_
   refine WCI.rs ?_
   refine WI.op (λ_ h=>nomatch h) ?_
   refine sV (ldV 1 isAgg60) (k:=?_)
   refine C9 ?_
   refine WI.op (λ_ h=>nomatch h) ?_
   refine mV (k:=?_)
   refine C9 ?_
   refine WI.op (λ_ h=>nomatch h) ?_
   refine bsV #[.slice A y0.length c] 69 λgb=>?_
   refine C9 ?_
   refine WI.op (λ_ h=>nomatch h) ?_
   refine apV 4 [y0] wv ho (Cl hk) (λw hw=>cM (i:=0) rfl (by exact⟨A,c,rfl,h0c,h0⟩) hw) ?_
   intro row2 A2 c2 ho2
   refine C9 ?_
   refine WI.op (λ_ h=>nomatch h) ?_
   refine stV 2 (.slice A2 (s.1++[y0]).length c2) #[.slice A2 (s.1++[y0]).length c2] sizeOf60 (k:=?_)
   refine C9 ?_
   refine WI.done ?_
   refine WCI.region ?_
   refine WI.op (λ_ h=>nomatch h) ?_
   refine mV (k:=?_)
   refine C9 ?_
   refine WI.op (λ_ h=>nomatch h) ?_
   refine stV 3 (ii y1) #[ii y1] CX (k:=?_)
   refine C9 ?_
   exact WI.nil λw hw=>⟨Γ,_,hw.on [1,1,1,1],A2,c2,row2,rfl,rfl,ho2⟩
  rintro e w2 ⟨v,rfl,Δ,U,he,A2,c2,row2,rfl,rfl,ho2⟩
  exact⟨_,rfl,Δ,_,he.glue,_,rfl,rfl,YS.of ⟨A2,c2,row2,rfl,ho2,h1⟩⟩
 have hw:=hw.pad
 have h2:=hw.fold (is:=[1,6,4,0]) rfl rfl
 have h3:Cur F Γ1 ([([[(l,.loop rec)],[(gout,.cells #[.slice none 0 0] 60 (0,0))],[(gat,.cells #[ii 0] 3 (0,0))],[]]:List Rowb).flatten,[(g1,.cells #[.slice Ab b.length cb] 69 (0,0))],[(g2,.cells #[(pq ge)] 190 (0,0))],[(ge,.cells #[ii 0] 28 (0,0))]]++[[(D,.deferred (some []))]]) w:=h2.pick (is:=[0,1,1,1]) rfl
 refine(pG (J:=JAll l gout gat rec) (Y:=eG) (lY:=l) (sY:=([],0)) hY (YS.of ⟨none,0,[],rfl,Own.nil _ _ _,show I64 0 by decide⟩) (hb.mono hl1) hbc 0 iV (h2.only (is:=[0,1,1,1]) rfl).pre hz).mono ?_
 rintro e w' ⟨v,rfl,Δ,U',he,rowY',rfl,rfl,hJ',he2,-⟩
 have h4:=h3.eff he
 obtain⟨Γ',hle,A',c',rowo',hrow,ho',hi'⟩:=hJ'
 have h5:=h4.unfold (i:=0) rfl hrow
 refine⟨_,rfl,Δ,[[(gout,.cells #[.slice A' z.1.1.length c'] 60 (0,0))],[(gat,.cells #[ii z.1.2] 3 (0,0))],rowo',[(ge,.cells #[ii z.2] 28 (0,0))]],h5.only (is:=[0,6,0,0,0,2]) rfl,?_⟩
 refine WC2.of ?_
 refine C1 ?_
 refine drV ?_
 refine zV (ldV 1 isAgg60) (k:=zV (ldV 2 CY) (k:=zV (ldV 4 isAgg28) (k:=zV aoV (k:=zV aoV (k:=zV aoV (k:=?_))))))
 refine Cd ?_
 change WC _ _ _ _ _ _
 refine C2 ?_
 intro w hw
 subst hF
 exact Ak (N:=⟨22,[]⟩) (is:=[2]) (by kernel_rfl) hw rfl ⟨A',c',rowo',rfl,rfl,ho'.mono hle,hi',he2,trivial⟩
abbrev r_seglog_place_holds(edk0:Nat)(gp__0:Nat)(rowdk0:Rowb)(r:Int×Int×Int)(U:List Rowb)(Γ:Gh)(v:Value):Prop:=v = .tuple #[.int .i64 r.1,.int .i64 r.2.1,.int .i64 r.2.2]∧U = [rowdk0]∧I64 r.1∧I64 r.2.1∧I64 r.2.2∧True
theorem t_seglog_place_holds{gp__0:Nat}(p__1:ByteArray)(hp__1:p__1.size≤lim)(p__2:Int)(hp__2:I64 p__2){edk0:Nat}{rowdk0:Rowb}{dk0:a7}(hdk0:a7.ob edk0 Γ gp__0 rowdk0 dk0)(hp:Pre [rowdk0] Γ w0){r:Int×Int×Int}(h:m_seglog_place_holds p__1 p__2 dk0=some r):Calls Tryz.prog 34 #[.agg #[(pq gp__0),.string p__1,ii p__2]] w0 (Outc Γ [rowdk0] w0 (r_seglog_place_holds edk0 gp__0 rowdk0 r)):=by
 refine goV [2,3,4] func34 ntmps34 results34 hp λF hF=>?_
 refine BZ ?_
 refine bxV (v:=.agg #[(pq gp__0),.string p__1,ii p__2]) λg1=>?_
 refine aV (k:=aV (k:=aV (k:=BX (C1 ?_))))
 refine leV λh02=>?_
 refine e7 (CC F Γ [[(g1,.cells #[(pq gp__0),.string p__1,ii p__2] 101 (0,0))]]) (bo_ [0] gR h02) λk=>?_
 change WH _ _ _ _ (CC F Γ [_,_]) _ 10 _ _
 refine hV 0 k (q:=q_fl 0 ip) (k:=hV 1 k (q:=ldV 0 Db) (k:=hV 2 k (q:=ldaV 0 [(pq gp__0),.string p__1,ii p__2] Dd De) (k:=wl_ 3 rfl ?_)))
 obtain⟨z3,hz4,h⟩:=bnd h
 refine vqV (caV call37) (λw hw=>jF (Γ:=Gh.all w) (gp__0:=gp__0) p__1 hp__1 p__2 hp__2 (Sat.all w) hz4) (k:=?_)
 refine C0 (nxV (bo_ [0] gR h02) λk=>?_)
 refine wl_ 4 rfl ?_
 obtain⟨hk5,h⟩:=ag h
 obtain⟨z6,hz7,h⟩:=bnd h
 refine ecV [1] (caV call70) (λw hp=>iU hdk0 z3 (Cl hk5) hp hz7) ?_
 rintro Γ8 _ _ hl9 ⟨A12,c13,row14,rfl,rfl,hr15,_⟩
 refine cwV 21 [_,_,_] ?_
 refine C0 (nxV (bo_ [2] hl9 h02) λk=>?_)
 refine hV 5 k (q:=moV) (k:=hV 6 k (q:=exV) (k:=hV 7 k (q:=exV) (k:=hV 8 k (q:=aoV) (k:=hV 9 k (q:=aoV) (k:=?_)))))
 refine Ca (by kernel_rfl) ?_
 change WC _ _ _ _ _ _
 refine BZ (mV (k:=?_))
 have hc20:=hr15.capz
 refine seR 1 [_,_,_] λΓ16 hl17 hr18=>?_
 have hs19:=hr15.sl hl17 hr18
 obtain⟨z21,hz22,h⟩:=bnd h
 refine ecV [] (caV call71) (λw hp=>pS hs19 hc20 hp hz22) ?_
 rintro Γ23 _ _ hl24 ⟨A27,c28,row29,rfl,rfl,hr30,hr31,hr32,_⟩
 refine cwV 26 [_,_,_,_] (mV (k:=sV exV (k:=sV exV (k:=sV exV (k:=aV (k:=aV (k:=aV (k:=?_))))))))
 refine BX (BZ (aV (k:=BX (C1 (BZ (mV (k:=sV (ab rfl D8) (k:=?_))))))))
 refine mV (k:=BX (C5 ?_))
 refine Cc h (λ(i35:Nat) (gen_33:Int) σ w=>slots σ [(8,ii z21.2.1),(10,ii gen_33),(30,.slice A27 z21.1.length c28),(31,ii (z21.1.length:Int)),(32,ii (i35:Int))]∧CC F Γ23 [row29,rowdk0] w∧True) ?_ ?_
 ·
  intro w hw
  exact⟨slK,(hw.on [0,0]),trivial⟩
 rintro f34 i35 gen_33 σ w hi36 hlt37 hge38 ⟨hsl,hw,-⟩
 refine slV hsl hw [_,_] ?_; clear hw hsl
 refine BZ (sV aQ (k:=BX (C1 ?_)))
 refine coV (λhb39=>?_) (λhb39=>?_)
 ·
  have hl40:=ilt hb39
  have h:=hlt37 hl40
  refine C4 (wc_ (C1 (C5 (BZ (sV (aO (i:=i35) D8 D9 rfl rfl rfl hl40 (hr30.some_ hl40)) (k:=?_))))))
  obtain⟨A41,c42,hx43⟩:=hr30.slT_at i35
  refine sV (ry (c:=0) (v:=.slice A41 (gt z21.1 i35).length c42) (i:=0) rfl (hx43 hl40).2 rfl Da rfl rfl) (k:=aV (k:=BX (BZ (mV (k:=?_)))))
  obtain⟨z44,hz45,h⟩:=bnd h
  refine vqV (caV call72) (λw hw=>lj (Γ:=Gh.all w) ((hx43 hl40).1.2.mono hw.sat.le_all) (hx43 hl40).1.1 0 iV (Sat.all w) hz45) (k:=mV (k:=sV exV (k:=sV exV (k:=sV exV (k:=aV (k:=aV (k:=aV (k:=?_))))))))
  refine BX (C1 (BZ (mV (k:=sV bO (k:=mV (k:=vG0 (h:=λhg46=>moV) (k:=vG0 (h:=λhg47=>moV) (k:=?_))))))))
  refine vG0 (h:=λhg48=>ab rfl D2 (grV hg48)) (k:=vG0 (h:=λhg49=>bO rfl (grV hg49) (grV hg49)) (k:=sV pkO (k:=mV (k:=vG0 (h:=λhg50=>moV) (k:=vG0 (h:=λhg51=>aQ rfl (grV hg51)) (k:=sV pkO (k:=mV (k:=?_))))))))
  refine vG0 (h:=λhg52=>moV) (k:=vG0 (h:=λhg53=>cp rfl (grV hg53)) (k:=sV pkO (k:=BX ?_)))
  refine ciV h (λhb54 h=>?_) (λhb54 h=>?_)
  ·
   refine BZ (aV (k:=aV (k:=aV (k:=BX ?_))))
   exact C2 λw hw=>re_ r [1] h hF hw ⟨rfl,rfl,iV,iV,iV,trivial⟩
  refine C4 (wc_ ?_)
  refine C3 ?_
  refine mV (k:=aV (k:=?_))
  refine C0 ?_
  change WC _ _ _ _ _ _
  refine C3 ?_
  refine sV (aw rfl rfl rfl (aA hl40 hr30.le)) (k:=mV (k:=?_))
  exact C0 λw hw=>⟨hl40,z44.1,h,slK,hw,trivial⟩
 have h:=hge38 (ige hb39)
 refine C8 ?_
 change WC _ _ _ _ _ _
 refine BZ (mV (k:=mV (k:=aV (k:=aV (k:=aV (k:=BX ?_))))))
 refine C2 ?_
 intro w hw
 obtain⟨hk55,h⟩:=ag h
 cases h
 subst hF
 exact aM (is:=[1]) (by kernel_rfl) hw rfl ⟨rfl,rfl,(dY hk55),hr31,iV,trivial⟩
theorem kA{gd ed:Nat}{rowd:Rowb}{d:a7}(hd:a7.ob ed Γ gd rowd d)(hdr:∀p∈rowd,Γ p.1=some p.2)(hs:Sat Γ w0){r:Int}(h:fV d=some r):CQ Tryz.prog 35 #[(pq gd)] w0 (ii r):=by
 refine goQ [2] func35 ntmps35 results35 hs λF hF=>?_
 refine BZ (aV (k:=BX (BZ (mV (k:=sV nlV (k:=sV (q_fl 3 mi) (k:=?_)))))))
 obtain⟨m1_1,r1_1,m2_1,r2_1,A3_1,c3_1,r3_1,hrow_1,ho0_1,ho1_1,ho2_1,ho3_1,-⟩:=id hd
 have hg_2:∀u∈([[(gd,.cells #[ii d.room,.map (some m1_1),.map (some m2_1),.slice A3_1 d.loose.length c3_1] ed (0,0))],r1_1,r2_1,r3_1]:List Rowb), ∀p∈u,Γ p.1=some p.2:=λu hu p hp=>(λp hp=>(hdr p hp)) p (hrow_1▸List.mem_flatten.2 ⟨u,hu,hp⟩)
 have hgc3:=hg_2 _ (Cp ..) (gd,_) (List.mem_singleton.2 rfl)
 have hgs4:=hg_2 r1_1 (by simp)
 have hgs5:=hg_2 r2_1 (by simp)
 have hgs6:=hg_2 r3_1 (by simp)
 have hs7:=ho3_1.sl gR hgs6
 refine sV (eU (v:=.slice A3_1 d.loose.length c3_1) hgc3 rfl isAgg76 rfl rfl) (k:=sV (ab rfl underlying76) (k:=aV (k:=BX ?_)))
 exact C2 λw hw=>rq_ r h hF hw
theorem oK{Anames:Option Addr}{cnames:Nat}{names:List ByteArray}(hnames:Sl strT Γ Anames names)(hnamesc:names.length≤cnames)(hs:Sat Γ w0){r:Bool}(h:iK names=some r):CQ Tryz.prog 115 #[.slice Anames names.length cnames] w0 (.bool r):=by
 refine goQ [2] func115 ntmps115 results115 hs λF hF=>?_
 refine BZ (aV (k:=BX (C1 (BZ (mV (k:=sV (ab rfl Df) (k:=mV (k:=?_))))))))
 refine BX (C5 ?_)
 refine Cc h (λ(i2:Nat) (s:Unit) σ w=>match s with | ()=>slots σ [(5,.slice Anames names.length cnames),(6,ii (names.length:Int)),(7,ii (i2:Int))]∧CC F Γ [] w∧True) ?_ ?_
 ·
  intro w hw
  exact⟨slK,hw,trivial⟩
 rintro f1 i2 ⟨⟩ σ w hi3 hlt4 hge5 ⟨hsl,hw,-⟩
 refine slV hsl hw [] ?_; clear hw hsl
 refine BZ (sV aQ (k:=BX (C1 ?_)))
 refine coV (λhb6=>?_) (λhb6=>?_)
 ·
  have hl7:=ilt hb6
  have h:=hlt4 hl7
  refine C4 (wc_ (C1 (C5 (BZ (sV (aO (i:=i2) Df Dg rfl rfl rfl hl7 (hnames.some_ hl7)) (k:=sV (q_ld (c:=0) (v:=.string (gt names i2)) (hnames.strT_at hl7).2 rfl D1 rfl rfl) (k:=aV (k:=?_))))))))
  refine BX (BZ (mV (k:=sV (cG rfl CU) (k:=sV aQ (k:=mV (k:=vG0 (h:=λhg8=>moV) (k:=vG0 (h:=λhg9=>cG rfl CU (grV hg9)) (k:=?_))))))))
  refine vG0 (h:=λhg10=>cp rfl (grV hg10)) (k:=sV pkO (k:=BX ?_))
  refine ciV h (λhb11 h=>?_) (λhb11 h=>?_)
  ·
   refine BZ (aV (k:=BX ?_))
   exact C2 λw hw=>rq_ r h hF hw
  refine C4 (wc_ ?_)
  refine C3 ?_
  refine sV (aw rfl rfl rfl (aA hl7 hnames.le)) (k:=mV (k:=?_))
  exact C0 λw hw=>⟨hl7,(),h,slK,hw,trivial⟩
 have h:=hge5 (ige hb6)
 refine C8 ?_
 change WC _ _ _ _ _ _
 refine BZ (aV (k:=BX ?_))
 exact C2 λw hw=>rq_ r h hF hw
theorem kB{gd ed:Nat}{rowd:Rowb}{d:a7}(hd:a7.ob ed Γ gd rowd d)(hdr:∀p∈rowd,Γ p.1=some p.2)(name:ByteArray)(hname:name.size≤lim)(hs:Sat Γ w0){r:Int}(h:eC d name=some r):CQ Tryz.prog 100 #[(pq gd),.string name] w0 (ii r):=by
 refine goQ [4] func100 ntmps100 results100 hs λF hF=>?_
 refine BZ (aV (k:=BX (C1 (BZ (mV (k:=?_))))))
 refine bsV #[.string name] 9 λg1=>?_
 have ho2:Own strT Γ 9 [(g1,.cells #[.string name] 9 (0,0))] (some ⟨g1,0,none⟩) 1 [name]:=C7 (T:=strT) (ys:=[name]) [[.string name]] rfl (show 1≤lim by decide) ⟨⟨rfl,hname⟩,trivial⟩
 obtain⟨z3,hz4,h⟩:=bnd h
 refine vqV (caV call115) (λw hw=>oK (Γ:=Gh.all w) (ho2.sl hw.sat.le_all (hw.ra 0 rfl)) ho2.capz (Sat.all w) hz4) (k:=sV aX (k:=BX ?_))
 refine ciV h (λhb5 h=>?_) (λhb5 h=>?_)
 ·
  refine BZ (aV (k:=BX ?_))
  exact C2 λw hw=>rq_ r h hF hw
 refine C4 (wc_ (C1 (BZ (mV (k:=sV nlV (k:=sV (q_fl 2 k5) (k:=?_)))))))
 obtain⟨m1_6,r1_6,m2_6,r2_6,A3_6,c3_6,r3_6,hrow_6,ho0_6,ho1_6,ho2_6,ho3_6,-⟩:=id hd
 have hg_7:∀u∈([[(gd,.cells #[ii d.room,.map (some m1_6),.map (some m2_6),.slice A3_6 d.loose.length c3_6] ed (0,0))],r1_6,r2_6,r3_6]:List Rowb), ∀p∈u,Γ p.1=some p.2:=λu hu p hp=>(λp hp=>(hdr p hp)) p (hrow_6▸List.mem_flatten.2 ⟨u,hu,hp⟩)
 have hgc8:=hg_7 _ (Cp ..) (gd,_) (List.mem_singleton.2 rfl)
 have hgs9:=hg_7 r1_6 (by simp)
 have hgs10:=hg_7 r2_6 (by simp)
 have hgs11:=hg_7 r3_6 (by simp)
 have hs12:=ho3_6.sl gR hgs11
 refine sV (eU (v:=.map (some m2_6)) hgc8 rfl isAgg75 rfl rfl) (k:=mV (k:=?_))
 obtain⟨v13,⟨A16,c17,hv14,hc18,hs19⟩,hat15⟩:=MapO.look ho2_6 name (z:=.slice none 0 0) (zx:=[]) ⟨none,0,rfl,CE _,Sl.nil _ _ _⟩
 obtain rfl:v13=_:=List.cons.inj hv14 |>.1
 refine sV (vf (v:=.slice A16 ((mget name d.seen).getD []).length c17) (λp hp=>(hgs10 p hp)) hat15 rfl D3 D4 rfl rfl) (k:=mV (k:=sV exV (k:=sV exV (k:=aV (k:=aV (k:=BX (BZ ?_)))))))
 refine mV (k:=sV aX (k:=BX ?_))
 refine ciV h (λhb20 h=>?_) (λhb20 h=>?_)
 ·
  refine BZ (aV (k:=BX ?_))
  exact C2 λw hw=>rq_ r h hF hw
 refine C4 (wc_ (BZ (aV (k:=BX ?_))))
 exact C2 λw hw=>rq_ r h hF hw
abbrev ku(mf_:Nat)(r:List (ByteArray×(List UInt8)))(U:List Rowb)(Γ:Gh)(v:Value):Prop := ∃(rowf_':Rowb),v = .tuple #[]∧U = [rowf_']∧MapO (strK Tryz.underlying9) (slT ay).v Γ rowf_' mf_ r∧True
theorem oy{mf_:Nat}{rowf_:Rowb}{f_:List (ByteArray×(List UInt8))}(hf_:MapO (strK CU) (slT ay).v Γ rowf_ mf_ f_){gb0:Nat}(b0:ByteArray)(hb0_0:Γ gb0=some (.cells #[.string b0] 9 (0,0)))(hb0_1:b0.size≤lim){gb1:Nat}(b1:Int)(hb1_0:Γ gb1=some (.cells #[ii b1] 3 (0,0)))(hb1_1:I64 b1)(hp:Pre [rowf_] Γ w0){r:List (ByteArray×(List UInt8))}(h:gh f_ b0 b1=some r):Calls Tryz.prog 102 #[.map (some mf_),(pq gb0),(pq gb1)] w0 (Outc Γ [rowf_] w0 (ku mf_ r)):=by
 refine goV [] func102 ntmps102 results102 hp λF hF=>?_
 refine leV λh01=>?_
 refine e7 (CC F Γ []) (bo_ [] gR h01) λk=>?_
 change WH _ _ _ _ (CC F Γ [_]) _ 8 _ _
 refine hV 0 k (q:=au (v:=.map (some mf_)) rfl (by kernel_rfl)) (k:=hV 1 k (q:=eU (v:=.string b0) hb0_0 rfl D1 rfl rfl) (k:=hV 2 k (q:=au (v:=.map (some mf_)) rfl (by kernel_rfl)) (k:=hV 3 k (q:=eU (v:=.string b0) hb0_0 rfl D1 rfl rfl) (k:=hV 5 k (q:=eU (v:=ii b1) hb1_0 rfl CY rfl rfl) (k:=wl_ 4 rfl ?_)))))
 obtain⟨v2,⟨A5,c6,hv3,hc7,hs8⟩,hat4⟩:=MapO.look hf_ b0 (z:=.slice none 0 0) (zx:=[]) ⟨none,0,rfl,CE _,Sl.nil _ _ _⟩
 obtain rfl:v2=_:=List.cons.inj hv3 |>.1
 refine sV (mT (v:=.slice A5 ((mget b0 f_).getD []).length c6) hat4 rfl D3 D4 rfl rfl (i:=0) rfl) (k:=?_)
 refine C0 (nxV (bo_ [] gR h01) λk=>?_)
 obtain⟨hk9,h⟩:=ag h
 refine hV 6 k (q:=qF (c:=c6) (hi:=b1.toNat) (xs:=((mget b0 f_).getD [])) D2 D5 rfl rfl (jJ rfl hk9) (dD hk9) hc7) (k:=wl_ 7 rfl ?_)
 refine kr (i:=0) (x:=b0) (v:=.slice A5 (List.take b1.toNat ((mget b0 f_).getD [])).length c6) (a:=(List.take b1.toNat ((mget b0 f_).getD []))) rfl rfl rfl D3 rfl rfl (by kernel_rfl) rfl hf_ (by exact⟨A5,c6,rfl,(uq hc7 b1.toNat),(hs8.cut_to (hi:=b1.toNat) (dD hk9))⟩) hb0_1 ?_
 intro row10 hm11
 refine C0 (nxV (bo_ [] gR h01) λk=>?_)
 refine Ca (by kernel_rfl) ?_
 intro w hw
 cases h
 subst hF
 exact aM (is:=[0]) (by kernel_rfl) hw rfl ⟨row10,rfl,rfl,hm11,trivial⟩
abbrev m9(mf_:Nat)(r:List (ByteArray×(List UInt8)))(U:List Rowb)(Γ:Gh)(v:Value):Prop := ∃(rowf_':Rowb),v = .tuple #[]∧U = [rowf_']∧MapO (strK Tryz.underlying9) (slT ay).v Γ rowf_' mf_ r∧True
theorem mc{mf_:Nat}{rowf_:Rowb}{f_:List (ByteArray×(List UInt8))}(hf_:MapO (strK CU) (slT ay).v Γ rowf_ mf_ f_){gb0:Nat}(b0:ByteArray)(hb0_0:Γ gb0=some (.cells #[.string b0] 9 (0,0)))(hb0_1:b0.size≤lim)(hp:Pre [rowf_] Γ w0){r:List (ByteArray×(List UInt8))}(h:jv f_ b0=some r):Calls Tryz.prog 108 #[.map (some mf_),(pq gb0)] w0 (Outc Γ [rowf_] w0 (m9 mf_ r)):=by
 refine goV [] func108 ntmps108 results108 hp λF hF=>?_
 refine C3 ?_
 refine mU (v:=.map (some mf_)) (k:=sV (eU (v:=.string b0) hb0_0 rfl D1 rfl rfl) (k:=?_))
 refine qG (i:=0) (x:=b0) rfl hf_ rfl rfl rfl D3 rfl rfl ?_
 intro row1 hm2
 refine C0 ?_
 intro w hw
 cases h
 subst hF
 exact aM (is:=[0]) (by kernel_rfl) hw rfl ⟨row1,rfl,rfl,hm2,trivial⟩
theorem l8{As_:Option Addr}{cs_:Nat}{s_:List UInt8}(hs_:Sl ay Γ As_ s_)(hs_c:s_.length≤cs_)(hs:Sat Γ w0){r:List UInt8}(h:fc s_=some r):CQ Tryz.prog 150 #[.slice As_ s_.length cs_] w0 (.slice As_ s_.length s_.length):=by
 refine goQ [2] func150 ntmps150 results150 hs λF hF=>?_
 refine BZ (aV (k:=BX (BZ (mV (k:=mV (k:=sV (ab rfl D2) (k:=mV (k:=?_))))))))
 refine sV (ab rfl D2) (k:=sV (AM (T:=ay) (xs:=s_) D2 D5 rfl rfl rfl rfl hs_c) (k:=aV (k:=BX ?_)))
 exact C2 λw hw=>by obtain rfl:=Option.some.inj h; exact⟨by kernel_rfl,fr_ hF hw⟩
abbrev sU(mf_:Nat)(r:List (ByteArray×(List UInt8)))(U:List Rowb)(Γ:Gh)(v:Value):Prop := ∃(rowf_':Rowb),v = .tuple #[]∧U = [rowf_']∧MapO (strK Tryz.underlying9) (slT ay).v Γ rowf_' mf_ r∧True
theorem sX{mf_:Nat}{rowf_:Rowb}{f_:List (ByteArray×(List UInt8))}(hf_:MapO (strK CU) (slT ay).v Γ rowf_ mf_ f_){gb0:Nat}(b0:ByteArray)(hb0_0:Γ gb0=some (.cells #[.string b0] 9 (0,0)))(hb0_1:b0.size≤lim){gb1:Nat}{Ab1_0:Option Addr}{cb1_0:Nat}(b1:(List UInt8))(hb1_0:Γ gb1=some (.cells #[.slice Ab1_0 b1.length cb1_0] 69 (0,0)))(hb1_1:b1.length≤cb1_0)(hb1_2:Sl ay Γ Ab1_0 b1)(hp:Pre [rowf_] Γ w0){r:List (ByteArray×(List UInt8))}(h:jG f_ b0 b1=some r):Calls Tryz.prog 149 #[.map (some mf_),(pq gb0),(pq gb1)] w0 (Outc Γ [rowf_] w0 (sU mf_ r)):=by
 refine goV [] func149 ntmps149 results149 hp λF hF=>?_
 refine leV λh01=>?_
 refine e7 (CC F Γ []) (bo_ [] gR h01) λk=>?_
 change WH _ _ _ _ (CC F Γ [_]) _ 9 _ _
 refine hV 0 k (q:=au (v:=.map (some mf_)) rfl (by kernel_rfl)) (k:=hV 1 k (q:=eU (v:=.string b0) hb0_0 rfl D1 rfl rfl) (k:=hV 2 k (q:=au (v:=.map (some mf_)) rfl (by kernel_rfl)) (k:=hV 3 k (q:=eU (v:=.string b0) hb0_0 rfl D1 rfl rfl) (k:=hV 6 k (q:=eU (v:=.slice Ab1_0 b1.length cb1_0) hb1_0 rfl Da rfl rfl) (k:=wl_ 4 rfl ?_)))))
 obtain⟨v2,⟨A5,c6,hv3,hc7,hs8⟩,hat4⟩:=MapO.look hf_ b0 (z:=.slice none 0 0) (zx:=[]) ⟨none,0,rfl,CE _,Sl.nil _ _ _⟩
 obtain rfl:v2=_:=List.cons.inj hv3 |>.1
 refine sV (mT (v:=.slice A5 ((mget b0 f_).getD []).length c6) hat4 rfl D3 D4 rfl rfl (i:=0) rfl) (k:=?_)
 refine C0 (nxV (bo_ [] gR h01) λk=>?_)
 refine wl_ 5 rfl ?_
 obtain⟨z9,hz10,h⟩:=bnd h
 refine vqV (caV call150) (λw hw=>l8 (Γ:=Gh.all w) (hs8.mono hw.sat.le_all) hc7 (Sat.all w) hz10) (k:=?_)
 refine C0 (nxV (bo_ [] gR h01) λk=>?_)
 refine wl_ 7 rfl ?_
 obtain⟨hk11,h⟩:=ag h
 refine rS (T:=ay) (xs:=((mget b0 f_).getD [])) (ys:=b1) gc rfl rfl rfl rfl rfl rfl hs8 (Cl hk11) (λw hw=>kQ hb1_2 hw) ?_
 intro Γ12 A13 c14 hl15 hs16 hc17
 refine C0 (nxV (bo_ [] hl15 h01) λk=>?_)
 refine wl_ 8 rfl ?_
 refine kr (i:=1) (x:=b0) (v:=.slice A13 (((mget b0 f_).getD [])++b1).length c14) (a:=(((mget b0 f_).getD [])++b1)) rfl rfl rfl D3 rfl rfl (by kernel_rfl) rfl (hf_.mono hl15) (by exact⟨A13,c14,rfl,hc17,hs16⟩) hb0_1 ?_
 intro row18 hm19
 refine C0 (nxV (bo_ [] hl15 h01) λk=>?_)
 refine Ca (by kernel_rfl) ?_
 intro w hw
 cases h
 subst hF
 exact aM (is:=[1]) (by kernel_rfl) hw rfl ⟨row18,rfl,rfl,hm19,trivial⟩
theorem lP{Γ:Gh}{x:aj}{A:Option Addr}{c:Nat}(hx:aj.ok Γ A c x){mf_:Nat}{rowf_:Rowb}{f_:List (ByteArray×(List UInt8))}(hf_:MapO (strK Tryz.underlying9) (slT ay).v Γ rowf_ mf_ f_){r:List (ByteArray×(List UInt8))}(h:ft x f_=some r):∃fd caps,aj.val x A c = .func (.func fd) #[] caps∧(∀(args:Array Value) (w:World),(callFunc fd args).run Tryz.prog w = .ok (.enter fd args) w)∧∀w0,Pre [rowf_] Γ w0→Calls Tryz.prog fd (#[.map (some mf_)]++caps) w0 (Outc Γ [rowf_] w0 (ku mf_ r)):=by
  cases x with
  | disk_Disk_Cut_1 a0 a1=>
    obtain⟨⟨h0_0,h0_1⟩,⟨g1,rfl,h1_0,h1_1⟩,-⟩:=hx
    exact⟨_,_,rfl,Tryz.call102,λw0 hp=>oy hf_ a0 h0_0 h0_1 a1 h1_0 h1_1 hp h⟩
  | disk_Disk_Remove_1 a0=>
    obtain⟨⟨h0_0,h0_1⟩,-⟩:=hx
    exact⟨_,_,rfl,Tryz.call108,λw0 hp=>mc hf_ a0 h0_0 h0_1 hp h⟩
  | disk_add_1 a0 a1=>
    obtain⟨⟨h0_0,h0_1⟩,⟨g1,A1_0,c1_0,rfl,h1_0,h1_1,h1_2⟩,-⟩:=hx
    exact⟨_,_,rfl,Tryz.call149,λw0 hp=>sX hf_ a0 h0_0 h0_1 a1 h1_0 h1_1 h1_2 hp h⟩
abbrev pi(gd:Nat)(ed:Nat)(r:a7×Int)(U:List Rowb)(Γ:Gh)(v:Value):Prop := ∃(rowd':Rowb),v = .int .i64 r.2∧U = [rowd']∧a7.ob ed Γ gd rowd' r.1∧I64 r.2∧True
theorem iX{gd ed:Nat}{rowd:Rowb}{d:a7}(hd:a7.ob ed Γ gd rowd d){Ac_0:Option Addr}{cc_0:Nat}{Ac_2:Option Addr}{cc_2:Nat}(c_:aG)(hc_:aG.fits Γ Ac_0 cc_0 Ac_2 cc_2 c_)(hp:Pre [rowd] Γ w0){r:a7×Int}(h:dI d c_=some r):Calls Tryz.prog 101 #[(pq gd),.agg #[(aj.val c_.do_ Ac_0 cc_0),.string c_.name,.slice Ac_2 c_.tail.length cc_2]] w0 (Outc Γ [rowd] w0 (pi gd ed r)):=by
 refine goV [4] func101 ntmps101 results101 hp λF hF=>?_
 refine BZ ?_
 refine bxV (v:=.agg #[(aj.val c_.do_ Ac_0 cc_0),.string c_.name,.slice Ac_2 c_.tail.length cc_2]) λg1=>?_
 refine aV (k:=BX (C1 ?_))
 refine leV λh02=>?_
 refine e7 (CC F Γ [[(g1,.cells #[(aj.val c_.do_ Ac_0 cc_0),.string c_.name,.slice Ac_2 c_.tail.length cc_2] 195 (0,0))]]) (bo_ [0] gR h02) λk=>?_
 change WH _ _ _ _ (CC F Γ [_,_]) _ 7 _ _
 refine hV 0 k (q:=q_fl 0 wD) (k:=hV 1 k (q:=ldV 0 isAgg193) (k:=hV 2 k (q:=moV) (k:=hV 3 k (q:=nlV) (k:=hV 4 k (q:=q_fl 2 k5) (k:=wl_ 5 rfl ?_)))))
 obtain⟨m1_3,r1_3,m2_3,r2_3,A3_3,c3_3,r3_3,hrow_3,ho0_3,ho1_3,ho2_3,ho3_3,-⟩:=id hd
 refine ufR 1 hrow_3 [_,_,_,_,_] ?_
 refine sV (ldV 0 isAgg75) (k:=?_)
 refine C0 (nxV (bo_ [4] gR h02) λk=>?_)
 refine wl_ 6 rfl ?_
 obtain⟨z4,hz5,h⟩:=bnd h
 obtain⟨fd6,cp7,hv8,he9,hcl10⟩:=lP (x:=c_.do_) hc_.1 ho2_3 hz5
 refine ecV [2] (gE (caps:=cp7) (args:=#[.map (some m2_3)]++cp7) he9 rfl (Eq.trans (b:=(aj.val c_.do_ Ac_0 cc_0)) (by kernel_rfl) hv8) (by kernel_rfl)) (λw hp=>(by exact hcl10 w hp)) ?_
 rintro Γ11 _ _ hl12 ⟨row15,rfl,rfl,hr16,_⟩
 refine cwV 11 [_,_,_,_,_] ?_
 refine C0 (nxV (bo_ [4] hl12 h02) λk=>?_)
 refine Ca (by kernel_rfl) ?_
 change WC _ _ _ _ _ _
 refine C1 ?_
 refine leV λh017=>?_
 refine e7 (CC F Γ11 [[(g1,.cells #[(aj.val c_.do_ Ac_0 cc_0),.string c_.name,.slice Ac_2 c_.tail.length cc_2] 195 (0,0))]]) (bo_ [4] gR h017) λk=>?_
 change WH _ _ _ _ (CC F Γ11 [_,_,_,_,_]) _ 11 _ _
 refine hV 0 k (q:=moV) (k:=hV 1 k (q:=moV) (k:=hV 2 k (q:=nlV) (k:=hV 3 k (q:=q_fl 3 mi) (k:=hV 5 k (q:=ldaV 0 [(aj.val c_.do_ Ac_0 cc_0),.string c_.name,.slice Ac_2 c_.tail.length cc_2] isAgg195 sizeOf195) (k:=?_)))))
 refine Cj (l:=[4,6]) (by kernel_rfl) (by simp) ?_
 intro i hi; simp only [Ct,List.not_mem_nil,or_false] at hi
 rcases hi with rfl | rfl
 ·
  refine⟨_,rfl,?_⟩
  refine sV (ldV 1 isAgg76) (k:=?_)
  refine C0 (nxV (bo_ [4] gR h017) λk=>?_)
  refine wl_ 6 rfl ?_
  refine bsV #[(aj.val c_.do_ Ac_0 cc_0),.string c_.name,.slice Ac_2 c_.tail.length cc_2] 195 λg18=>?_
  refine C0 (nxV (bo_ [5] gR h017) λk=>?_)
  refine wl_ 7 rfl ?_
  obtain⟨hk19,h⟩:=ag h
  refine apV 4 [c_] wd (ho3_3.mono hl12) (Cl hk19) (λw hw=>cM (i:=0) rfl (by exact⟨Ac_0,cc_0,Ac_2,cc_2,rfl,(aG.fits_mono hc_ hl12)⟩) hw) ?_
  intro row20 A21 c22 ho23
  refine C0 (nxV (bo_ [5] gR h017) λk=>?_)
  refine hV 8 k (q:=nlV) (k:=hV 9 k (q:=q_fl 3 mi) (k:=wl_ 10 rfl (stV 2 (.slice A21 (d.loose++[c_]).length c22) #[ii d.room,.map (some m1_3),.map (some m2_3),.slice A21 (d.loose++[c_]).length c22] sizeOf76 (k:=?_))))
  refine C0 (nxV (bo_ [5] gR h017) λk=>?_)
  refine Ca (by kernel_rfl) ?_
  change WC _ _ _ _ _ _
  refine BZ (aV (k:=BX ?_))
  refine C2 ?_
  intro w hw
  obtain⟨row_24,hrow_24,hob_24⟩:∃rw:Rowb,rw=([[(gd,.cells #[ii d.room,.map (some m1_3),.map (some m2_3),.slice A21 (d.loose++[c_]).length c22] ed (0,0))],r1_3,row15,row20]:List Rowb).flatten∧a7.ob ed Γ11 gd rw (⟨d.room,d.safe_,z4,(d.loose++[c_])⟩:a7):=⟨_,rfl,m1_3,r1_3,m2_3,row15,A21,c22,row20,rfl,ho0_3,(ho1_3.mono hl12),hr16,ho23,trivial⟩
  have hw:=hw.fold (is:=[2,2,1,1]) rfl hrow_24
  cases h
  subst hF
  exact aM (is:=[0]) (by kernel_rfl) hw rfl ⟨row_24,rfl,rfl,hob_24,iV,trivial⟩
 refine⟨_,rfl,?_⟩
 refine bsV #[(aj.val c_.do_ Ac_0 cc_0),.string c_.name,.slice Ac_2 c_.tail.length cc_2] 195 λg18=>?_
 refine C0 (nxV (bo_ [5] gR h017) λk=>?_)
 refine wl_ 4 rfl (sV (ldV 2 isAgg76) (k:=?_))
 refine C0 (nxV (bo_ [5] gR h017) λk=>?_)
 refine wl_ 7 rfl ?_
 obtain⟨hk19,h⟩:=ag h
 refine apV 4 [c_] wd (ho3_3.mono hl12) (Cl hk19) (λw hw=>cM (i:=0) rfl (by exact⟨Ac_0,cc_0,Ac_2,cc_2,rfl,(aG.fits_mono hc_ hl12)⟩) hw) ?_
 intro row20 A21 c22 ho23
 refine C0 (nxV (bo_ [5] gR h017) λk=>?_)
 refine hV 8 k (q:=nlV) (k:=hV 9 k (q:=q_fl 3 mi) (k:=wl_ 10 rfl (stV 2 (.slice A21 (d.loose++[c_]).length c22) #[ii d.room,.map (some m1_3),.map (some m2_3),.slice A21 (d.loose++[c_]).length c22] sizeOf76 (k:=?_))))
 refine C0 (nxV (bo_ [5] gR h017) λk=>?_)
 refine Ca (by kernel_rfl) ?_
 change WC _ _ _ _ _ _
 refine BZ (aV (k:=BX ?_))
 refine C2 ?_
 intro w hw
 obtain⟨row_24,hrow_24,hob_24⟩:∃rw:Rowb,rw=([[(gd,.cells #[ii d.room,.map (some m1_3),.map (some m2_3),.slice A21 (d.loose++[c_]).length c22] ed (0,0))],r1_3,row15,row20]:List Rowb).flatten∧a7.ob ed Γ11 gd rw (⟨d.room,d.safe_,z4,(d.loose++[c_])⟩:a7):=⟨_,rfl,m1_3,r1_3,m2_3,row15,A21,c22,row20,rfl,ho0_3,(ho1_3.mono hl12),hr16,ho23,trivial⟩
 have hw:=hw.fold (is:=[2,2,1,1]) rfl hrow_24
 cases h
 subst hF
 exact aM (is:=[0]) (by kernel_rfl) hw rfl ⟨row_24,rfl,rfl,hob_24,iV,trivial⟩
abbrev ql(gd:Nat)(ed:Nat)(r:a7×Int)(U:List Rowb)(Γ:Gh)(v:Value):Prop := ∃(rowd':Rowb),v = .int .i64 r.2∧U = [rowd']∧a7.ob ed Γ gd rowd' r.1∧I64 r.2∧True
theorem qs{gd ed:Nat}{rowd:Rowb}{d:a7}(hd:a7.ob ed Γ gd rowd d)(name:ByteArray)(hname:name.size≤lim)(n:Int)(hn:I64 n)(hp:Pre [rowd] Γ w0){r:a7×Int}(h:hQ d name n=some r):Calls Tryz.prog 73 #[(pq gd),.string name,ii n] w0 (Outc Γ [rowd] w0 (ql gd ed r)):=by
 refine goV [6] func73 ntmps73 results73 hp λF hF=>?_
 refine BZ ?_
 refine bxV (v:=.string name) λg1=>?_
 refine bxV (v:=ii n) λg2=>?_
 refine aV (k:=BX (C1 (BZ (mV (k:=sV (ldV 1 D1) (k:=?_))))))
 obtain⟨z3,hz4,h⟩:=bnd h
 refine vqV (caV call100) (λw hw=>kB (Γ:=Gh.all w) (hd.mono hw.sat.le_all) (hw.ra 2 rfl) name hname (Sat.all w) hz4) (k:=aV (k:=BX (BZ (mV (k:=sV bO (k:=BX ?_))))))
 refine ciV h (λhb5 h=>?_) (λhb5 h=>?_)
 ·
  refine BZ (mV (k:=aV (k:=BX ?_)))
  refine C2 ?_
  intro w hw
  obtain⟨hk6,h⟩:=ag h
  cases h
  subst hF
  exact aM (is:=[2]) (by kernel_rfl) hw rfl ⟨rowd,rfl,rfl,hd,(dY hk6),trivial⟩
 refine C4 (wc_ (C1 (C1 ?_)))
 obtain⟨m1_7,r1_7,m2_7,r2_7,A3_7,c3_7,r3_7,hrow_7,ho0_7,ho1_7,ho2_7,ho3_7,-⟩:=id hd
 refine ufC 2 hrow_7 [_,_,_,_,_,_] ?_
 refine drV ?_
 refine zV (ldV 4 CY) (k:=zV aQ (k:=zV moV (k:=wG0 (h:=λhg8=>ldV 4 CY) (k:=wG0 (h:=λhg9=>moV) (k:=wG0 (h:=λhg10=>nlV (hv:=grV hg10)) (k:=wG0 (h:=λhg11=>q_fl 2 k5 rfl (grV hg11)) (k:=wG0 (h:=λhg12=>ldV 0 isAgg75 (hx:=grV hg12)) (k:=?_))))))))
 refine wG0 (h:=λhg13=>ldV 5 D1) (k:=?_)
 obtain⟨v15,⟨A18,c19,hv16,hc20,hs21⟩,hat17⟩:=MapO.look ho2_7 name (z:=.slice none 0 0) (zx:=[]) ⟨none,0,rfl,CE _,Sl.nil _ _ _⟩
 obtain rfl:v15=_:=List.cons.inj hv16 |>.1
 refine wG0 (h:=λhg14=>mT (v:=.slice A18 ((mget name d.seen).getD []).length c19) hat17 rfl D3 D4 (grV hg14) (grV hg14) (i:=2) rfl) (k:=wG0 (h:=λhg22=>ab rfl D2 (grV hg22)) (k:=wG0 (h:=λhg23=>cp rfl (grV hg23) (grV hg23)) (k:=zV pkO (k:=?_))))
 refine Cd ?_
 change WC _ _ _ _ _ _
 refine ciV h (λhb24 h=>?_) (λhb24 h=>?_)
 ·
  refine BZ (aV (k:=BX ?_))
  refine C2 ?_
  intro w hw
  have hw:=hw.fold (is:=[0,0,0,0]) rfl hrow_7
  exact re_ r [0] h hF hw ⟨rowd,rfl,rfl,hd,iV,trivial⟩
 refine C4 (wc_ (BZ (mV (k:=sV (iD (v:=.func (.func 102) #[] #[(pq g1),(pq g2)]) rfl (by kernel_rfl)) (k:=sV (aR (v:=.agg #[.func (.func 102) #[] #[(pq g1),(pq g2)],.string ByteArray.empty,.slice none 0 0]) rfl (jy rfl) (λw=>by kernel_rfl)) (k:=?_))))))
 refine foR [0,0,0,0] hrow_7 [_,_,_] ?_
 intro w hw; obtain⟨Γ27,hw,hl28,hr29⟩:=hw.seal (i:=2) rfl
 have hg30:=hr29 _ (List.mem_singleton.2 rfl)
 refine WR.here (C:=CC F Γ27 [_,_,_]) ?_ hw
 clear hw
 intro w hw; obtain⟨Γ31,hw,hl32,hr33⟩:=hw.seal (i:=1) rfl
 have hg34:=hr33 _ (List.mem_singleton.2 rfl)
 refine WR.here (C:=CC F Γ31 [_,_,_]) ?_ hw
 clear hw
 have hf35:aj.ok Γ31 (some ⟨g2,0,none⟩) g1 (aj.disk_Disk_Cut_1 name n):=⟨⟨(hl32 _ _ hg30),hname⟩,⟨g2,rfl,hg34,hn⟩,trivial⟩
 obtain⟨z36,hz37,h⟩:=bnd h
 refine ecV [0] (caV call101) (λw hp=>iX (hd.mono (hl28.trans hl32)) (Ac_2:=none) (cc_2:=0) (⟨(aj.disk_Disk_Cut_1 name n),ByteArray.empty,[]⟩:aG) ⟨hf35,(show (ByteArray.empty:ByteArray).size≤lim by decide),nilV⟩ hp hz37) ?_
 rintro Γ38 _ _ hl39 ⟨row42,rfl,rfl,hr43,hr44,_⟩
 refine cwV 30 [_,_,_] (aV (k:=BX ?_))
 exact C2 λw hw=>re_ r [0] h hF hw ⟨row42,rfl,rfl,hr43,hr44,trivial⟩
abbrev lH(edk0:Nat)(gp__0:Nat)(r:a7)(U:List Rowb)(Γ:Gh)(v:Value):Prop := ∃(rowdk0':Rowb),v = .tuple #[]∧U = [rowdk0']∧a7.ob edk0 Γ gp__0 rowdk0' r∧True
theorem iF{gp__0:Nat}(p__1:ByteArray)(hp__1:p__1.size≤lim)(p__2:Int)(hp__2:I64 p__2)(f_:ByteArray)(hf_:f_.size≤lim)(n:Int)(hn:I64 n){edk0:Nat}{rowdk0:Rowb}{dk0:a7}(hdk0:a7.ob edk0 Γ gp__0 rowdk0 dk0)(hp:Pre [rowdk0] Γ w0){r:a7}(h:cy p__1 p__2 f_ n dk0=some r):Calls Tryz.prog 36 #[.agg #[(pq gp__0),.string p__1,ii p__2],.string f_,ii n] w0 (Outc Γ [rowdk0] w0 (lH edk0 gp__0 r)):=by
 refine goV [] func36 ntmps36 results36 hp λF hF=>?_
 refine BZ ?_
 refine bxV (v:=.agg #[(pq gp__0),.string p__1,ii p__2]) λg1=>?_
 refine BX (BZ (sV (q_fl 0 ip) (k:=sV (ldV 0 Db) (k:=mV (k:=?_)))))
 obtain⟨z2,hz3,h⟩:=bnd h
 refine ecV [1] (caV call70) (λw hp=>iU hdk0 f_ hf_ hp hz3) ?_
 rintro Γ4 _ _ hl5 ⟨A8,c9,row10,rfl,rfl,hr11,_⟩
 refine cwV 12 [_,_,_] (mV (k:=sV exV (k:=sV exV (k:=aV (k:=aV (k:=BX (BZ ?_)))))))
 refine mV (k:=sV (ab rfl D2) (k:=mV (k:=sV cp (k:=BX ?_))))
 refine ciV h (λhb12 h=>?_) (λhb12 h=>?_)
 ·
  refine C3 ?_
  refine sV (q_fl 0 ip) (k:=sV (ldV 2 Db) (k:=mV (k:=mV (k:=?_))))
  obtain⟨z13,hz14,h⟩:=bnd h
  refine ecV [0] (caV call73) (λw hp=>qs (hdk0.mono hl5) f_ hf_ n hn hp hz14) ?_
  rintro Γ15 _ _ hl16 ⟨row19,rfl,rfl,hr20,hr21,_⟩
  refine cwV 23 [_,_,_] ?_
  refine C0 ?_
  intro w hw
  cases h
  subst hF
  exact aM (is:=[0]) (by kernel_rfl) hw rfl ⟨row19,rfl,rfl,hr20,trivial⟩
 refine C4 ?_
 intro w hw
 cases h
 subst hF
 exact aM (is:=[0]) (by kernel_rfl) hw rfl ⟨rowdk0,rfl,rfl,(hdk0.mono hl5),trivial⟩
abbrev oL(gd:Nat)(ed:Nat)(rowd:Rowb)(r:List ByteArray)(U:List Rowb)(Γ:Gh)(v:Value):Prop := ∃(A0:Option Addr), ∃(c0:Nat), ∃(row0:Rowb),v = .slice A0 r.length c0∧U = [rowd,row0]∧Own strT Γ 9 row0 A0 c0 r∧True
theorem od{gd ed:Nat}{rowd:Rowb}{d:a7}(hd:a7.ob ed Γ gd rowd d)(hp:Pre [rowd] Γ w0){r:List ByteArray}(h:fZ d=some r):Calls Tryz.prog 104 #[(pq gd)] w0 (Outc Γ [rowd] w0 (oL gd ed rowd r)):=by
 refine goV [2] func104 ntmps104 results104 hp λF hF=>?_
 refine BZ (aV (k:=BX (BZ (mV (k:=sV nlV (k:=sV (q_fl 2 k5) (k:=?_)))))))
 obtain⟨m1_1,r1_1,m2_1,r2_1,A3_1,c3_1,r3_1,hrow_1,ho0_1,ho1_1,ho2_1,ho3_1,-⟩:=id hd
 refine ufR 0 hrow_1 [_,_,_,_] ?_
 refine sV (ldV 0 isAgg75) (k:=?_)
 refine AC (ρ:=mD) vJ (mb:=some m2_1) rfl rfl (caV call143) ?_
 intro g2
 refine cwV 7 [_,_,_,_,_] ?_
 obtain⟨hk3,h⟩:=ag h
 refine ecV [0,2] (caV call142) (λw hp=>wP ho2_1 (Cl hk3) hp) ?_
 rintro Γ4 _ _ hl5 ⟨A8,c9,row10,rfl,rfl,ho11⟩
 refine cwV 8 [_,_,_,_,_,_] (aV (k:=BX ?_))
 refine C2 ?_
 intro w hw
 have hw:=hw.fold (is:=[3,3,1,2]) rfl hrow_1
 exact re_ r [0,1] h hF hw ⟨A8,c9,row10,rfl,rfl,ho11,trivial⟩
theorem iI(s_:ByteArray)(hs_:s_.size≤lim)(prefix_:ByteArray)(hprefix_:prefix_.size≤lim)(hs:Sat Γ w0){r:Bool}(h:cv s_ prefix_=some r):CQ Tryz.prog 172 #[.string s_,.string prefix_] w0 (.bool r):=by
 refine goQ [4] func172 ntmps172 results172 hs λF hF=>?_
 refine BZ (aV (k:=BX (BZ (mV (k:=sV (cG rfl CU) (k:=mV (k:=sV (cG rfl CU) (k:=?_))))))))
 refine sV kG (k:=mV (k:=vG1 (h:=λhg1=>moV) (k:=vG1 (h:=λhg2=>moV) (k:=vG1 (h:=λhg3=>cG rfl CU (grV hg3)) (k:=?_)))))
 obtain⟨hk5,h⟩:=ag h
 refine vG1 (h:=λhg4=>s5 CU rfl (grV hg4) (grV hg4) (Cl (aD hk5 hg4))) (k:=vG1 (h:=λhg6=>moV) (k:=vG1 (h:=λhg7=>rh rfl (grV hg7) (grV hg7)) (k:=sV pkA (k:=aV (k:=BX ?_)))))
 exact C2 λw hw=>rq_ r h hF hw
theorem iG(s_:ByteArray)(hs_:s_.size≤lim)(prefix_:ByteArray)(hprefix_:prefix_.size≤lim)(hs:Sat Γ w0){r:ByteArray×Bool}(h:cA s_ prefix_=some r):CQ Tryz.prog 144 #[.string s_,.string prefix_] w0 (.tuple #[.string r.1,.bool r.2]):=by
 refine goQ [4,5] func144 ntmps144 results144 hs λF hF=>?_
 refine BZ (aV (k:=aV (k:=BX (C1 (BZ (mV (k:=mV (k:=?_))))))))
 obtain⟨z1,hz2,h⟩:=bnd h
 refine vqV (caV call172) (λw hw=>iI (Γ:=Gh.all w) s_ hs_ prefix_ hprefix_ (Sat.all w) hz2) (k:=sV aX (k:=BX ?_))
 refine ciV h (λhb3 h=>?_) (λhb3 h=>?_)
 ·
  refine BZ (mV (k:=aV (k:=aV (k:=BX ?_))))
  exact C2 λw hw=>by obtain rfl:=Option.some.inj h; exact⟨by kernel_rfl,fr_ hF hw⟩
 refine C4 (wc_ (BZ (mV (k:=mV (k:=sV (cG rfl CU) (k:=?_))))))
 obtain⟨hk4,h⟩:=ag h
 refine sV (sc CU rfl rfl rfl (Cl hk4)) (k:=aV (k:=aV (k:=BX ?_)))
 exact C2 λw hw=>by obtain rfl:=Option.some.inj h; exact⟨by kernel_rfl,fr_ hF hw⟩
theorem nl(s_:ByteArray)(hs_:s_.size≤lim)(prefix_:ByteArray)(hprefix_:prefix_.size≤lim)(hs:Sat Γ w0){r:ByteArray×Bool}(h:eJ s_ prefix_=some r):CQ Tryz.prog 105 #[.string s_,.string prefix_] w0 (.tuple #[.string r.1,.bool r.2]):=by
 refine goQ [4,5] func105 ntmps105 results105 hs λF hF=>?_
 refine BZ (aV (k:=aV (k:=BX (BZ (mV (k:=mV (k:=?_)))))))
 obtain⟨z1,hz2,h⟩:=bnd h
 refine vqV (caV call144) (λw hw=>iG (Γ:=Gh.all w) s_ hs_ prefix_ hprefix_ (Sat.all w) hz2) (k:=sV exV (k:=sV exV (k:=aV (k:=aV (k:=BX ?_)))))
 exact C2 λw hw=>by obtain rfl:=Option.some.inj h; exact⟨by kernel_rfl,fr_ hF hw⟩
theorem jO(s_:ByteArray)(hs_:s_.size≤lim)(hs:Sat Γ w0){r:ByteArray×ByteArray×Bool}(h:dK s_=some r):CQ Tryz.prog 145 #[.string s_,.string (⟨#[46]⟩:ByteArray)] w0 (.tuple #[.string r.1,.string r.2.1,.bool r.2.2]):=by
 refine goQ [4,5,6] func145 ntmps145 results145 hs λF hF=>?_
 refine BZ (aV (k:=aV (k:=aV (k:=BX (C1 (BZ (mV (k:=?_))))))))
 refine mV (k:=?_)
 obtain⟨z1,hz2,h⟩:=bnd h
 refine vqV (caV call97) (λw hw=>fI (Γ:=Gh.all w) s_ hs_ (Sat.all w) hz2) (k:=aV (k:=BX (BZ (mV (k:=sV kG (k:=BX ?_))))))
 refine ciV h (λhb3 h=>?_) (λhb3 h=>?_)
 ·
  refine C1 ?_
  refine drV ?_
  refine zV moV (k:=zV moV (k:=?_))
  obtain⟨hk4,h⟩:=ag h
  refine zV (s5 CU rfl rfl (jJ rfl hk4) (dD hk4)) (k:=zV moV (k:=zV moV (k:=zV moV (k:=zV (show QV _ _ _ _ (ii 1) from (show QV _ _ _ _ (ii (((⟨#[46]⟩:ByteArray).size:Nat):Int)) from cG rfl CU)) (k:=zV eH (k:=?_))))))
  obtain⟨hk5,h⟩:=ag h
  refine zV (sc CU rfl rfl (jJ rfl hk5) (dD hk5)) (k:=zV aoV (k:=zV aoV (k:=zV aoV (k:=?_))))
  refine Cd ?_
  change WC _ _ _ _ _ _
  exact C2 λw hw=>by obtain rfl:=Option.some.inj h; exact⟨by kernel_rfl,fr_ hF hw⟩
 refine C4 (wc_ (BZ (mV (k:=aV (k:=aV (k:=aV (k:=BX ?_)))))))
 exact C2 λw hw=>by obtain rfl:=Option.some.inj h; exact⟨by kernel_rfl,fr_ hF hw⟩
theorem rK(s_:ByteArray)(hs_:s_.size≤lim)(hs:Sat Γ w0){r:ByteArray×ByteArray×Bool}(h:jb s_=some r):CQ Tryz.prog 106 #[.string s_,.string (⟨#[46]⟩:ByteArray)] w0 (.tuple #[.string r.1,.string r.2.1,.bool r.2.2]):=by
 refine goQ [4,5,6] func106 ntmps106 results106 hs λF hF=>?_
 refine BZ (aV (k:=aV (k:=aV (k:=BX (BZ (mV (k:=mV (k:=?_))))))))
 obtain⟨z1,hz2,h⟩:=bnd h
 refine vqV (caV call145) (λw hw=>jO (Γ:=Gh.all w) s_ hs_ (Sat.all w) hz2) (k:=sV exV (k:=sV exV (k:=sV exV (k:=aV (k:=aV (k:=aV (k:=BX ?_)))))))
 exact C2 λw hw=>by obtain rfl:=Option.some.inj h; exact⟨by kernel_rfl,fr_ hF hw⟩
theorem r8(s_:ByteArray)(hs_:s_.size≤lim)(hs:Sat Γ w0){r:Int×Int}(h:gn s_=some r):CQ Tryz.prog 107 #[.string s_] w0 (.tuple #[ii r.1,ii r.2]):=by
 refine goQ [2,3] func107 ntmps107 results107 hs λF hF=>?_
 refine BZ (aV (k:=aV (k:=BX (C1 (BZ (mV (k:=sV rh (k:=?_))))))))
 refine mV (k:=vG0 (h:=λhg1=>moV) (k:=vG0 (h:=λhg2=>cG rfl CU (grV hg2)) (k:=vG0 (h:=λhg3=>cp rfl (grV hg3)) (k:=vG0 (h:=λhg4=>au (v:=.bool (decide (1<(s_.size:Int)))) rfl (grV hg4)) (k:=vh1 (c0:=(!(s_==ByteArray.empty))) (g:=(decide (1<(s_.size:Int)))) rfl rfl rfl rfl rfl (λ_=>QV.qo moV) ?_)))))
 obtain⟨hk7,h⟩:=ag h
 refine vh1 (c0:=(!(s_==ByteArray.empty))) (g:=(decide (1<(s_.size:Int)))) rfl rfl rfl rfl rfl (λhg6=>QV.qo (yW (i:=0) CU rfl (grV hg6) rfl (Cl (aD hk7 hg6)))) (vh1 (c0:=(!(s_==ByteArray.empty))) (g:=(decide (1<(s_.size:Int)))) rfl rfl rfl rfl rfl (λhg8=>QV.qo (bD rfl (grV hg8))) (vG0 (h:=λhg9=>fx rfl (grV hg9) (lr (c:=(!(s_==ByteArray.empty))) (g:=(decide (1<(s_.size:Int)))) (y:=((((gt s_.data.toList 0).toNat:Nat):Int)==48)) hg9)) (k:=sV pkO (k:=mV (k:=vG0 (h:=λhg10=>moV) (k:=vG0 (h:=λhg11=>cG rfl CU (grV hg11)) (k:=vG0 (h:=λhg12=>cp rfl (grV hg12)) (k:=?_))))))))
 refine sV pkO (k:=BX ?_)
 refine ciV h (λhb13 h=>?_) (λhb13 h=>?_)
 ·
  refine BZ (aV (k:=aV (k:=BX ?_)))
  exact C2 λw hw=>by obtain rfl:=Option.some.inj h; exact⟨by kernel_rfl,fr_ hF hw⟩
 refine C4 (wc_ (BZ (aV (k:=BX (C1 (BZ (mV (k:=?_))))))))
 refine zZ (src:=9) (dst:=69) (s:=s_) CU D2 D7 hs_ rfl rfl rfl rfl rfl ?_
 intro Γ14 A15 c16 hl17 hs18 hc19
 refine sV (ab rfl D2) (k:=mV (k:=BX (C5 ?_)))
 refine Cc h (λ(i23:Nat) (n_20:Int) σ w=>slots σ [(4,.int .u64 n_20),(25,.slice A15 (s_.data.toList).length c16),(26,ii (((s_.data.toList).length:Nat):Int)),(27,ii (i23:Int))]∧CC F Γ14 [] w∧U64 n_20∧True) ?_ ?_
 ·
  intro w hw
  exact⟨slK,(hw.on []),(show U64 0 by decide),trivial⟩
 rintro f22 i23 n_20 σ w hi24 hlt25 hge26 ⟨hsl,hw,hr21,-⟩
 refine slV hsl hw [] ?_; clear hw hsl
 refine BZ (sV aQ (k:=BX (C1 ?_)))
 refine coV (λhb27=>?_) (λhb27=>?_)
 ·
  have hl28:=ilt hb27
  have h:=hlt25 hl28
  refine C4 (wc_ (C1 (C5 (BZ (sV (aO (i:=i23) D2 D5 rfl rfl rfl hl28 (hs18.some_ hl28)) (k:=sV (q_ld (c:=0) (v:=.int .u8 (((gt (s_.data.toList) i23).toNat:Nat):Int)) (hs18.byteT_at hl28).2 rfl isAgg5 rfl rfl) (k:=aV (k:=?_))))))))
  refine BX (C1 (BZ (mV (k:=sV aQ (k:=mV (k:=vG0 (h:=λhg29=>moV) (k:=vG0 (h:=λhg30=>cp rfl (grV hg30)) (k:=?_))))))))
  refine sV pkO (k:=BX ?_)
  refine ciV h (λhb31 h=>?_) (λhb31 h=>?_)
  ·
   refine BZ (aV (k:=aV (k:=BX ?_)))
   exact C2 λw hw=>by obtain rfl:=Option.some.inj h; exact⟨by kernel_rfl,fr_ hF hw⟩
  refine C4 (wc_ ?_)
  refine C3 ?_
  refine mV (k:=sV tz (k:=mV (k:=sV iQ (k:=sV (j0 D6 D7) (k:=sV eH (k:=aV (k:=?_)))))))
  refine C0 ?_
  change WC _ _ _ _ _ _
  refine C3 ?_
  refine sV (aw rfl rfl rfl (aA hl28 hs18.le)) (k:=mV (k:=?_))
  exact C0 λw hw=>⟨hl28,(wu64 ((wu64 (10*n_20))+(wu64 (wu8 ((((gt (s_.data.toList) i23).toNat:Nat):Int) - 48))))),h,slK,hw,(sP _),trivial⟩
 have h:=hge26 (ige hb27)
 refine C8 ?_
 change WC _ _ _ _ _ _
 refine C1 (BZ (mV (k:=sV kG (k:=BX ?_))))
 refine ciV h (λhb32 h=>?_) (λhb32 h=>?_)
 ·
  refine BZ (aV (k:=aV (k:=BX ?_)))
  exact C2 λw hw=>by obtain rfl:=Option.some.inj h; exact⟨by kernel_rfl,fr_ hF hw⟩
 refine C4 (wc_ (BZ (mV (k:=sV (j0 underlying2 D6) (k:=aV (k:=aV (k:=BX ?_)))))))
 exact C2 λw hw=>by obtain rfl:=Option.some.inj h; exact⟨by kernel_rfl,fr_ hF hw⟩
abbrev lC(J:Gh→Rowb→af→Prop)(lY:Nat)(gb0:Nat)(gb0v0:Nat)(eb0v0:Nat)(b0v0:a7)(rowb0v0:Rowb)(b0v1:ByteArray)(b0v2:Int)(r:af)(U:List Rowb)(Γ:Gh)(v:Value):Prop := ∃(rowsY':Rowb),v = .tuple #[]∧U = [rowsY',[(gb0,.cells #[.pointer (some ⟨gb0v0,0,none⟩),.string b0v1,.int .i64 b0v2] 101 (0,0))],rowb0v0]∧af.ob J Γ lY rowsY' r∧True
theorem lR{J:Gh→Rowb→af→Prop}{Y:af→ByteArray→Int→Int→Option af}{lY:Nat}(hY:∀{Γ:Gh} {w:World} {row:Rowb} {s s':af} (y0_:ByteArray) (hy0_:y0_.size≤lim) (y1_0:Int) (hy1_0:I64 y1_0) (y1_1:Int) (hy1_1:I64 y1_1) (hs:af.ob J Γ lY row s) (hp:Pre [row] Γ w) (h:Y s y0_ y1_0 y1_1=some s'),YieldAt (FR none) 0 Tryz.prog lY #[.string y0_,.agg #[ii y1_0,ii y1_1]] w (Outc Γ [row] w λU Δ v => ∃row':Rowb,v = .bool true∧U = [row']∧af.ob J Δ lY row' s')){rowsY:Rowb}{sY:af}(hsY:af.ob J Γ lY rowsY sY){gb0:Nat}{gb0v0:Nat}{eb0v0:Nat}{rowb0v0:Rowb}{b0v0:a7}(hb0v0:a7.ob eb0v0 Γ gb0v0 rowb0v0 b0v0)(b0v1:ByteArray)(hb0v1:b0v1.size≤lim)(b0v2:Int)(hb0v2:I64 b0v2)(hp:Pre [rowsY,[(gb0,.cells #[(pq gb0v0),.string b0v1,ii b0v2] 101 (0,0))],rowb0v0] Γ w0){r:af}(h:fo Y sY b0v0 b0v1 b0v2=some r):Calls Tryz.prog 103 #[.func (.yield lY) #[] #[],(pq gb0)] w0 (Outc Γ [rowsY,[(gb0,.cells #[(pq gb0v0),.string b0v1,ii b0v2] 101 (0,0))],rowb0v0] w0 (lC J lY gb0 gb0v0 eb0v0 b0v0 rowb0v0 b0v1 b0v2 r)):=by
 refine goV [] func103 ntmps103 results103 hp λF hF=>?_
 refine BZ (sV (q_fl 0 ip) (k:=sV (ldV 1 Db) (k:=?_)))
 obtain⟨z1,hz2,h⟩:=bnd h
 refine ecV [2] (caV call104) (λw hp=>od hb0v0 hp hz2) ?_
 rintro Γ3 _ _ hl4 ⟨A7,c8,row9,rfl,rfl,hr10,_⟩
 refine cwV 16 [_,_,_,_] (sV (ab rfl Df) (k:=mV (k:=BX (C5 ?_))))
 refine Cc h (λ(i17:Nat) (o13:af) σ w => ∃(Γ11:Gh), ∃(row14:Rowb),slots σ [(0,.func (.yield lY) #[] #[]),(1,(pq gb0)),(16,.slice A7 z1.length c8),(17,ii (z1.length:Int)),(18,ii (i17:Int))]∧CC F Γ11 [rowb0v0,row9,row14,[(gb0,.cells #[(pq gb0v0),.string b0v1,ii b0v2] 101 (0,0))]] w∧Gh.le Γ3 Γ11∧af.ob J Γ11 lY row14 o13∧True) ?_ ?_
 ·
  intro w hw
  exact⟨Γ3,rowsY,slK,hw,gR,(hsY.mono hl4),trivial⟩
 rintro f16 i17 o13 σ w hi18 hlt19 hge20 ⟨Γ11,row14,hsl,hw,hl12,ho15,-⟩
 refine slV hsl hw [_,_,_,_] ?_; clear hw hsl
 refine BZ (sV aQ (k:=BX (C1 ?_)))
 refine coV (λhb21=>?_) (λhb21=>?_)
 ·
  have hl22:=ilt hb21
  have h:=hlt19 hl22
  refine C4 (wc_ (C1 (C5 (BZ (sV (aO (i:=i17) Df Dg rfl rfl rfl hl22 ((hr10.mono hl12).some_ hl22)) (k:=sV (ry (c:=0) (v:=.string (gt z1 i17)) (i:=1) rfl ((hr10.mono hl12).strT_at hl22).2 rfl D1 rfl rfl) (k:=aV (k:=?_))))))))
  refine BX (BZ (mV (k:=sV (q_fl 1 pQ) (k:=sV (ldV 3 D1) (k:=sV (py rfl rfl rfl hb0v1 (show (⟨#[46]⟩:ByteArray).size≤lim by decide)) (k:=?_))))))
  obtain⟨hk23,h⟩:=ag h
  obtain⟨z24,hz25,h⟩:=bnd h
  refine vqV (caV call105) (λw hw=>nl (Γ:=Gh.all w) (gt z1 i17) ((hr10.mono hl12).strT_at hl22).1 (b0v1++(⟨#[46]⟩:ByteArray)) (Cl hk23) (Sat.all w) hz25) (k:=mV (k:=sV exV (k:=sV exV (k:=aV (k:=aV (k:=BX (BZ ?_)))))))
  refine mV (k:=?_)
  obtain⟨hk26,h⟩:=ag h
  obtain⟨z27,hz28,h⟩:=bnd h
  refine vqV (caV call106) (λw hw=>rK (Γ:=Gh.all w) z24.1 (Cl hk26) (Sat.all w) hz28) (k:=mV (k:=sV exV (k:=sV exV (k:=sV exV (k:=aV (k:=aV (k:=aV (k:=?_))))))))
  refine BX (BZ (mV (k:=?_)))
  obtain⟨hk29,h⟩:=ag h
  obtain⟨z30,hz31,h⟩:=bnd h
  refine vqV (caV call107) (λw hw=>r8 (Γ:=Gh.all w) z27.1 (Cl hk29) (Sat.all w) hz31) (k:=mV (k:=sV exV (k:=sV exV (k:=aV (k:=aV (k:=BX (BZ ?_)))))))
  refine mV (k:=?_)
  obtain⟨hk32,h⟩:=ag h
  obtain⟨z33,hz34,h⟩:=bnd h
  refine vqV (caV call107) (λw hw=>r8 (Γ:=Gh.all w) z27.2.1 (Cl hk32) (Sat.all w) hz34) (k:=mV (k:=sV exV (k:=sV exV (k:=aV (k:=aV (k:=BX (C1 ?_)))))))
  refine WC.ofI (WCI.region ?_)
  refine WI.op (λ_ h=>nomatch h) ?_
  refine mV (k:=?_)
  refine C9 ?_
  refine WI.op (λ_ h=>nomatch h) ?_
  refine mV (k:=?_)
  refine C9 ?_
  refine WI.op (λ_ h=>nomatch h) ?_
  refine vG1 (h:=λhg35=>moV) (k:=?_)
  refine C9 ?_
  refine WI.op (λ_ h=>nomatch h) ?_
  refine sV pkA (k:=?_)
  refine C9 ?_
  refine WI.op (λ_ h=>nomatch h) ?_
  refine mV (k:=?_)
  refine C9 ?_
  refine WI.op (λ_ h=>nomatch h) ?_
  refine vG1 (h:=λhg36=>moV) (k:=?_)
  refine C9 ?_
  refine WI.op (λ_ h=>nomatch h) ?_
  refine vG1 (h:=λhg37=>bD rfl (grV hg37)) (k:=?_)
  refine C9 ?_
  refine WI.op (λ_ h=>nomatch h) ?_
  refine sV pkA (k:=?_)
  refine C9 ?_
  refine WI.op (λ_ h=>nomatch h) ?_
  refine mV (k:=?_)
  refine C9 ?_
  refine WI.op (λ_ h=>nomatch h) ?_
  refine vG1 (h:=λhg38=>moV) (k:=?_)
  refine C9 ?_
  refine WI.op (λ_ h=>nomatch h) ?_
  refine vG1 (h:=λhg39=>bD rfl (grV hg39)) (k:=?_)
  refine C9 ?_
  refine WI.op (λ_ h=>nomatch h) ?_
  refine sV pkA (k:=?_)
  refine C9 ?_
  refine WI.op (λ_ h=>nomatch h) ?_
  refine mV (k:=?_)
  refine C9 ?_
  refine WI.op (λ_ h=>nomatch h) ?_
  refine vG1 (h:=λhg40=>moV) (k:=?_)
  refine C9 ?_
  refine WI.op (λ_ h=>nomatch h) ?_
  refine vG1 (h:=λhg41=>gU rfl (grV hg41)) (k:=?_)
  refine C9 ?_
  refine WI.op (λ_ h=>nomatch h) ?_
  refine sV pkA (k:=?_)
  refine C9 ?_
  refine WI.op (λ_ h=>nomatch h) ?_
  refine mV (k:=?_)
  refine C9 ?_
  refine WI.op (λ_ h=>nomatch h) ?_
  refine vG1 (h:=λhg42=>moV) (k:=?_)
  refine C9 ?_
  refine WI.op (λ_ h=>nomatch h) ?_
  refine vG1 (h:=λhg43=>kG rfl (grV hg43)) (k:=?_)
  refine C9 ?_
  refine WI.op (λ_ h=>nomatch h) ?_
  refine sV pkA (k:=?_)
  refine C9 ?_
  refine WI.op (λ_ h=>nomatch h) ?_
  refine mV (k:=?_)
  refine C9 ?_
  refine WI.op (λ_ h=>nomatch h) ?_
  refine vG1 (h:=λhg44=>moV) (k:=?_)
  refine C9 ?_
  refine WI.op (λ_ h=>nomatch h) ?_
  refine vG1 (h:=λhg45=>gU rfl (grV hg45)) (k:=?_)
  refine C9 ?_
  refine WI.op (λ_ h=>nomatch h) ?_
  refine sV pkA (k:=?_)
  refine C9 ?_
  refine WI.op (λ_ h=>nomatch h) ?_
  refine mV (k:=?_)
  refine C9 ?_
  refine WI.op (λ_ h=>nomatch h) ?_
  refine vG1 (h:=λhg46=>au (v:=.func (.yield lY) #[] #[]) rfl (by kernel_rfl)) (k:=?_)
  refine C9 ?_
  refine WI.op (λ_ h=>nomatch h) ?_
  refine vG1 (h:=λhg47=>moV) (k:=?_)
  refine C9 ?_
  refine WI.op (λ_ h=>nomatch h) ?_
  refine vG1 (h:=λhg48=>moV) (k:=?_)
  refine C9 ?_
  refine WI.op (λ_ h=>nomatch h) ?_
  refine vG1 (h:=λhg49=>moV) (k:=?_)
  refine C9 ?_
  refine WI.op (λ_ h=>nomatch h) ?_
  refine vG1 (h:=λhg50=>aR (v:=.agg #[ii z30.1,ii z33.1]) rfl (ib (grV hg50) (grV hg50)) (λw=>by kernel_rfl)) (k:=?_)
  refine C9 ?_
  refine(Bool.eq_false_or_eq_true ((((((z24.2&&z27.2.2)&&(z30.2==0))&&(z33.2==0))&&(decide (z30.1≤999999)))&&(decide (1≤z33.1)))&&(decide (z33.1≤999999)))).elim (λhb51=>?_) (λhb51=>?_)
  ·
   have h:=bt hb51 h
   refine WI.sat (c0:=true) (g:=((((((z24.2&&z27.2.2)&&(z30.2==0))&&(z33.2==0))&&(decide (z30.1≤999999)))&&(decide (1≤z33.1)))&&(decide (z33.1≤999999)))) rfl rfl rfl hb51 ?_
   obtain⟨hk52,h⟩:=ag h
   obtain⟨hk53,h⟩:=ag h
   obtain⟨z54,hz55,h⟩:=bnd h
   refine WI.yield (is:=[2]) rfl rfl (λ_ h=>nomatch h) (sw rfl (grV hb51) (cN (grV hb51) (grV hb51))) rfl (λw hp=>hY (gt z1 i17) ((hr10.mono hl12).strT_at hl22).1 z30.1 (dY hk52) z33.1 (dY hk53) ho15 hp hz55) ?_
   rintro Γ56 _ _ hl57 ⟨row60,rfl,rfl,hr61⟩
   change WI _ _ _ _ (CC F Γ56 [row60,rowb0v0,row9,[(gb0,.cells #[(pq gb0v0),.string b0v1,ii b0v2] 101 (0,0))]]) _ _ (upd _ 76 (.bool true))
   refine WI.sat (c0:=true) (g:=((((((z24.2&&z27.2.2)&&(z30.2==0))&&(z33.2==0))&&(decide (z30.1≤999999)))&&(decide (1≤z33.1)))&&(decide (z33.1≤999999)))) rfl rfl rfl hb51 ?_
   refine WI.op (λ_ h=>nomatch h) ?_
   refine sV aX (k:=?_)
   refine C9 ?_
   refine WI.op (λ_ h=>nomatch h) ?_
   refine sV (eZ (v:=.bool (!true)) rfl rfl hb51 (by kernel_rfl)) (k:=?_)
   refine C9 ?_
   refine WI.nil ?_
   change WC _ _ _ _ _ _
   refine Cb (b:=(!true)) (by kernel_rfl) (nott rfl) ?_
   refine C4 (wc_ ?_)
   refine C3 ?_
   refine sV (aw rfl rfl rfl (aA hl22 (hr10.mono hl12).le)) (k:=mV (k:=?_))
   exact C0 λw hw=>⟨hl22,z54,h,Γ56,row60,slK,(hw.on [1,1,0,0]),(hl12.trans hl57),hr61,trivial⟩
  have h:=bf hb51 h
  refine WI.op (λ_ h=>nomatch h) ?_
  refine C6 (c0:=true) (g:=((((((z24.2&&z27.2.2)&&(z30.2==0))&&(z33.2==0))&&(decide (z30.1≤999999)))&&(decide (1≤z33.1)))&&(decide (z33.1≤999999)))) rfl rfl rfl hb51 rfl ?_
  refine C9 ?_
  refine WI.op (λ_ h=>nomatch h) ?_
  refine C6 (c0:=true) (g:=((((((z24.2&&z27.2.2)&&(z30.2==0))&&(z33.2==0))&&(decide (z30.1≤999999)))&&(decide (1≤z33.1)))&&(decide (z33.1≤999999)))) rfl rfl rfl hb51 rfl ?_
  refine C9 ?_
  refine WI.op (λ_ h=>nomatch h) ?_
  refine sV (eh (v:=.bool false) rfl rfl hb51 (by kernel_rfl)) (k:=?_)
  refine C9 ?_
  refine WI.nil ?_
  change WC _ _ _ _ _ _
  refine Cb (b:=false) (by kernel_rfl) rfl ?_
  refine C4 (wc_ ?_)
  refine C3 ?_
  refine sV (aw rfl rfl rfl (aA hl22 (hr10.mono hl12).le)) (k:=mV (k:=?_))
  exact C0 λw hw=>⟨hl22,o13,h,Γ11,row14,slK,hw,hl12,ho15,trivial⟩
 have h:=hge20 (ige hb21)
 refine C8 ?_
 intro w hw
 cases h
 subst hF
 exact aM (is:=[2,2,0]) (by kernel_rfl) hw rfl ⟨row14,rfl,rfl,ho15,trivial⟩
abbrev nP(gd:Nat)(ed:Nat)(r:a7×Int)(U:List Rowb)(Γ:Gh)(v:Value):Prop := ∃(rowd':Rowb),v = .int .i64 r.2∧U = [rowd']∧a7.ob ed Γ gd rowd' r.1∧I64 r.2∧True
theorem nV{gd ed:Nat}{rowd:Rowb}{d:a7}(hd:a7.ob ed Γ gd rowd d)(name:ByteArray)(hname:name.size≤lim)(hp:Pre [rowd] Γ w0){r:a7×Int}(h:dS d name=some r):Calls Tryz.prog 75 #[(pq gd),.string name] w0 (Outc Γ [rowd] w0 (nP gd ed r)):=by
 refine goV [4] func75 ntmps75 results75 hp λF hF=>?_
 refine BZ ?_
 refine bxV (v:=.string name) λg1=>?_
 refine aV (k:=BX (C1 (BZ (mV (k:=sV (ldV 0 D1) (k:=?_))))))
 obtain⟨z2,hz3,h⟩:=bnd h
 refine vqV (caV call100) (λw hw=>kB (Γ:=Gh.all w) (hd.mono hw.sat.le_all) (hw.ra 1 rfl) name hname (Sat.all w) hz3) (k:=aV (k:=BX (BZ (mV (k:=sV bO (k:=BX ?_))))))
 refine ciV h (λhb4 h=>?_) (λhb4 h=>?_)
 ·
  refine BZ (mV (k:=aV (k:=BX ?_)))
  refine C2 ?_
  intro w hw
  obtain⟨hk5,h⟩:=ag h
  cases h
  subst hF
  exact aM (is:=[1]) (by kernel_rfl) hw rfl ⟨rowd,rfl,rfl,hd,(dY hk5),trivial⟩
 refine C4 (wc_ (BZ (mV (k:=sV (iD (v:=.func (.func 108) #[] #[(pq g1)]) rfl (by kernel_rfl)) (k:=sV (aR (v:=.agg #[.func (.func 108) #[] #[(pq g1)],.string ByteArray.empty,.slice none 0 0]) rfl (jy rfl) (λw=>by kernel_rfl)) (k:=?_))))))
 intro w hw; obtain⟨Γ6,hw,hl7,hr8⟩:=hw.seal (i:=0) rfl
 have hg9:=hr8 _ (List.mem_singleton.2 rfl)
 refine WR.here (C:=CC F Γ6 [_,_]) ?_ hw
 clear hw
 have hf10:aj.ok Γ6 none g1 (aj.disk_Disk_Remove_1 name):=⟨⟨hg9,hname⟩,trivial⟩
 obtain⟨z11,hz12,h⟩:=bnd h
 refine ecV [1] (caV call101) (λw hp=>iX (hd.mono hl7) (Ac_2:=none) (cc_2:=0) (⟨(aj.disk_Disk_Remove_1 name),ByteArray.empty,[]⟩:aG) ⟨hf10,(show (ByteArray.empty:ByteArray).size≤lim by decide),nilV⟩ hp hz12) ?_
 rintro Γ13 _ _ hl14 ⟨row17,rfl,rfl,hr18,hr19,_⟩
 refine cwV 15 [_,_] (aV (k:=BX ?_))
 exact C2 λw hw=>re_ r [0] h hF hw ⟨row17,rfl,rfl,hr18,hr19,trivial⟩
def JRem(Γb:Gh)(l gl g3 fT:Nat)(caps:Array Value)(rowT:Rowb)(rec:Loop)(Γ:Gh)(row:Rowb)(s:af):Prop := ∃(A:Option Addr) (c:Nat) (rowo:Rowb),Γb.le Γ∧row=([[(l,.loop rec)],[(gl,.cells #[.slice A s.length c] 154 (0,0))],rowo,[(g3,.cells #[.func (.func fT) #[] caps] 107 (0,0))],rowT]:List Rowb).flatten∧Own strT Γ 9 rowo A c s
theorem mC{gd:Nat}{name:ByteArray}{gen:Int}(hp:Pre [] Γ w0):Calls Tryz.prog 74 #[.agg #[(pq gd),.string name,ii gen]] w0 (Outc Γ [] w0 (λU Δ v => ∃g1:Nat,v = .func (.func 103) #[] #[(pq g1)]∧U = [[(g1,.cells #[(pq gd),.string name,ii gen] 101 (0,0))]])):=by
 refine goV [2] func74 ntmps74 results74 hp λF hF=>?_
 refine BZ ?_
 refine bxV (v:=.agg #[(pq gd),.string name,ii gen]) λg1=>?_
 refine aU (v:=.nilFunc) (k:=?_)
 refine C0 ?_
 change WC _ _ _ _ _ _
 refine BZ (sV (iD (v:=.func (.func 103) #[] #[(pq g1)]) rfl (by kernel_rfl)) (k:=aU (v:=.func (.func 103) #[] #[(pq g1)]) (k:=?_)))
 refine C0 ?_
 change WC _ _ _ _ _ _
 refine C2 ?_
 intro w hw
 subst hF
 exact aM (is:=[0]) (by kernel_rfl) hw rfl ⟨g1,rfl,rfl⟩
set_option maxRecDepth 100000 in
set_option maxHeartbeats 800000 in
theorem iM{Γ:Gh}{w0:World}{gd ed:Nat}{rowd:Rowb}{d:a7}(hd:a7.ob ed Γ gd rowd d)(name:ByteArray)(hname:name.size≤lim)(gen:Int)(hgen:I64 gen){fT:Nat}{caps:Array Value}{rowT:Rowb}(pred:Int→Int→Option Bool)
  (hT:∀{Γ2:Gh} {w:World} (x:Int) (hx:I64 x) (y:Int) (hy:I64 y),Γ.le Γ2→Pre [rowT] Γ2 w→∀{q:Bool},pred x y=some q→Calls Tryz.prog fT (#[ii x,ii y]++caps) w (λe w'=>e = .returned (.bool q)∧Fr no w w'))
  (eT:∀(args:Array Value) (w:World),(callFunc fT args).run Tryz.prog w = .ok (.enter fT args) w) (hp:Pre [rowd,rowT] Γ w0) {r:a7} (h:cc d name gen pred=some r) :
  Calls Tryz.prog 38 #[.agg #[(pq gd),.string name,ii gen],.func (.func fT) #[] caps] w0 (Outc Γ [rowd,rowT] w0 (λU Δ v => ∃rowd',v = .tuple #[]∧U = [rowd',rowT]∧a7.ob ed Δ gd rowd' r)):=by
 obtain⟨z,hz,h⟩:=bnd h
 refine sa (n:=34) (rs:=[]) (args:=[.agg #[(pq gd),.string name,ii gen],.func (.func fT) #[] caps]) func38 rfl ntmps38 results38 rfl ?_
 obtain⟨F,hF⟩:∃F:Fm,F=⟨ids [rowd,rowT],w0,Γ⟩:=⟨_,rfl⟩
 refine WC2.here (C:=CC F Γ [rowd,rowT]) ?_ (hF▸hp.start)
 refine WC2.seq ?_
 refine C3 ?_
 refine bxV (v:=.agg #[(pq gd),.string name,ii gen]) λg2=>?_
 refine bxV (v:=.func (.func fT) #[] caps) λg3=>?_
 refine C0 ?_
 change WC2 _ _ _ _ _ _
 refine WC2.seq ?_
 refine C3 ?_
 refine alV zeroValue154 λgl=>?_
 refine C0 ?_
 change WC2 _ _ _ _ _ _
 refine WC2.seq3 ?_
 refine C3 ?_
 refine sV (ldaV 2 [(pq gd),.string name,ii gen] Dd De) (k:=?_)
 refine ecV [] (caV call74) (λw hp=>mC (gd:=gd) (name:=name) (gen:=gen) hp) ?_
 rintro Γ1 _ _ hl1 ⟨g1,rfl,rfl⟩
 refine cwV 10 [_,_,_,_,_,_] ?_
 refine C0 ?_
 change WC3 _ _ _ _ _ _ _
 refine WC3.rangeF (n:=34) (gf:=103) (lb:=#[(pq g1)]) (by kernel_rfl) call103 ?_
 intro l D rec w hst hpe hps has hbo hagr hw
 have hY:∀{Γa:Gh} {w:World} {row:Rowb} {s s':af} (y0_:ByteArray) (hy0_:y0_.size≤lim) (y1_0:Int) (hy1_0:I64 y1_0) (y1_1:Int) (hy1_1:I64 y1_1) (hs:af.ob (JRem Γ l gl g3 fT caps rowT rec) Γa l row s) (hp:Pre [row] Γa w) (h:cO pred s y0_ y1_0 y1_1=some s'),
   YieldAt (FR none) 0 Tryz.prog l #[.string y0_,.agg #[ii y1_0,ii y1_1]] w (Outc Γa [row] w λU Δ v => ∃row':Rowb,v = .bool true∧U = [row']∧af.ob (JRem Γ l gl g3 fT caps rowT rec) Δ l row' s'):=by
  intro Γa w row s s' f hf x hx y hy hs hp h
  obtain⟨q,hq,h⟩:=bnd h
  obtain⟨Γ',hle,Ao,co,rowo,hgb,rfl,ho⟩:=hs
  have hgb:=hgb.trans hle
  have ho:=ho.mono hle
  refine YieldAt.mono (R:=Outc Γa [[(l,.loop rec)],[(gl,.cells #[.slice Ao s.length co] 154 (0,0))],rowo,[(g3,.cells #[.func (.func fT) #[] caps] 107 (0,0))],rowT] w λU Δ v => ∃A2 c2 row2,v = .bool true∧U = [[(l,.loop rec)],[(gl,.cells #[.slice A2 s'.length c2] 154 (0,0))],row2,[(g3,.cells #[.func (.func fT) #[] caps] 107 (0,0))],rowT]∧Own strT Δ 9 row2 A2 c2 s') ?_ ?_
  ·
   refine um has hbo hp.parts hst hpe (by rw [hps]; rfl) (N:=⟨34,[]⟩) (σ1:=_) (by rw [hps]; exact hagr.par2 rfl rfl) ?_
   intro F hF
   refine WCI.rs ?_
   refine WI.op (λ_ h=>nomatch h) ?_
   refine aV (k:=?_)
   refine C9 ?_
   refine WI.done ?_
   refine WCI.region ?_
   refine WI.op (λ_ h=>nomatch h) ?_
   refine alV zeroValue158 λg6=>?_
   refine C9 ?_
   refine WI.op (λ_ h=>nomatch h) ?_
   refine stV 0 (.agg #[ii x,ii y]) #[ii x,ii y] sizeOf158 (k:=?_)
   refine C9 ?_
   refine WI.nil ?_
   intro w hw
   have hw:Cur F Γa ([(l,.loop rec)]::[[(g6,.cells #[ii x,ii y] 158 (0,0))],[(gl,.cells #[.slice Ao s.length co] 154 (0,0))],rowo,[(g3,.cells #[.func (.func fT) #[] caps] 107 (0,0))],rowT]) w:=hw.permL (List.Perm.swap _ _ _)
   refine⟨Γa,_,hw,?_⟩
   refine WCI.block ?_
   refine WCI.rs ?_
   refine WI.op (λ_ h=>nomatch h) ?_
   refine sV (ldV 4 isAgg107) (k:=?_)
   refine C9 ?_
   refine WI.op (λ_ h=>nomatch h) ?_
   refine sV (yb (0) underlying158 Dh rfl rfl rfl rfl rfl) (k:=?_)
   refine C9 ?_
   refine WI.op (λ_ h=>nomatch h) ?_
   refine sV (ldV 1 D0) (k:=?_)
   refine C9 ?_
   refine WI.op (λ_ h=>nomatch h) ?_
   refine sV (yb (1) underlying158 Dh rfl rfl rfl rfl rfl) (k:=?_)
   refine C9 ?_
   refine WI.op (λ_ h=>nomatch h) ?_
   refine sV (ldV 1 D0) (k:=?_)
   refine C9 ?_
   refine WI.op (λ_ h=>nomatch h) ?_
   refine vc rfl rfl rfl (b3 (v:=.bool q) (gE (caps:=caps) (args:=#[ii x,ii y]++caps) eT rfl (by kernel_rfl) (by kernel_rfl)) (λw hw=>(by exact hT x hx y hy hgb (hw.on [5]).pre hq))) ?_
   refine C9 ?_
   refine WI.done ?_
   refine WCI.cond (b:=q) (by kernel_rfl) (λhb=>?_) (λhb=>?_)
   ·
    have h:=bt hb h
    obtain⟨hk,h⟩:=ag h
    cases h
    refine WCI.region ?_
    refine WI.op (λ_ h=>nomatch h) ?_
    refine sV (ldV 2 isAgg154) (k:=?_)
    refine C9 ?_
    refine WI.op (λ_ h=>nomatch h) ?_
    refine mV (k:=?_)
    refine C9 ?_
    refine WI.op (λ_ h=>nomatch h) ?_
    refine bsV #[.string f] 9 λgb=>?_
    refine C9 ?_
    refine WI.op (λ_ h=>nomatch h) ?_
    refine apV 4 [f] y7 ho (Cl hk) (λw hw=>cM (i:=0) rfl (by exact⟨rfl,hf⟩) hw) ?_
    intro row2 A2 c2 ho2
    refine C9 ?_
    refine WI.op (λ_ h=>nomatch h) ?_
    refine stV 3 (.slice A2 (s++[f]).length c2) #[.slice A2 (s++[f]).length c2] sizeOf154 (k:=?_)
    refine C9 ?_
    exact WI.nil λw hw=>⟨Γa,_,hw.on [1,2,2,2,2],A2,c2,row2,rfl,rfl,ho2⟩
   have h:=bf hb h
   cases h
   exact WCI.skip λw hw=>⟨Γa,_,hw.on [0,1,1,1,1],Ao,co,rowo,rfl,rfl,ho⟩
  rintro e w2 ⟨v,rfl,Δ,U,he,A2,c2,row2,rfl,rfl,ho2⟩
  exact⟨_,rfl,Δ,_,he.glue,_,rfl,rfl,YS.of ⟨A2,c2,row2,hgb.trans he.le,rfl,ho2⟩⟩
 have hw:=hw.pad
 have h2:=hw.fold (is:=[1,3,0,2,4]) rfl rfl
 have h3:Cur F Γ1 ([([[(l,.loop rec)],[(gl,.cells #[.slice none 0 0] 154 (0,0))],[],[(g3,.cells #[.func (.func fT) #[] caps] 107 (0,0))],rowT]:List Rowb).flatten,[(g1,.cells #[(pq gd),.string name,ii gen] 101 (0,0))],rowd]++[[(D,.deferred (some []))],[(g2,.cells #[(pq gd),.string name,ii gen] 101 (0,0))]]) w:=h2.pick (is:=[0,1,2]) rfl
 refine(lR (J:=JRem Γ l gl g3 fT caps rowT rec) (Y:=cO pred) (lY:=l) (sY:=[]) hY (YS.of ⟨none,0,[],hl1,rfl,Own.nil _ _ _⟩) (hd.mono hl1) name hname gen hgen (h2.only (is:=[0,1,2]) rfl).pre hz).mono ?_
 rintro e w' ⟨v,rfl,Δ,U',he,rowY',rfl,rfl,hJ',-⟩
 have h4:=h3.eff he
 obtain⟨Γ',hle,A',c',rowo', -,hrow,ho'⟩:=hJ'
 have ho':=ho'.mono hle
 have h5:=h4.unfold (i:=0) rfl hrow
 have hd':=(hd.mono hl1).mono he.le
 refine⟨_,rfl,Δ,[[(gl,.cells #[.slice A' z.length c'] 154 (0,0))],rowo',rowT,rowd,[(g2,.cells #[(pq gd),.string name,ii gen] 101 (0,0))]],h5.only (is:=[0,6,0,0,1,2,2]) rfl,?_⟩
 refine WC2.of ?_
 refine BZ (sV (ldV 1 isAgg154) (k:=sV (ab rfl Df) (k:=mV (k:=?_))))
 refine C0 ?_
 change WC _ _ _ _ _ _
 refine C5 ?_
 refine Cc h (λ(i:Nat) (x:a7) σ w => ∃(Γ2:Gh) (rowd2:Rowb),slots σ [(2,(pq g2)),(23,.slice A' z.length c'),(24,ii (z.length:Int)),(25,ii (i:Int))]∧CC F Γ2 [[(D,.deferred (some []))],[(gl,.cells #[.slice A' z.length c'] 154 (0,0))],rowo',rowT,rowd2,[(g2,.cells #[(pq gd),.string name,ii gen] 101 (0,0))]] w∧Gh.le Δ Γ2∧a7.ob ed Γ2 gd rowd2 x∧True) ?_ ?_
 ·
  intro w hw
  exact⟨Δ,rowd,slK,hw,gR,hd',trivial⟩
 rintro f11 i x σ w hi13 hlt14 hge15 ⟨Γ2,rowd2,hsl,hw,hl5,hd2,-⟩
 refine slV hsl hw [_,_,_,_,_,_] ?_; clear hw hsl
 refine BZ (sV aQ (k:=?_))
 refine C0 ?_
 change WC _ _ _ _ _ _
 refine C1 ?_
 refine coV (λhb16=>?_) (λhb16=>?_)
 ·
  have hl17:=ilt hb16
  have h:=hlt14 hl17
  refine C4 (wc_ (C1 (C5 (BZ (sV (aO (i:=i) Df Dg rfl rfl rfl hl17 ((ho'.mono hl5).some_ hl17)) (k:=sV (ry (c:=0) (v:=.string (gt z i)) (i:=2) rfl ((ho'.mono hl5).strT_at hl17).2 rfl D1 rfl rfl) (k:=aV (k:=?_))))))))
  refine C0 ?_
  change WC _ _ _ _ _ _
  refine C3 ?_
  refine sV (q_fl 0 ip) (k:=sV (ldV 5 Db) (k:=mV (k:=?_)))
  obtain⟨y,hy,h⟩:=bnd h
  refine ecV [4] (caV call75) (λw hp=>nV hd2 (gt z i) ((ho'.mono hl5).strT_at hl17).1 hp hy) ?_
  rintro Γ3 _ _ hl3 ⟨rowd3,rfl,rfl,hd3,hr3,-⟩
  refine cwV 32 [_,_,_,_,_,_] ?_
  refine C0 ?_
  change WC _ _ _ _ _ _
  refine C3 ?_
  refine sV (aw rfl rfl rfl (aA hl17 ho'.le)) (k:=mV (k:=?_))
  exact C0 λw hw=>⟨hl17,y.1,h,Γ3,rowd3,slK,hw.on [1,1,1,1,0,0],hl5.trans hl3,hd3,trivial⟩
 have h:=hge15 (ige hb16)
 cases h
 refine C8 ?_
 intro w hw
 subst hF
 exact AE (N:=⟨34,[]⟩) (is:=[3,2]) (by kernel_rfl) hw rfl ⟨rowd2,rfl,rfl,hd2⟩
abbrev qe(gb0:Nat)(b0v:Int)(r:Bool)(U:List Rowb)(Γ:Gh)(v:Value):Prop:=v = .bool r∧U = [[(gb0,.cells #[.int .i64 b0v] 2 (0,0))]]∧True
theorem qc(g_:Int)(hg_:I64 g_)(a1:Int)(ha1:I64 a1){gb0:Nat}(b0v:Int)(hb0v:I64 b0v)(hp:Pre [[(gb0,.cells #[ii b0v] 2 (0,0))]] Γ w0){r:Bool}(h:fF g_ a1 b0v=some r):Calls Tryz.prog 39 #[ii g_,ii a1,(pq gb0)] w0 (Outc Γ [[(gb0,.cells #[ii b0v] 2 (0,0))]] w0 (qe gb0 b0v r)):=by
 refine goV [5] func39 ntmps39 results39 hp λF hF=>?_
 refine BZ (aV (k:=BX (BZ (mV (k:=sV (ldV 0 D0) (k:=sV bO (k:=aV (k:=?_))))))))
 refine BX ?_
 exact C2 λw hw=>re_ r [0] h hF hw ⟨rfl,rfl,trivial⟩
theorem o9(n:Int)(hn:I64 n)(hs:Sat Γ w0){r:ByteArray}(h:iy n=some r):CQ Tryz.prog 109 #[ii n] w0 (.string r):=by
 refine goQ [2] func109 ntmps109 results109 hs λF hF=>?_
 refine BZ (aV (k:=BX (BZ ?_)))
 refine alV zeroValue244 λg1=>?_
 have ho2:Own ay Γ 244 [(g1,.cells #[.int .u8 0,.int .u8 0,.int .u8 0,.int .u8 0,.int .u8 0,.int .u8 0,.int .u8 0,.int .u8 0,.int .u8 0,.int .u8 0,.int .u8 0,.int .u8 0,.int .u8 0,.int .u8 0,.int .u8 0,.int .u8 0,.int .u8 0,.int .u8 0,.int .u8 0,.int .u8 0] 244 (0,0))] (some ⟨g1,0,none⟩) 20 (List.replicate 20 (b8 0)):=xq (T:=ay) 20 [.int .u8 0] (b8 0) rfl (by show [Value.int .u8 0] = [Value.int .u8 _]; rw [pm (by decide)]) (by decide)
 refine BX (BZ (aV (k:=BX (BZ (mV (k:=sV (j0 D6 underlying2) (k:=aV (k:=?_))))))))
 refine BX ?_
 refine Ce (λσ w => ∃(u_3:Int),i6 n u_3=some r∧slots σ [(0,ii n),(3,(pq g1)),(4,ii 20),(5,.int .u64 u_3)]∧CC F Γ [[(g1,.cells #[.int .u8 0,.int .u8 0,.int .u8 0,.int .u8 0,.int .u8 0,.int .u8 0,.int .u8 0,.int .u8 0,.int .u8 0,.int .u8 0,.int .u8 0,.int .u8 0,.int .u8 0,.int .u8 0,.int .u8 0,.int .u8 0,.int .u8 0,.int .u8 0,.int .u8 0,.int .u8 0] 244 (0,0))]] w∧U64 u_3∧True) ?_ ?_
 ·
  refine BZ (mV (k:=sV aQ (k:=BX ?_)))
  refine ciV h (λhb5 h=>?_) (λhb5 h=>?_)
  ·
   refine C3 ?_
   refine mV (k:=sV Aq (k:=aV (k:=?_)))
   exact C0 λw hw=>⟨(wu64 (0 - (wu64 n))),h,slK,hw,(sP _),trivial⟩
  exact C4 λw hw=>⟨(wu64 n),h,slK,hw,(sP _),trivial⟩
 rintro σ w ⟨u_3,h,hsl,hw,hr4,-⟩
 refine slV hsl hw [_] ?_; clear hw hsl
 refine C1 (C5 ?_)
 refine WC.loopN h (λ(s:Int×Int×(List UInt8)) σ w=>match s with | (at_6,u_8,x10) => ∃(row11:Rowb),slots σ [(0,ii n),(3,(pq g1)),(4,ii at_6),(5,.int .u64 u_8)]∧CC F Γ [row11] w∧I64 at_6∧U64 u_8∧x10.length=20∧Own ay Γ 244 row11 (some ⟨g1,0,none⟩) 20 x10∧True) ?_ ?_
 ·
  intro w hw
  exact⟨[(g1,.cells #[.int .u8 0,.int .u8 0,.int .u8 0,.int .u8 0,.int .u8 0,.int .u8 0,.int .u8 0,.int .u8 0,.int .u8 0,.int .u8 0,.int .u8 0,.int .u8 0,.int .u8 0,.int .u8 0,.int .u8 0,.int .u8 0,.int .u8 0,.int .u8 0,.int .u8 0,.int .u8 0] 244 (0,0))],slK,hw,iV,hr4,List.length_replicate,ho2,trivial⟩
 rintro f14 ⟨at_6,u_8,x10⟩ σ w h ⟨row11,hsl,hw,hr7,hr9,hn13,ho12,-⟩
 refine slV hsl hw [_] ?_; clear hw hsl
 refine C1 (BZ (mV (k:=sV bD (k:=mV (k:=vG0 (h:=λhg18=>moV) (k:=vG0 (h:=λhg19=>cp rfl (grV hg19)) (k:=sV pkO (k:=?_))))))))
 refine BX ?_
 refine ciV h (λhb20 h=>?_) (λhb20 h=>?_)
 ·
  refine C4 (wc_ (C5 (BZ (mV (k:=sV iQ (k:=aV (k:=BX ?_)))))))
  refine BZ (mV (k:=mV (k:=sV (BV rfl rfl rfl (by decide)) (k:=sV eH (k:=sV (j0 D7 D6) (k:=?_))))))
  obtain⟨hk21,h⟩:=ag h
  refine sV (xR underlying244 D5 rfl rfl rfl hk21) (k:=?_)
  refine jm (T:=ay) (q:=(w64 (at_6 - 1)).toNat) (v:=.int .u8 (wu8 (wu64 (48+(u_8.tmod 10))))) (y:=(b8 (wu8 (wu64 (48+(u_8.tmod 10)))))) rfl rfl rfl rfl (by kernel_rfl) D5 (by exact(by show [Value.int .u8 (wu8 (wu64 (48+(u_8.tmod 10))))] = [Value.int .u8 _]; rw [pm (xV _)])) (i:=0) rfl ho12 (ltq (dU hk21) hn13.symm) ?_
  intro row22 ho23
  refine BX ?_
  refine C3 ?_
  refine mV (k:=sV (Bq rfl rfl rfl (by decide)) (k:=aV (k:=?_)))
  exact C0 λw hw=>⟨((w64 (at_6 - 1)),(wu64 (u_8.tdiv 10)),(List.set x10 ((w64 (at_6 - 1)).toNat) (b8 (wu8 (wu64 (48+(u_8.tmod 10))))))),h,row22,slK,hw,(ji _),(sP _),(List.length_set.trans hn13),ho23,trivial⟩
 refine C8 ?_
 change WC _ _ _ _ _ _
 refine Ce (λσ w => ∃(at_24:Int), ∃(x26:List UInt8), ∃(row27:Rowb),fG at_24 x26=some r∧slots σ [(3,(pq g1)),(4,ii at_24)]∧CC F Γ [row27] w∧I64 at_24∧x26.length=20∧Own ay Γ 244 row27 (some ⟨g1,0,none⟩) 20 x26∧True) ?_ ?_
 ·
  refine BZ (mV (k:=sV aQ (k:=BX ?_)))
  refine ciV h (λhb30 h=>?_) (λhb30 h=>?_)
  ·
   refine BZ (mV (k:=sV iQ (k:=aV (k:=BX ?_))))
   refine C3 ?_
   refine mV (k:=?_)
   obtain⟨hk31,h⟩:=ag h
   refine sV (xR underlying244 D5 rfl rfl rfl hk31) (k:=?_)
   refine jm (T:=ay) (q:=(w64 (at_6 - 1)).toNat) (v:=.int .u8 45) (y:=(b8 45)) rfl rfl rfl rfl (by kernel_rfl) D5 (by exact(by show [Value.int .u8 45] = [Value.int .u8 _]; rw [pm (by decide)])) (i:=0) rfl ho12 (ltq (dU hk31) hn13.symm) ?_
   intro row32 ho33
   exact C0 λw hw=>⟨(w64 (at_6 - 1)),(List.set x10 ((w64 (at_6 - 1)).toNat) (b8 45)),row32,h,slK,hw,(ji _),(List.length_set.trans hn13),ho33,trivial⟩
  exact C4 λw hw=>⟨at_6,x10,row11,h,slK,hw,hr7,hn13,ho12,trivial⟩
 rintro σ w ⟨at_24,x26,row27,h,hsl,hw,hr25,hn29,ho28,-⟩
 refine slV hsl hw [_] ?_; clear hw hsl
 refine BZ (mV (k:=?_))
 obtain⟨hk34,h⟩:=ag h
 refine sV (th (lo:=at_24.toNat) (xs:=x26) underlying244 D5 rfl rfl (jJ rfl hk34) hn29 (dD hk34)) (k:=sV (zo (i:=0) (lo:=at_24.toNat) rfl (ho28) D2 D7 CU rfl rfl (Nat.le_of_eq hn29)) (k:=aV (k:=BX ?_)))
 exact C2 λw hw=>rq_ r h hF hw
theorem jE{gp__0:Nat}(p__1:ByteArray)(hp__1:p__1.size≤lim)(p__2:Int)(hp__2:I64 p__2)(gen:Int)(hgen:I64 gen)(part:Int)(hpart:I64 part)(hs:Sat Γ w0){r:ByteArray}(h:cH p__1 p__2 gen part=some r):CQ Tryz.prog 76 #[.agg #[(pq gp__0),.string p__1,ii p__2],ii gen,ii part] w0 (.string r):=by
 refine goQ [6] func76 ntmps76 results76 hs λF hF=>?_
 refine BZ ?_
 refine bxV (v:=.agg #[(pq gp__0),.string p__1,ii p__2]) λg1=>?_
 refine aV (k:=BX (C1 ?_))
 refine drV ?_
 refine zV (q_fl 1 pQ) (k:=zV (ldV 0 D1) (k:=zV (py rfl rfl rfl hp__1 (show (⟨#[46]⟩:ByteArray).size≤lim by decide)) (k:=zV moV (k:=?_))))
 obtain⟨z2,hz3,h⟩:=bnd h
 refine wc rfl rfl rfl (b3 (caV call109) (λw hw=>o9 (Γ:=Gh.all w) gen hgen (Sat.all w) hz3)) ?_
 obtain⟨hk4,h⟩:=ag h
 obtain⟨hk5,h⟩:=ag h
 refine zV (py rfl rfl rfl (Cl hk4) (Cl hk5)) (k:=?_)
 obtain⟨hk6,h⟩:=ag h
 refine zV (py rfl rfl rfl (Cl hk6) (show (⟨#[46]⟩:ByteArray).size≤lim by decide)) (k:=zV moV (k:=?_))
 obtain⟨z7,hz8,h⟩:=bnd h
 refine wc rfl rfl rfl (b3 (caV call109) (λw hw=>o9 (Γ:=Gh.all w) part hpart (Sat.all w) hz8)) ?_
 obtain⟨hk9,h⟩:=ag h
 obtain⟨hk10,h⟩:=ag h
 refine zV (py rfl rfl rfl (Cl hk9) (Cl hk10)) (k:=zV aoV (k:=?_))
 refine Cd ?_
 change WC _ _ _ _ _ _
 exact C2 λw hw=>rq_ r h hF hw
abbrev oO(gl:Nat)(el:Nat×Nat)(edk0:Nat)(r:ah×a7×(List (List UInt8)))(U:List Rowb)(Γ:Gh)(v:Value):Prop := ∃(rowl':Rowb), ∃(rowdk0':Rowb), ∃(A0:Option Addr), ∃(c0:Nat), ∃(row0:Rowb),v = .slice A0 r.2.2.length c0∧U = [rowl',rowdk0',row0]∧ah.ob el Γ gl rowl' r.1∧a7.ob edk0 Γ el.2 rowdk0' r.2.1∧Own (slT ay) Γ 69 row0 A0 c0 r.2.2∧True
theorem p7{gl:Nat}{el:Nat×Nat}{rowl:Rowb}{l:ah}(hl:ah.ob el Γ gl rowl l){edk0:Nat}{rowdk0:Rowb}{dk0:a7}(hdk0:a7.ob edk0 Γ el.2 rowdk0 dk0)(hp:Pre [rowl,rowdk0] Γ w0){r:ah×a7×(List (List UInt8))}(h:gi l dk0=some r):Calls Tryz.prog 40 #[(pq gl)] w0 (Outc Γ [rowl,rowdk0] w0 (oO gl el edk0 r)):=by
 refine goV [2] func40 ntmps40 results40 hp λF hF=>?_
 refine BZ (aV (k:=BX (BZ (aV (k:=BX ?_)))))
 refine Ce (λσ w => ∃(out_3:List (List UInt8)), ∃(o8:ah), ∃(o11:a7), ∃(Γ1:Gh), ∃(A4:Option Addr), ∃(c5:Nat), ∃(row6:Rowb), ∃(row9:Rowb), ∃(row12:Rowb),cZ out_3 o8 o11=some r∧slots σ [(0,(pq gl)),(3,.slice A4 out_3.length c5)]∧CC F Γ1 [row6,row9,row12] w∧Gh.le Γ Γ1∧Own (slT ay) Γ1 69 row6 A4 c5 out_3∧ah.ob el Γ1 gl row9 o8∧a7.ob edk0 Γ1 el.2 row12 o11∧True) ?_ ?_
 ·
  refine BZ (aV (k:=BX (C5 ?_)))
  refine WC.loopN h (λ(s:(List (List UInt8))×Bool×ah×a7) σ w=>match s with | (out_16,whole_21,o22,o25) => ∃(Γ14:Gh), ∃(A17:Option Addr), ∃(c18:Nat), ∃(row19:Rowb), ∃(row23:Rowb), ∃(row26:Rowb),slots σ [(0,(pq gl)),(3,.slice A17 out_16.length c18),(4,.bool whole_21)]∧CC F Γ14 [row19,row23,row26] w∧Gh.le Γ Γ14∧Own (slT ay) Γ14 69 row19 A17 c18 out_16∧ah.ob el Γ14 gl row23 o22∧a7.ob edk0 Γ14 el.2 row26 o25∧True) ?_ ?_
  ·
   intro w hw
   have hw:=hw.pad
   exact⟨Γ,none,0,[],rowl,rowdk0,slK,hw,gR,(Own.nil (slT ay) _ 69),hl,hdk0,trivial⟩
  rintro f28 ⟨out_16,whole_21,o22,o25⟩ σ w h ⟨Γ14,A17,c18,row19,row23,row26,hsl,hw,hl15,ho20,ho24,ho27,-⟩
  refine slV hsl hw [_,_,_] ?_; clear hw hsl
  refine C1 (BZ (mV (k:=mV (k:=vG1 (h:=λhg32=>moV) (k:=vG1 (h:=λhg33=>nlV (hv:=grV hg33)) (k:=vG1 (h:=λhg34=>q_fl 4 j3 rfl (grV hg34)) (k:=?_)))))))
  obtain⟨hrow_36,ho0_36,ho1_36,ho2_36,ho3_36,ho4_36,ho5_36,ho6_36,-⟩:=id ho24
  refine ufR 1 hrow_36 [_,_,_] ?_
  refine vG1 (h:=λhg37=>ldV 0 D0 (hx:=grV hg37)) (k:=vG1 (h:=λhg38=>aQ rfl (grV hg38)) (k:=sV pkA (k:=BX ?_)))
  refine ciV h (λhb39 h=>?_) (λhb39 h=>?_)
  ·
   refine C4 (wc_ (C5 (C1 ?_)))
   refine drV ?_
   refine zV moV (k:=zV nlV (k:=zV (q_fl 0 iq) (k:=zV (ldaV 0 [.pointer (some ⟨el.2,0,none⟩),.string o22.place_name,ii o22.place_gen] Dd De) (k:=zV moV (k:=zV nlV (k:=zV (q_fl 0 iq) (k:=zV (q_fl 2 pP) (k:=?_))))))))
   refine zV (ldV 0 D0) (k:=zV moV (k:=zV nlV (k:=zV (q_fl 4 j3) (k:=zV (ldV 0 D0) (k:=zV eH (k:=?_))))))
   obtain⟨z40,hz41,h⟩:=bnd h
   refine wc rfl rfl rfl (b3 (caV call76) (λw hw=>jE (Γ:=Gh.all w) (gp__0:=el.2) o22.place_name ho0_36 o22.place_gen ho1_36 o22.place_gen ho1_36 (w64 (o22.last+1)) (ji _) (Sat.all w) hz41)) (zV aoV (k:=?_))
   refine Cd ?_
   change WC _ _ _ _ _ _
   refine BZ (mV (k:=sV nlV (k:=sV (q_fl 0 iq) (k:=sV (q_fl 0 ip) (k:=sV (ldV 0 Db) (k:=mV (k:=?_)))))))
   obtain⟨hk42,h⟩:=ag h
   obtain⟨z43,hz44,h⟩:=bnd h
   refine ecV [2] (caV call70) (λw hp=>iU ho27 z40 (Cl hk42) hp hz44) ?_
   rintro Γ45 _ _ hl46 ⟨A49,c50,row51,rfl,rfl,hr52,_⟩
   refine cwV 41 [_,_,_,_] (mV (k:=sV exV (k:=sV exV (k:=aV (k:=aV (k:=BX (C1 ?_)))))))
   refine BZ (mV (k:=sV aX (k:=BX ?_)))
   refine ciV h (λhb53 h=>?_) (λhb53 h=>?_)
   ·
    refine C8 ?_
    intro w hw
    have hw:=hw.fold (is:=[2]) rfl hrow_36
    exact⟨out_16,o22,o25,Γ45,A17,c18,row19,row23,row26,h,slK,(hw.on [3,0,0]),(hl15.trans hl46),(ho20.mono hl46),(ho24.mono hl46),(ho27.mono hl46),trivial⟩
   refine C4 (wc_ (BZ (mV (k:=?_))))
   have hc59:=hr52.capz
   refine seR 1 [_,_,_,_] λΓ55 hl56 hr57=>?_
   have hs58:=hr52.sl hl56 hr57
   obtain⟨z60,hz61,h⟩:=bnd h
   refine ecV [] (caV call71) (λw hp=>pS hs58 hc59 hp hz61) ?_
   rintro Γ62 _ _ hl63 ⟨A66,c67,row68,rfl,rfl,hr69,hr70,hr71,_⟩
   refine cwV 48 [_,_,_,_,_] (mV (k:=sV exV (k:=sV exV (k:=sV exV (k:=aV (k:=aV (k:=aV (k:=?_))))))))
   refine BX (BZ (mV (k:=mV (k:=sV (ab rfl D2) (k:=sV bD (k:=aV (k:=BX ?_)))))))
   refine BZ (mV (k:=sV nlV (k:=sV (q_fl 0 iq) (k:=sV (ldaV 3 [.pointer (some ⟨el.2,0,none⟩),.string o22.place_name,ii o22.place_gen] Dd De) (k:=mV (k:=mV (k:=?_)))))))
   obtain⟨z72,hz73,h⟩:=bnd h
   refine ecV [1] (caV call36) (λw hp=>iF (gp__0:=el.2) o22.place_name ho0_36 o22.place_gen ho1_36 z40 (Cl hk42) z60.2.1 hr70 (ho27.mono ((hl46.trans hl56).trans hl63)) hp hz73) ?_
   rintro Γ74 _ _ hl75 ⟨row78,rfl,rfl,hr79,_⟩
   refine cwV 62 [_,_,_,_,_] (BX (BZ (mV (k:=mV (k:=?_)))))
   obtain⟨hk80,h⟩:=ag h
   refine apV 4 z60.1 wv (ho20.mono (((hl46.trans hl56).trans hl63).trans hl75)) (Cl hk80) (λw hw=>jf (i:=1) rfl (hr69.mono hl75) hw) ?_
   intro row81 A82 c83 ho84
   refine aV (k:=BX (BZ (mV (k:=mV (k:=mV (k:=sV nlV (k:=sV (q_fl 4 j3) (k:=?_))))))))
   refine sV (ldV 3 D0) (k:=sV eH (k:=mV (k:=sV nlV (k:=sV (q_fl 4 j3) (k:=stV 3 (ii (w64 (o22.last+1))) #[.pointer (some ⟨el.2,0,none⟩),.string o22.place_name,ii o22.place_gen,ii o22.size,ii (w64 (o22.last+1)),ii o22.tail,ii o22.count,ii o22.bytes] Dh (k:=sV nlV (k:=sV (q_fl 5 pA) (k:=?_))))))))
   refine stV 3 (ii z60.2.1) #[.pointer (some ⟨el.2,0,none⟩),.string o22.place_name,ii o22.place_gen,ii o22.size,ii (w64 (o22.last+1)),ii z60.2.1,ii o22.count,ii o22.bytes] CX (k:=BX ?_)
   refine C3 ?_
   refine mV (k:=sV nlV (k:=sV (q_fl 7 mZ) (k:=sV (ldV 3 CY) (k:=mV (k:=sV eH (k:=sV nlV (k:=sV (q_fl 7 mZ) (k:=?_))))))))
   refine stV 3 (ii (w64 (o22.bytes+z60.2.1))) #[.pointer (some ⟨el.2,0,none⟩),.string o22.place_name,ii o22.place_gen,ii o22.size,ii (w64 (o22.last+1)),ii z60.2.1,ii o22.count,ii (w64 (o22.bytes+z60.2.1))] CX (k:=?_)
   refine C0 ?_
   intro w hw
   obtain⟨row_85,hrow_85,hob_85⟩:∃rw:Rowb,rw=([[(gl,.cells #[.pointer (some ⟨el.2,0,none⟩),.string o22.place_name,ii o22.place_gen,ii o22.size,ii (w64 (o22.last+1)),ii z60.2.1,ii o22.count,ii (w64 (o22.bytes+z60.2.1))] el.1 (0,0))]]:List Rowb).flatten∧ah.ob el Γ74 gl rw (⟨o22.place_name,o22.place_gen,o22.size,(w64 (o22.last+1)),z60.2.1,o22.count,(w64 (o22.bytes+z60.2.1))⟩:ah):=⟨_,rfl,rfl,ho0_36,ho1_36,ho2_36,(ji _),hr70,ho5_36,(ji _),trivial⟩
   have hw:=hw.fold (is:=[3]) rfl hrow_85
   exact⟨((out_16++z60.1),(z60.2.1==(z43.1.length:Int)),(⟨o22.place_name,o22.place_gen,o22.size,(w64 (o22.last+1)),z60.2.1,o22.count,(w64 (o22.bytes+z60.2.1))⟩:ah),z72),h,Γ74,A82,c83,row81,row_85,row78,slK,(hw.on [4,0,0]),((((hl15.trans hl46).trans hl56).trans hl63).trans hl75),ho84,hob_85,hr79,trivial⟩
  refine C8 ?_
  intro w hw
  have hw:=hw.fold (is:=[0]) rfl hrow_36
  exact⟨out_16,o22,o25,Γ14,A17,c18,row19,row23,row26,h,slK,(hw.on [1,0,0]),hl15,ho20,ho24,ho27,trivial⟩
 rintro σ w ⟨out_3,o8,o11,Γ1,A4,c5,row6,row9,row12,h,hsl,hw,hl2,ho7,ho10,ho13,-⟩
 refine slV hsl hw [_,_,_] ?_; clear hw hsl
 refine BZ (mV (k:=mV (k:=sV (ab rfl D8) (k:=sV nlV (k:=sV (q_fl 6 pt) (k:=?_))))))
 obtain⟨hrow_87,ho0_87,ho1_87,ho2_87,ho3_87,ho4_87,ho5_87,ho6_87,-⟩:=id ho10
 refine ufR 1 hrow_87 [_,_,_] ?_
 refine stV 0 (ii (out_3.length:Int)) #[.pointer (some ⟨el.2,0,none⟩),.string o8.place_name,ii o8.place_gen,ii o8.size,ii o8.last,ii o8.tail,ii (out_3.length:Int),ii o8.bytes] CX (k:=BX (BZ (mV (k:=aV (k:=BX ?_)))))
 refine C2 ?_
 intro w hw
 obtain⟨row_88,hrow_88,hob_88⟩:∃rw:Rowb,rw=([[(gl,.cells #[.pointer (some ⟨el.2,0,none⟩),.string o8.place_name,ii o8.place_gen,ii o8.size,ii o8.last,ii o8.tail,ii (out_3.length:Int),ii o8.bytes] el.1 (0,0))]]:List Rowb).flatten∧ah.ob el Γ1 gl rw (⟨o8.place_name,o8.place_gen,o8.size,o8.last,o8.tail,(out_3.length:Int),o8.bytes⟩:ah):=⟨_,rfl,rfl,ho0_87,ho1_87,ho2_87,ho3_87,ho4_87,(jT ho7.le),ho6_87,trivial⟩
 have hw:=hw.fold (is:=[0]) rfl hrow_88
 cases h
 subst hF
 exact aM (is:=[0,1,0]) (by kernel_rfl) hw rfl ⟨row_88,row12,A4,c5,row6,rfl,rfl,hob_88,ho13,ho7,trivial⟩
abbrev qk(gb0:Nat)(gb0v:Nat)(eb0v:Nat×Nat)(b0v:ah)(rowb0v:Rowb)(r:Bool)(U:List Rowb)(Γ:Gh)(v:Value):Prop:=v = .bool r∧U = [[(gb0,.cells #[.pointer (some ⟨gb0v,0,none⟩)] 59 (0,0))],rowb0v]∧True
theorem qh(a0:Int)(ha0:I64 a0)(n:Int)(hn:I64 n){gb0:Nat}{gb0v:Nat}{eb0v:Nat×Nat}{rowb0v:Rowb}{b0v:ah}(hb0v:ah.ob eb0v Γ gb0v rowb0v b0v)(hp:Pre [[(gb0,.cells #[(pq gb0v)] 59 (0,0))],rowb0v] Γ w0){r:Bool}(h:hM a0 n b0v=some r):Calls Tryz.prog 41 #[ii a0,ii n,(pq gb0)] w0 (Outc Γ [[(gb0,.cells #[(pq gb0v)] 59 (0,0))],rowb0v] w0 (qk gb0 gb0v eb0v b0v rowb0v r)):=by
 refine goV [5] func41 ntmps41 results41 hp λF hF=>?_
 refine BZ (aV (k:=BX (BZ (mV (k:=sV (ldV 0 Di) (k:=sV nlV (k:=sV (q_fl 4 j3) (k:=?_))))))))
 obtain⟨hrow_1,ho0_1,ho1_1,ho2_1,ho3_1,ho4_1,ho5_1,ho6_1,-⟩:=id hb0v
 refine ufR 1 hrow_1 [_,_] ?_
 refine sV (ldV 0 D0) (k:=sV cp (k:=aV (k:=BX ?_)))
 refine C2 ?_
 intro w hw
 have hw:=hw.fold (is:=[0]) rfl hrow_1
 exact re_ r [1,0] h hF hw ⟨rfl,rfl,trivial⟩
abbrev pE(gd:Nat)(ed:Nat)(r:a7)(U:List Rowb)(Γ:Gh)(v:Value):Prop := ∃(rowd':Rowb),v = .tuple #[]∧U = [rowd']∧a7.ob ed Γ gd rowd' r∧True
theorem lh{gd ed:Nat}{rowd:Rowb}{d:a7}(hd:a7.ob ed Γ gd rowd d)(hp:Pre [rowd] Γ w0){r:a7}(h:gH d=some r):Calls Tryz.prog 42 #[(pq gd)] w0 (Outc Γ [rowd] w0 (pE gd ed r)):=by
 refine goV [] func42 ntmps42 results42 hp λF hF=>?_
 refine BZ (mV (k:=mV (k:=sV nlV (k:=sV (q_fl 2 k5) (k:=?_)))))
 obtain⟨m1_1,r1_1,m2_1,r2_1,A3_1,c3_1,r3_1,hrow_1,ho0_1,ho1_1,ho2_1,ho3_1,-⟩:=id hd
 refine ufR 0 hrow_1 [_,_,_,_] ?_
 refine sV (ldV 0 isAgg75) (k:=?_)
 refine zn zw (i:=2) rfl ho2_1 rfl rfl (caV call77) ?_
 intro g2 row3 hm4
 refine cwV 7 [_,_,_,_,_] (sV nlV (k:=sV (q_fl 1 xU) (k:=stV 1 (.map (some g2)) #[ii d.room,.map (some g2),.map (some m2_1),.slice A3_1 d.loose.length c3_1] sizeOf75 (k:=BX ?_))))
 refine C3 ?_
 refine mV (k:=sV nlV (k:=sV (q_fl 3 mi) (k:=stV 1 (.slice none 0 0) #[ii d.room,.map (some g2),.map (some m2_1),.slice none 0 0] sizeOf76 (k:=?_))))
 refine C0 ?_
 intro w hw
 have hw:=hw.pad
 obtain⟨row_5,hrow_5,hob_5⟩:∃rw:Rowb,rw=([[(gd,.cells #[ii d.room,.map (some g2),.map (some m2_1),.slice none 0 0] ed (0,0))],row3,r2_1,[]]:List Rowb).flatten∧a7.ob ed Γ gd rw (⟨d.room,d.seen,d.seen,[]⟩:a7):=⟨_,rfl,g2,row3,m2_1,r2_1,none,0,[],rfl,ho0_1,hm4,ho2_1,(Own.nil j7 Γ 195),trivial⟩
 have hw:=hw.fold (is:=[2,1,2,0]) rfl hrow_5
 cases h
 subst hF
 exact aM (is:=[0]) (by kernel_rfl) hw rfl ⟨row_5,rfl,rfl,hob_5,trivial⟩
abbrev rP(gd:Nat)(ed:Nat)(r:a7×(Option ah)×(List (List UInt8))×Int)(U:List Rowb)(Γ:Gh)(v:Value):Prop := ∃(rowd':Rowb), ∃(g0:Nat), ∃(row0:Rowb), ∃(A1:Option Addr), ∃(c1:Nat), ∃(row1:Rowb),v = .tuple #[optp r.2.1 g0,.slice A1 r.2.2.1.length c1,.int .i64 r.2.2.2]∧U = [rowd',row0,row1]∧a7.ob ed Γ gd rowd' r.1∧sC (ah.ob (109,gd) Γ g0) row0 r.2.1∧Own (slT ay) Γ 69 row1 A1 c1 r.2.2.1∧I64 r.2.2.2∧True
theorem nA{gd ed:Nat}{rowd:Rowb}{d:a7}(hd:a7.ob ed Γ gd rowd d)(name:ByteArray)(hname:name.size≤lim)(size:Int)(hsize:I64 size)(hp:Pre [rowd] Γ w0){r:a7×(Option ah)×(List (List UInt8))×Int}(h:fO d name size=some r):Calls Tryz.prog 21 #[(pq gd),.string name,ii size] w0 (Outc Γ [rowd] w0 (rP gd ed r)):=by
 refine goV [6,7,8] func21 ntmps21 results21 hp λF hF=>?_
 refine BZ (aV (k:=aV (k:=aV (k:=BX (C1 (BZ (mV (k:=?_))))))))
 refine sV (cG rfl CU) (k:=sV aQ (k:=mV (k:=vG0 (h:=λhg1=>moV) (k:=vG0 (h:=λhg2=>cG rfl CU (grV hg2)) (k:=vG0 (h:=λhg3=>cp rfl (grV hg3)) (k:=sV pkO (k:=mV (k:=?_))))))))
 refine vG0 (h:=λhg4=>moV) (k:=?_)
 obtain⟨z6,hz7,h⟩:=bnd h
 refine vC0 (h:=λhg5=>b3 (aE call33 rfl rfl (cN (grV hg5) rfl)) (λw hw=>nX (Γ:=Gh.all w) name hname (Sat.all w) (cK hz7 hg5))) (k:=sV pkO (k:=BX ?_))
 refine ciV h (λhb8 h=>?_) (λhb8 h=>?_)
 ·
  refine BZ (aV (k:=aV (k:=aV (k:=BX ?_))))
  refine C2 ?_
  intro w hw
  have hw:=hw.pad
  have hw:=hw.pad
  exact re_ r [2,1,0] h hF hw ⟨rowd,0,[],none,0,[],rfl,rfl,hd,rfl,(Own.nil (slT ay) _ 69),iV,trivial⟩
 refine C4 (wc_ (BZ (mV (k:=mV (k:=sV (aR (v:=.agg #[(pq gd),.string name,ii 0]) rfl (ib rfl rfl) (λw=>by kernel_rfl)) (k:=?_))))))
 refine alV zeroValue101 λg9=>?_
 refine stV 0 (.agg #[(pq gd),.string name,ii 0]) #[(pq gd),.string name,ii 0] De (k:=BX (BZ (sV (ldaV 0 [(pq gd),.string name,ii 0] Dd De) (k:=?_))))
 obtain⟨z10,hz11,h⟩:=bnd h
 refine ecV [1] (caV call34) (λw hp=>t_seglog_place_holds (gp__0:=gd) name hname 0 iV hd hp hz11) ?_
 rintro Γ12 _ _ hl13 ⟨rfl,rfl,hr16,hr17,hr18,_⟩
 refine cwV 33 [_,_] (mV (k:=sV exV (k:=sV exV (k:=sV exV (k:=?_)))))
 refine alV zeroValue2 λg19=>?_
 refine stV 0 (ii z10.1) #[ii z10.1] Dh (k:=aV (k:=aV (k:=BX (C1 (BZ (mV (k:=sV bO (k:=?_))))))))
 refine BX ?_
 refine ciV h (λhb20 h=>?_) (λhb20 h=>?_)
 ·
  refine BZ (mV (k:=aV (k:=aV (k:=aV (k:=BX ?_)))))
  refine C2 ?_
  intro w hw
  have hw:=hw.pad
  have hw:=hw.pad
  exact re_ r [3,1,0] h hF hw ⟨rowd,0,[],none,0,[],rfl,rfl,(hd.mono hl13),rfl,(Own.nil (slT ay) _ 69),hr18,trivial⟩
 refine C4 (wc_ (BZ (sV (ldV 0 D0) (k:=sV (q_fl 2 pP) (k:=stV 2 (ii z10.1) #[(pq gd),.string name,ii z10.1] Dh (k:=BX (BZ ?_)))))))
 refine mV (k:=?_)
 obtain⟨z21,hz22,h⟩:=bnd h
 refine vqV (caV call35) (λw hw=>kA (Γ:=Gh.all w) ((hd.mono hl13).mono hw.sat.le_all) (hw.ra 1 rfl) (Sat.all w) hz22) (k:=aV (k:=BX (C1 ?_)))
 refine leV λh023=>?_
 refine e7 (CC F Γ12 [[(g19,.cells #[ii z10.1] 2 (0,0))],[(g9,.cells #[(pq gd),.string name,ii z10.1] 101 (0,0))]]) (bo_ [0,1] gR h023) λk=>?_
 change WH _ _ _ _ (CC F Γ12 [_,_,_]) _ 5 _ _
 refine hV 0 k (q:=ldaV 1 [(pq gd),.string name,ii z10.1] Dd De) (k:=hV 1 k (q:=ldaV 1 [(pq gd),.string name,ii z10.1] Dd De) (k:=hV 3 k (q:=moV) (k:=wl_ 2 rfl ?_)))
 obtain⟨z24,hz25,h⟩:=bnd h
 refine vqV (caV call37) (λw hw=>jF (Γ:=Gh.all w) (gp__0:=gd) name hname z10.1 hr16 (Sat.all w) hz25) (k:=?_)
 refine C0 (nxV (bo_ [0,1] gR h023) λk=>?_)
 refine wl_ 4 rfl ?_
 obtain⟨hk26,h⟩:=ag h
 obtain⟨z27,hz28,h⟩:=bnd h
 refine ecV [1] (caV call36) (λw hp=>iF (gp__0:=gd) name hname z10.1 hr16 z24 (Cl hk26) z10.2.1 hr17 (hd.mono hl13) hp hz28) ?_
 rintro Γ29 _ _ hl30 ⟨row33,rfl,rfl,hr34,_⟩
 refine cwV 48 [_,_,_] ?_
 refine C0 (nxV (bo_ [1,1] hl30 h023) λk=>?_)
 refine Ca (by kernel_rfl) ?_
 change WC _ _ _ _ _ _
 refine BZ (sV (ldaV 2 [(pq gd),.string name,ii z10.1] Dd De) (k:=sV (iD (v:=.func (.func 39) #[] #[(pq g19)]) rfl (by kernel_rfl)) (k:=?_)))
 obtain⟨rowT35,hT36⟩:∃r:Rowb,r=([[(g19,.cells #[ii z10.1] 2 (0,0))]]:List Rowb).flatten:=⟨_,rfl⟩
 refine WR.sub (λw hw=>hw.fold (is:=[1]) rfl hT36) ?_
 obtain⟨z37,hz38,h⟩:=bnd h
 refine ecV [1,0] (caV call38) (λw hp=>iM (caps:=#[(pq g19)]) hr34 name hname z10.1 hr16 (λx y=>fF x y z10.1) (λ{Γq_ wq_} x hx y hy hle hp2 {_} hq=>Calls.mono (qc (Γ:=Γq_) x hx y hy z10.1 hr16 (by subst hT36; exact hp2.parts) hq) (λe w2 ho=>Outc.quiet (by subst hT36; exact hp2.parts) ho (λ_ _ _ hr=>⟨hr.1,hr.2.1⟩))) call39 hp hz38) ?_
 rintro Γ39 _ _ hl40 ⟨row43,rfl,rfl,hd44⟩
 refine cwV 51 [_,_,_] ?_
 refine WR.sub (λw hw=>hw.unfold (i:=1) rfl hT36) ?_
 change WR _ _ _ (CC F Γ39 [_,_,_]) _ _ _
 refine BX (BZ (sV (ldaV 2 [(pq gd),.string name,ii z10.1] Dd De) (k:=mV (k:=sV tS (k:=sV (aR (v:=.agg #[(pq gd),.string name,ii z10.1,ii (max size 16),ii 0,ii 0,ii 0,ii 0]) rfl (ib rfl rfl) (λw=>by kernel_rfl)) (k:=?_))))))
 refine bxV (v:=.agg #[(pq gd),.string name,ii z10.1,ii (max size 16),ii 0,ii 0,ii 0,ii 0]) λg45=>?_
 refine alV zeroValue59 λg46=>?_
 refine stV 0 ((pq g45)) #[(pq g45)] sizeOf59 (k:=BX (BZ (sV (ldV 0 Di) (k:=?_))))
 obtain⟨row_47,hrow_47,hob_47⟩:∃rw:Rowb,rw=([[(g45,.cells #[(pq gd),.string name,ii z10.1,ii (max size 16),ii 0,ii 0,ii 0,ii 0] 109 (0,0))]]:List Rowb).flatten∧ah.ob (109,gd) Γ39 g45 rw (⟨name,z10.1,(max size 16),0,0,0,0⟩:ah):=⟨_,rfl,rfl,hname,hr16,(xQ hsize iV),iV,iV,iV,iV,trivial⟩
 refine foR [1] hrow_47 [_,_,_,_,_] ?_
 obtain⟨z48,hz49,h⟩:=bnd h
 refine ecV [0,2] (caV call40) (λw hp=>p7 hob_47 hd44 hp hz49) ?_
 rintro Γ50 _ _ hl51 ⟨row54,row56,A58,c59,row60,rfl,rfl,hr55,hr57,hr61,_⟩
 refine cwV 58 [_,_,_,_,_,_] (aV (k:=BX (BZ (sV (ldaV 5 [(pq gd),.string name,ii z10.1] Dd De) (k:=sV (iD (v:=.func (.func 41) #[] #[(pq g46)]) rfl (by kernel_rfl)) (k:=?_))))))
 obtain⟨rowT62,hT63⟩:∃r:Rowb,r=([[(g46,.cells #[(pq g45)] 59 (0,0))],row54]:List Rowb).flatten:=⟨_,rfl⟩
 refine WR.sub (λw hw=>hw.fold (is:=[3,0]) rfl hT63) ?_
 obtain⟨z64,hz65,h⟩:=bnd h
 refine ecV [1,0] (caV call38) (λw hp=>iM (caps:=#[(pq g46)]) hr57 name hname z10.1 hr16 (λx y=>hM x y z48.1) (λ{Γq_ wq_} x hx y hy hle hp2 {_} hq=>Calls.mono (qh (Γ:=Γq_) x hx y hy (hr55.mono hle) (by subst hT63; exact hp2.parts) hq) (λe w2 ho=>Outc.quiet (by subst hT63; exact hp2.parts) ho (λ_ _ _ hr=>⟨hr.1,hr.2.1⟩))) call41 hp hz65) ?_
 rintro Γ66 _ _ hl67 ⟨row70,rfl,rfl,hd71⟩
 refine cwV 61 [_,_,_,_,_] ?_
 refine WR.sub (λw hw=>hw.unfold (i:=1) rfl hT63) ?_
 change WR _ _ _ (CC F Γ66 [_,_,_,_,_,_]) _ _ _
 refine BX ?_
 refine Ce (λσ w => ∃(o74:a7), ∃(Γ72:Gh), ∃(row75:Rowb),eW z48 o74=some r∧slots σ [(14,(pq g46)),(15,.slice A58 z48.2.2.length c59)]∧CC F Γ72 [[(g46,.cells #[(pq g45)] 59 (0,0))],row54,row75,row60] w∧Gh.le Γ66 Γ72∧a7.ob ed Γ72 gd row75 o74∧True) ?_ ?_
 ·
  refine BZ (mV (k:=?_))
  obtain⟨z77,hz78,h⟩:=bnd h
  refine vqV (caV call35) (λw hw=>kA (Γ:=Gh.all w) (hd71.mono hw.sat.le_all) (hw.ra 2 rfl) (Sat.all w) hz78) (k:=mV (k:=sV bO (k:=BX ?_)))
  refine ciV h (λhb79 h=>?_) (λhb79 h=>?_)
  ·
   refine C3 ?_
   refine mV (k:=?_)
   obtain⟨z80,hz81,h⟩:=bnd h
   refine ecV [2] (caV call42) (λw hp=>lh hd71 hp hz81) ?_
   rintro Γ82 _ _ hl83 ⟨row86,rfl,rfl,hr87,_⟩
   refine cwV 67 [_,_,_,_,_,_] ?_
   exact C0 λw hw=>⟨z80,Γ82,row86,h,slK,(hw.on [1,1,0,0]),hl83,hr87,trivial⟩
  exact C4 λw hw=>⟨z64,Γ66,row70,h,slK,(hw.on [0,0,0,0]),gR,hd71,trivial⟩
 rintro σ w ⟨o74,Γ72,row75,h,hsl,hw,hl73,ho76,-⟩
 refine slV hsl hw [_,_,_,_] ?_; clear hw hsl
 refine BZ (sV (ldV 0 Di) (k:=mV (k:=aV (k:=aV (k:=aV (k:=BX ?_))))))
 exact C2 λw hw=>re_ r [2,1,1] h hF hw ⟨row75,g45,row54,A58,c59,row60,rfl,rfl,ho76,(hr55.mono (hl67.trans hl73)),(hr61.mono (hl67.trans hl73)),iV,trivial⟩
abbrev lz(r:List Int)(U:List Rowb)(Γ:Gh)(v:Value):Prop := ∃(A0:Option Addr), ∃(c0:Nat), ∃(row0:Rowb),v = .slice A0 r.length c0∧U = [row0]∧Own intT Γ 3 row0 A0 c0 r∧True
theorem fl{As_:Option Addr}{cs_:Nat}{s_:List Int}(hs_:Sl intT Γ As_ s_)(hs_c:s_.length≤cs_)(hp:Pre [] Γ w0){r:List Int}(h:bm s_=some r):Calls Tryz.prog 22 #[.slice As_ s_.length cs_] w0 (Outc Γ [] w0 (lz r)):=by
 refine goV [2] func22 ntmps22 results22 hp λF hF=>?_
 refine BZ (aV (k:=BX (C1 (BZ (mV (k:=sV (jx CW rfl rfl rfl) (k:=BX ?_)))))))
 refine WC.cnil h (by kernel_rfl) (λhb=>hs_.none_nil hb) (λhb1 h=>?_) (λhb1 h=>?_)
 ·
  refine BZ (aV (k:=BX ?_))
  refine C2 ?_
  intro w hw
  have hw:=hw.pad
  exact re_ r [0] h hF hw ⟨none,0,[],rfl,rfl,(Own.nil intT _ 3),trivial⟩
 refine C4 (wc_ (BZ ?_))
 refine bsV #[] 3 λg2=>?_
 refine mV (k:=?_)
 have ho3:Own intT Γ 3 [(g2,.cells #[] 3 (0,0))] (some ⟨g2,0,none⟩) 0 ([]:List Int):=C7 (T:=intT) (ys:=([]:List Int)) [] rfl (show 0≤lim by decide) (show True from trivial)
 obtain⟨hk4,h⟩:=ag h
 refine apV 0 s_ lD ho3 (Cl hk4) (λw hw=>kQ hs_ hw) ?_
 intro row5 A6 c7 ho8
 refine aV (k:=BX ?_)
 exact C2 λw hw=>re_ r [0] h hF hw ⟨A6,c7,row5,rfl,rfl,ho8,trivial⟩
abbrev nM(gr_:Nat)(er_:Nat)(r:am×Int)(U:List Rowb)(Γ:Gh)(v:Value):Prop := ∃(rowr_':Rowb),v = .int .i64 r.2∧U = [rowr_']∧am.ob er_ Γ gr_ rowr_' r.1∧I64 r.2∧True
theorem cR{gr_ er_:Nat}{rowr_:Rowb}{r_:am}(hr_:am.ob er_ Γ gr_ rowr_ r_)(hp:Pre [rowr_] Γ w0){r:am×Int}(h:bF r_=some r):Calls Tryz.prog 43 #[(pq gr_)] w0 (Outc Γ [rowr_] w0 (nM gr_ er_ r)):=by
 refine goV [2] func43 ntmps43 results43 hp λF hF=>?_
 refine BZ (aV (k:=BX (C1 ?_)))
 obtain⟨A0_1,c0_1,hrow_1,ho0_1,ho1_1,ho2_1,-⟩:=id hr_
 refine ufC 0 hrow_1 [_] ?_
 refine drV ?_
 refine zV moV (k:=zV nlV (k:=zV (q_fl 0 jN) (k:=zV (ldV 0 Da) (k:=zV moV (k:=zV nlV (k:=zV (q_fl 1 fK) (k:=zV (ldV 0 CY) (k:=?_))))))))
 obtain⟨z2,hz3,h⟩:=bnd h
 refine wc rfl rfl rfl (b3 (caV call72) (λw hw=>lj (Γ:=Gh.all w) (ho1_1.mono hw.sat.le_all) ho0_1 r_.at_ ho2_1 (Sat.all w) hz3)) (zV moV (k:=zV exV (k:=zV exV (k:=zV exV (k:=zV aoV (k:=zV aoV (k:=zV aoV (k:=?_))))))))
 refine Cd ?_
 change WC _ _ _ _ _ _
 refine C1 (BZ (mV (k:=sV bO (k:=mV (k:=vG0 (h:=λhg4=>moV) (k:=vG0 (h:=λhg5=>nlV (hv:=grV hg5)) (k:=vG0 (h:=λhg6=>q_fl 2 eQ rfl (grV hg6)) (k:=?_))))))))
 refine vG0 (h:=λhg7=>ldV 0 Dj (hx:=grV hg7)) (k:=sV pkO (k:=BX ?_))
 refine ciV h (λhb8 h=>?_) (λhb8 h=>?_)
 ·
  refine BZ (mV (k:=sV nlV (k:=sV (q_fl 2 eQ) (k:=stV 0 (.bool true) #[.slice A0_1 r_.b.length c0_1,ii r_.at_,.bool true] sizeOf4 (k:=BX (BZ (aV (k:=?_))))))))
  refine BX ?_
  refine C2 ?_
  intro w hw
  obtain⟨row_9,hrow_9,hob_9⟩:∃rw:Rowb,rw=([[(gr_,.cells #[.slice A0_1 r_.b.length c0_1,ii r_.at_,.bool true] er_ (0,0))]]:List Rowb).flatten∧am.ob er_ Γ gr_ rw (⟨r_.b,r_.at_,true⟩:am):=⟨_,rfl,A0_1,c0_1,rfl,ho0_1,ho1_1,ho2_1,trivial⟩
  have hw:=hw.fold (is:=[0]) rfl hrow_9
  cases h
  subst hF
  exact aM (is:=[0]) (by kernel_rfl) hw rfl ⟨row_9,rfl,rfl,hob_9,iV,trivial⟩
 refine C4 (wc_ (BZ (mV (k:=mV (k:=sV nlV (k:=sV (q_fl 1 fK) (k:=stV 0 (ii z2.2.1) #[.slice A0_1 r_.b.length c0_1,ii z2.2.1,.bool r_.bad] CX (k:=?_))))))))
 refine BX (BZ (mV (k:=aV (k:=BX ?_))))
 refine C2 ?_
 intro w hw
 obtain⟨hk11,h⟩:=ag h
 obtain⟨row_10,hrow_10,hob_10⟩:∃rw:Rowb,rw=([[(gr_,.cells #[.slice A0_1 r_.b.length c0_1,ii z2.2.1,.bool r_.bad] er_ (0,0))]]:List Rowb).flatten∧am.ob er_ Γ gr_ rw (⟨r_.b,z2.2.1,r_.bad⟩:am):=⟨_,rfl,A0_1,c0_1,rfl,ho0_1,ho1_1,(dY hk11),trivial⟩
 have hw:=hw.fold (is:=[0]) rfl hrow_10
 obtain⟨hk12,h⟩:=ag h
 cases h
 subst hF
 exact aM (is:=[0]) (by kernel_rfl) hw rfl ⟨row_10,rfl,rfl,hob_10,(dY hk12),trivial⟩
theorem vt{Ab:Option Addr}{cb:Nat}{b:List UInt8}(hb:Sl ay Γ Ab b)(hbc:b.length≤cb)(at_:Int)(hat_:I64 at_)(most:Int)(hmost:I64 most)(hs:Sat Γ w0){r:ByteArray×Int×Int}(h:o6 b at_ most=some r):CQ Tryz.prog 156 #[.slice Ab b.length cb,ii at_,ii most] w0 (.tuple #[.string r.1,ii r.2.1,ii r.2.2]):=by
 refine goQ [6,7,8] func156 ntmps156 results156 hs λF hF=>?_
 refine BZ (aV (k:=aV (k:=aV (k:=BX (BZ (mV (k:=mV (k:=?_))))))))
 obtain⟨z1,hz2,h⟩:=bnd h
 refine vqV (caV call72) (λw hw=>lj (Γ:=Gh.all w) (hb.mono hw.sat.le_all) hbc at_ hat_ (Sat.all w) hz2) (k:=mV (k:=sV exV (k:=sV exV (k:=sV exV (k:=aV (k:=aV (k:=aV (k:=?_))))))))
 refine BX (C1 (C5 (BZ (mV (k:=sV bO (k:=aV (k:=BX ?_)))))))
 refine ciV h (λhb3 h=>?_) (λhb3 h=>?_)
 ·
  refine BZ (mV (k:=aV (k:=aV (k:=aV (k:=BX ?_)))))
  exact C2 λw hw=>by obtain rfl:=Option.some.inj h; exact⟨by kernel_rfl,fr_ hF hw⟩
 refine BZ (mV (k:=mV (k:=sV tS (k:=sV cp (k:=aV (k:=BX ?_))))))
 refine ciV h (λhb4 h=>?_) (λhb4 h=>?_)
 ·
  refine BZ (aV (k:=aV (k:=aV (k:=BX ?_))))
  exact C2 λw hw=>by obtain rfl:=Option.some.inj h; exact⟨by kernel_rfl,fr_ hF hw⟩
 refine BZ (mV (k:=mV (k:=sV (ab rfl D2) (k:=mV (k:=sV iQ (k:=sV cp (k:=aV (k:=?_))))))))
 refine BX ?_
 refine ciV h (λhb5 h=>?_) (λhb5 h=>?_)
 ·
  refine BZ (aV (k:=aV (k:=aV (k:=BX ?_))))
  exact C2 λw hw=>by obtain rfl:=Option.some.inj h; exact⟨by kernel_rfl,fr_ hF hw⟩
 refine C4 (wc_ (BZ (mV (k:=mV (k:=mV (k:=mV (k:=sV eH (k:=?_))))))))
 obtain⟨hk6,h⟩:=ag h
 obtain⟨hk7,h⟩:=ag h
 obtain⟨hk8,h⟩:=ag h
 refine sV (xC (c:=cb) (lo:=z1.2.1.toNat) (hi:=(w64 (z1.2.1+z1.1)).toNat) (xs:=b) D2 D5 rfl rfl (xP rfl hk7) (jJ rfl hk6) (Cl hk8) (dD hk6) hbc) (k:=sV (AS (hb.cut (cap:=cb) (lo:=z1.2.1.toNat) (hi:=(w64 (z1.2.1+z1.1)).toNat) (Cl hk8) (dD hk6) hbc) D2 D7 CU rfl rfl) (k:=mV (k:=mV (k:=sV eH (k:=aV (k:=aV (k:=aV (k:=?_))))))))
 refine BX ?_
 exact C2 λw hw=>by obtain rfl:=Option.some.inj h; exact⟨by kernel_rfl,fr_ hF hw⟩
abbrev nL(gr_:Nat)(er_:Nat)(r:aa×ByteArray)(U:List Rowb)(Γ:Gh)(v:Value):Prop := ∃(rowr_':Rowb),v = .string r.2∧U = [rowr_']∧aa.ob er_ Γ gr_ rowr_' r.1∧r.2.size≤lim∧True
theorem fm{gr_ er_:Nat}{rowr_:Rowb}{r_:aa}(hr_:aa.ob er_ Γ gr_ rowr_ r_)(hp:Pre [rowr_] Γ w0){r:Option (aa×ByteArray)}(h:dL r_=some r):Calls Tryz.prog 122 #[(pq gr_)] w0 (q7 [{ v:=(.iface 219 (.agg #[])),recovered:=false }] Γ [rowr_] w0 (λr=>nL gr_ er_ r) r):=by
 refine goV [2] func122 ntmps122 results122 hp λF hF=>?_
 refine BZ (aV (k:=BX (C1 ?_)))
 obtain⟨A0_1,c0_1,hrow_1,ho0_1,ho1_1,ho2_1,-⟩:=id hr_
 refine ufC 0 hrow_1 [_] ?_
 refine drV ?_
 refine zV moV (k:=zV nlV (k:=zV (q_fl 0 l7) (k:=zV (ldV 0 Da) (k:=zV moV (k:=zV nlV (k:=zV (q_fl 1 iZ) (k:=zV (ldV 0 CY) (k:=?_))))))))
 refine zV moV (k:=zV nlV (k:=zV (q_fl 0 l7) (k:=zV (ldV 0 Da) (k:=zV (ab rfl D2) (k:=?_)))))
 obtain⟨z2,hz3,h⟩:=bnd h
 refine wc rfl rfl rfl (b3 (caV call156) (λw hw=>vt (Γ:=Gh.all w) (ho1_1.mono hw.sat.le_all) ho0_1 r_.at_ ho2_1 (r_.b.length:Int) (jT ho1_1.le) (Sat.all w) hz3)) (zV moV (k:=zV exV (k:=zV exV (k:=zV exV (k:=zV aoV (k:=zV aoV (k:=zV aoV (k:=?_))))))))
 refine Cd ?_
 change WC _ _ _ _ _ _
 refine foC [0] hrow_1 [_] ?_
 refine Ce (λσ w=>fU r_ z2  = some r∧slots σ [(0,(pq gr_)),(3,.string z2.1),(4,ii z2.2.1)]∧CC F Γ [rowr_] w∧True) ?_ ?_
 ·
  refine BZ (mV (k:=sV bO (k:=BX ?_)))
  refine ciV h (λhb5 h=>?_) (λhb5 h=>?_)
  ·
   refine C3 ?_
   refine sV (cT (v:=.agg #[]) rfl (λw=>by kernel_rfl)) (k:=sV (eD rfl rfl (λw=>mkif Dl w)) (k:=?_))
   refine lI (v:=.iface 219 (.agg #[])) rfl (gz rfl rfl) ?_
   intro w hw
   cases h
   subst hF
   first | exact bY hw | exact λ_=>bY hw
  exact C4 λw hw=>⟨h,slK,hw,trivial⟩
 rintro σ w ⟨h,hsl,hw,-⟩
 refine slV hsl hw [_] ?_; clear hw hsl
 refine BZ (mV (k:=mV (k:=sV nlV (k:=sV (q_fl 1 iZ) (k:=?_)))))
 obtain⟨A0_8,c0_8,hrow_8,ho0_8,ho1_8,ho2_8,-⟩:=id hr_
 refine ufR 0 hrow_8 [_] ?_
 refine stV 0 (ii z2.2.1) #[.slice A0_8 r_.b.length c0_8,ii z2.2.1] CX (k:=BX (BZ (mV (k:=aV (k:=BX ?_)))))
 refine C2 ?_
 intro w hw
 obtain⟨hk10,h⟩:=ag h
 obtain⟨row_9,hrow_9,hob_9⟩:∃rw:Rowb,rw=([[(gr_,.cells #[.slice A0_8 r_.b.length c0_8,ii z2.2.1] er_ (0,0))]]:List Rowb).flatten∧aa.ob er_ Γ gr_ rw (⟨r_.b,z2.2.1⟩:aa):=⟨_,rfl,A0_8,c0_8,rfl,ho0_8,ho1_8,(dY hk10),trivial⟩
 have hw:=hw.fold (is:=[0]) rfl hrow_9
 obtain⟨hk11,h⟩:=ag h
 cases h
 subst hF
 exact aM (is:=[0]) (by kernel_rfl) hw rfl ⟨row_9,rfl,rfl,hob_9,(Cl hk11),trivial⟩
abbrev oz(gr_:Nat)(er_:Nat)(r:aa×Int)(U:List Rowb)(Γ:Gh)(v:Value):Prop := ∃(rowr_':Rowb),v = .int .i64 r.2∧U = [rowr_']∧aa.ob er_ Γ gr_ rowr_' r.1∧I64 r.2∧True
theorem aP{gr_ er_:Nat}{rowr_:Rowb}{r_:aa}(hr_:aa.ob er_ Γ gr_ rowr_ r_)(hp:Pre [rowr_] Γ w0){r:Option (aa×Int)}(h:bx r_=some r):Calls Tryz.prog 157 #[(pq gr_)] w0 (q7 [{ v:=(.iface 219 (.agg #[])),recovered:=false }] Γ [rowr_] w0 (λr=>oz gr_ er_ r) r):=by
 refine goV [2] func157 ntmps157 results157 hp λF hF=>?_
 refine BZ (aV (k:=BX (C1 ?_)))
 obtain⟨A0_1,c0_1,hrow_1,ho0_1,ho1_1,ho2_1,-⟩:=id hr_
 refine ufC 0 hrow_1 [_] ?_
 refine drV ?_
 refine zV moV (k:=zV nlV (k:=zV (q_fl 0 l7) (k:=zV (ldV 0 Da) (k:=zV moV (k:=zV nlV (k:=zV (q_fl 1 iZ) (k:=zV (ldV 0 CY) (k:=?_))))))))
 obtain⟨z2,hz3,h⟩:=bnd h
 refine wc rfl rfl rfl (b3 (caV call72) (λw hw=>lj (Γ:=Gh.all w) (ho1_1.mono hw.sat.le_all) ho0_1 r_.at_ ho2_1 (Sat.all w) hz3)) (zV moV (k:=zV exV (k:=zV exV (k:=zV exV (k:=zV aoV (k:=zV aoV (k:=zV aoV (k:=?_))))))))
 refine Cd ?_
 change WC _ _ _ _ _ _
 refine foC [0] hrow_1 [_] ?_
 refine Ce (λσ w=>gF r_ z2  = some r∧slots σ [(0,(pq gr_)),(3,ii z2.1),(4,ii z2.2.1)]∧CC F Γ [rowr_] w∧True) ?_ ?_
 ·
  refine BZ (mV (k:=sV bO (k:=BX ?_)))
  refine ciV h (λhb5 h=>?_) (λhb5 h=>?_)
  ·
   refine C3 ?_
   refine sV (cT (v:=.agg #[]) rfl (λw=>by kernel_rfl)) (k:=sV (eD rfl rfl (λw=>mkif Dl w)) (k:=?_))
   refine lI (v:=.iface 219 (.agg #[])) rfl (gz rfl rfl) ?_
   intro w hw
   cases h
   subst hF
   first | exact bY hw | exact λ_=>bY hw
  exact C4 λw hw=>⟨h,slK,hw,trivial⟩
 rintro σ w ⟨h,hsl,hw,-⟩
 refine slV hsl hw [_] ?_; clear hw hsl
 refine BZ (mV (k:=mV (k:=sV nlV (k:=sV (q_fl 1 iZ) (k:=?_)))))
 obtain⟨A0_8,c0_8,hrow_8,ho0_8,ho1_8,ho2_8,-⟩:=id hr_
 refine ufR 0 hrow_8 [_] ?_
 refine stV 0 (ii z2.2.1) #[.slice A0_8 r_.b.length c0_8,ii z2.2.1] CX (k:=BX (BZ (mV (k:=aV (k:=BX ?_)))))
 refine C2 ?_
 intro w hw
 obtain⟨hk10,h⟩:=ag h
 obtain⟨row_9,hrow_9,hob_9⟩:∃rw:Rowb,rw=([[(gr_,.cells #[.slice A0_8 r_.b.length c0_8,ii z2.2.1] er_ (0,0))]]:List Rowb).flatten∧aa.ob er_ Γ gr_ rw (⟨r_.b,z2.2.1⟩:aa):=⟨_,rfl,A0_8,c0_8,rfl,ho0_8,ho1_8,(dY hk10),trivial⟩
 have hw:=hw.fold (is:=[0]) rfl hrow_9
 obtain⟨hk11,h⟩:=ag h
 cases h
 subst hF
 exact aM (is:=[0]) (by kernel_rfl) hw rfl ⟨row_9,rfl,rfl,hob_9,(dY hk11),trivial⟩
abbrev ox(gr_:Nat)(er_:Nat)(r:aa×Int)(U:List Rowb)(Γ:Gh)(v:Value):Prop := ∃(rowr_':Rowb),v = .int .i64 r.2∧U = [rowr_']∧aa.ob er_ Γ gr_ rowr_' r.1∧I64 r.2∧True
theorem gj{gr_ er_:Nat}{rowr_:Rowb}{r_:aa}(hr_:aa.ob er_ Γ gr_ rowr_ r_)(hp:Pre [rowr_] Γ w0){r:Option (aa×Int)}(h:ek r_=some r):Calls Tryz.prog 158 #[(pq gr_)] w0 (q7 [{ v:=(.iface 219 (.agg #[])),recovered:=false }] Γ [rowr_] w0 (λr=>ox gr_ er_ r) r):=by
 refine goV [2] func158 ntmps158 results158 hp λF hF=>?_
 refine BZ (aV (k:=BX (BZ (mV (k:=?_)))))
 obtain⟨z1,hz2,h⟩:=bnd h
 rcases z1 with _ | o3
 ·
  have h:=gx rfl h
  refine ep (is:=[0]) rfl (caV Dm) rfl (λw hp=>aP hr_ hp hz2) ?_
  intro Γ4 hl5
  intro w hw
  cases h
  subst hF
  first | exact bY hw | exact λ_=>bY hw
 have h:=gw rfl h
 refine ecV [0] (caV Dm) (λw hp=>aP hr_ hp hz2) ?_
 rintro Γ6 _ _ hl7 ⟨row10,rfl,rfl,hr11,hr12,_⟩
 refine cwV 4 [_] (aV (k:=BX ?_))
 refine C2 ?_
 intro w hw
 cases h
 subst hF
 exact aM (is:=[0]) (by kernel_rfl) hw rfl ⟨row10,rfl,rfl,hr11,hr12,trivial⟩
abbrev nN(gr_:Nat)(er_:Nat)(r:aa×Span)(U:List Rowb)(Γ:Gh)(v:Value):Prop := ∃(rowr_':Rowb),v = .agg #[.int .i64 r.2.s,.int .i64 r.2.f,.int .i64 r.2.t]∧U = [rowr_']∧aa.ob er_ Γ gr_ rowr_' r.1∧Span.fits Γ  r.2∧True
theorem jV{gr_ er_:Nat}{rowr_:Rowb}{r_:aa}(hr_:aa.ob er_ Γ gr_ rowr_ r_)(hp:Pre [rowr_] Γ w0){r:Option (aa×Span)}(h:fp r_=some r):Calls Tryz.prog 160 #[(pq gr_)] w0 (q7 [{ v:=(.iface 219 (.agg #[])),recovered:=false }] Γ [rowr_] w0 (λr=>nN gr_ er_ r) r):=by
 refine dl (N:=24) (rs:=[.cell 2 207]) (args:=[(pq gr_)]) func160 rfl ntmps160 results160 rfl ?_
 obtain⟨F,hF⟩:∃F:Fm,F=⟨ids [rowr_],w0,Γ⟩:=⟨_,rfl⟩
 refine Cf (C:=CC F Γ [rowr_]) ?_ (hF▸hp.start)
 refine BZ ?_
 refine alV Dn λg1=>?_
 refine BX (BZ (mV (k:=?_)))
 obtain⟨z2,hz3,h⟩:=bnd h
 rcases z2 with _ | o4
 ·
  have h:=gx rfl h
  refine ep (is:=[1]) rfl (caV call158) rfl (λw hp=>gj hr_ hp hz3) ?_
  intro Γ5 hl6
  intro w hw
  cases h
  subst hF
  first | exact bY hw | exact λ_=>bY hw
 have h:=gw rfl h
 refine ecV [1] (caV call158) (λw hp=>gj hr_ hp hz3) ?_
 rintro Γ7 _ _ hl8 ⟨row11,rfl,rfl,hr12,hr13,_⟩
 refine cwV 5 [_,_] (sV (aR (v:=.agg #[ii o4.2,ii 0,ii 0]) rfl (jy rfl) (λw=>by kernel_rfl)) (k:=?_))
 refine alV Dn λg14=>?_
 refine stV 0 (.agg #[ii o4.2,ii 0,ii 0]) #[ii o4.2,ii 0,ii 0] Do (k:=BX (BZ (mV (k:=?_))))
 obtain⟨z15,hz16,h⟩:=bnd h
 rcases z15 with _ | o17
 ·
  have h:=gx rfl h
  refine ep (is:=[1]) rfl (caV Dm) rfl (λw hp=>aP hr12 hp hz16) ?_
  intro Γ18 hl19
  intro w hw
  cases h
  subst hF
  first | exact bY hw | exact λ_=>bY hw
 have h:=gw rfl h
 refine ecV [1] (caV Dm) (λw hp=>aP hr12 hp hz16) ?_
 rintro Γ20 _ _ hl21 ⟨row24,rfl,rfl,hr25,hr26,_⟩
 refine cwV 8 [_,_,_] (sV (q_fl 1 gI) (k:=stV 1 (ii o17.2) #[ii o4.2,ii o17.2,ii 0] Dh (k:=BX ?_)))
 refine Ce (λσ w => ∃(x29:Span), ∃(o31:aa), ∃(Γ27:Gh), ∃(row32:Rowb),fQ x29 o31=some r∧slots σ [(2,(pq g1)),(3,(pq g14))]∧CC F Γ27 [row32,[(g14,.cells (Span.cs x29).toArray 207 (0,0))],[(g1,.cells #[ii 0,ii 0,ii 0] 207 (0,0))]] w∧Gh.le Γ20 Γ27∧Span.fits Γ27  x29∧aa.ob er_ Γ27 gr_ row32 o31∧True) ?_ ?_
 ·
  refine leV λh034=>?_
  refine e7 (CC F Γ20 [[(g1,.cells #[ii 0,ii 0,ii 0] 207 (0,0))]]) (bo_ [2] gR h034) λk=>?_
  change WH _ _ _ _ (CC F Γ20 [_,_,_]) _ 7 _ _
  refine hV 0 k (q:=q_fl 1 gI) (k:=hV 2 k (q:=moV) (k:=?_))
  obtain⟨z35,hz36,h⟩:=bnd h
  refine Cj (l:=[1,3]) (by kernel_rfl) (by simp) ?_
  intro i hi; simp only [Ct,List.not_mem_nil,or_false] at hi
  rcases hi with rfl | rfl
  ·
   refine⟨_,rfl,?_⟩
   refine sV (ldV 1 D0) (k:=?_)
   refine C0 (nxV (bo_ [2] gR h034) λk=>?_)
   refine wl_ 3 rfl ?_
   rcases z35 with _ | o37
   ·
    have h:=gx rfl h
    refine ep (is:=[0]) rfl (caV Dm) rfl (λw hp=>aP hr25 hp hz36) ?_
    intro Γ38 hl39
    intro w hw
    cases h
    subst hF
    first | exact bY hw | exact λ_=>bY hw
   have h:=gw rfl h
   refine ecV [0] (caV Dm) (λw hp=>aP hr25 hp hz36) ?_
   rintro Γ40 _ _ hl41 ⟨row44,rfl,rfl,hr45,hr46,_⟩
   refine cwV 13 [_,_,_] ?_
   refine C0 (nxV (bo_ [2] hl41 h034) λk=>?_)
   refine hV 4 k (q:=eH) (k:=hV 5 k (q:=q_fl 2 fJ) (k:=wl_ 6 rfl (stV 1 (ii (w64 (o17.2+o37.2))) #[ii o4.2,ii o17.2,ii (w64 (o17.2+o37.2))] Dh (k:=?_))))
   refine C0 (nxV (bo_ [2] hl41 h034) λk=>?_)
   refine Ca (by kernel_rfl) ?_
   intro w hw
   exact⟨(⟨o4.2,o17.2,(w64 (o17.2+o37.2))⟩:Span),o37.1,Γ40,row44,h,slK,hw,hl41,⟨hr13,hr26,(ji _)⟩,hr45,trivial⟩
  refine⟨_,rfl,?_⟩
  rcases z35 with _ | o37
  ·
   have h:=gx rfl h
   refine ep (is:=[0]) rfl (caV Dm) rfl (λw hp=>aP hr25 hp hz36) ?_
   intro Γ38 hl39
   intro w hw
   cases h
   subst hF
   first | exact bY hw | exact λ_=>bY hw
  have h:=gw rfl h
  refine ecV [0] (caV Dm) (λw hp=>aP hr25 hp hz36) ?_
  rintro Γ40 _ _ hl41 ⟨row44,rfl,rfl,hr45,hr46,_⟩
  refine cwV 13 [_,_,_] ?_
  refine C0 (nxV (bo_ [2] hl41 h034) λk=>?_)
  refine wl_ 1 rfl (sV (ldV 1 D0) (k:=?_))
  refine C0 (nxV (bo_ [2] hl41 h034) λk=>?_)
  refine hV 4 k (q:=eH) (k:=hV 5 k (q:=q_fl 2 fJ) (k:=wl_ 6 rfl (stV 1 (ii (w64 (o17.2+o37.2))) #[ii o4.2,ii o17.2,ii (w64 (o17.2+o37.2))] Dh (k:=?_))))
  refine C0 (nxV (bo_ [2] hl41 h034) λk=>?_)
  refine Ca (by kernel_rfl) ?_
  intro w hw
  exact⟨(⟨o4.2,o17.2,(w64 (o17.2+o37.2))⟩:Span),o37.1,Γ40,row44,h,slK,hw,hl41,⟨hr13,hr26,(ji _)⟩,hr45,trivial⟩
 rintro σ w ⟨x29,o31,Γ27,row32,h,hsl,hw,hl28,hf30,ho33,-⟩
 refine slV hsl hw [_,_,_] ?_; clear hw hsl
 refine Ce (λσ w=>fR x29 o31  = some r∧slots σ [(2,(pq g1)),(3,(pq g14))]∧CC F Γ27 [row32,[(g14,.cells (Span.cs x29).toArray 207 (0,0))],[(g1,.cells #[ii 0,ii 0,ii 0] 207 (0,0))]] w∧True) ?_ ?_
 ·
  refine BZ (sV (q_fl 2 fJ) (k:=sV (ldV 1 D0) (k:=sV (q_fl 1 gI) (k:=sV (ldV 1 D0) (k:=sV aQ (k:=BX ?_))))))
  refine ciV h (λhb47 h=>?_) (λhb47 h=>?_)
  ·
   refine C3 ?_
   refine sV (cT (v:=.agg #[]) rfl (λw=>by kernel_rfl)) (k:=sV (eD rfl rfl (λw=>mkif Dl w)) (k:=?_))
   refine lI (v:=.iface 219 (.agg #[])) rfl (gz rfl rfl) ?_
   intro w hw
   cases h
   subst hF
   first | exact bY hw | exact λ_=>bY hw
  exact C4 λw hw=>⟨h,slK,hw,trivial⟩
 rintro σ w ⟨h,hsl,hw,-⟩
 refine slV hsl hw [_,_,_] ?_; clear hw hsl
 refine BZ (sV (ldaV 1 (Span.cs x29) Dp Do) (k:=stV 2 (.agg (Span.cs x29).toArray) (Span.cs x29).toArray Do (k:=BX ?_)))
 refine C2 ?_
 intro w hw
 cases h
 subst hF
 exact⟨[.agg (Span.cs x29).toArray],(da (i:=2) (us:=(Span.cs x29)) hw rfl Dp Do (by kernel_rfl) rfl db),aM (is:=[0]) (by kernel_rfl) hw rfl ⟨row32,rfl,rfl,ho33,hf30,trivial⟩⟩
abbrev mw(gr_:Nat)(er_:Nat)(r:aa×(List Span))(U:List Rowb)(Γ:Gh)(v:Value):Prop := ∃(rowr_':Rowb), ∃(A0:Option Addr), ∃(c0:Nat), ∃(row0:Rowb),v = .slice A0 r.2.length c0∧U = [rowr_',row0]∧aa.ob er_ Γ gr_ rowr_' r.1∧Own gO Γ 207 row0 A0 c0 r.2∧True
theorem jr{gr_ er_:Nat}{rowr_:Rowb}{r_:aa}(hr_:aa.ob er_ Γ gr_ rowr_ r_)(hp:Pre [rowr_] Γ w0){r:Option (aa×(List Span))}(h:eB r_=some r):Calls Tryz.prog 159 #[(pq gr_),.func (.func 160) #[(pq gr_)] #[]] w0 (q7 [{ v:=(.iface 219 (.agg #[])),recovered:=false }] Γ [rowr_] w0 (λr=>mw gr_ er_ r) r):=by
 refine goV [4] func159 ntmps159 results159 hp λF hF=>?_
 refine BZ (aV (k:=BX (BZ (mV (k:=?_)))))
 obtain⟨z1,hz2,h⟩:=bnd h
 rcases z1 with _ | o3
 ·
  have h:=gx rfl h
  refine ep (is:=[0]) rfl (caV Dm) rfl (λw hp=>aP hr_ hp hz2) ?_
  intro Γ4 hl5
  intro w hw
  cases h
  subst hF
  first | exact bY hw | exact λ_=>bY hw
 have h:=gw rfl h
 refine ecV [0] (caV Dm) (λw hp=>aP hr_ hp hz2) ?_
 rintro Γ6 _ _ hl7 ⟨row10,rfl,rfl,hr11,hr12,_⟩
 refine cwV 8 [_] (aV (k:=BX ?_))
 refine Ce (λσ w=>eR o3  = some r∧slots σ [(1,.func (.func 160) #[(pq gr_)] #[]),(5,ii o3.2)]∧CC F Γ6 [row10] w∧True) ?_ ?_
 ·
  refine C1 ?_
  obtain⟨A0_13,c0_13,hrow_13,ho0_13,ho1_13,ho2_13,-⟩:=id hr11
  refine ufC 0 hrow_13 [_] ?_
  refine drV ?_
  refine zV moV (k:=zV moV (k:=zV nlV (k:=zV (q_fl 0 l7) (k:=zV (ldV 0 Da) (k:=zV (ab rfl D2) (k:=zV moV (k:=zV nlV (k:=?_))))))))
  refine zV (q_fl 1 iZ) (k:=zV (ldV 0 CY) (k:=zV iQ (k:=zV cp (k:=?_))))
  refine Cd ?_
  change WC _ _ _ _ _ _
  refine ciV h (λhb14 h=>?_) (λhb14 h=>?_)
  ·
   refine C3 ?_
   refine sV (cT (v:=.agg #[]) rfl (λw=>by kernel_rfl)) (k:=sV (eD rfl rfl (λw=>mkif Dl w)) (k:=?_))
   refine lI (v:=.iface 219 (.agg #[])) rfl (gz rfl rfl) ?_
   intro w hw
   cases h
   subst hF
   first | exact bY hw | exact λ_=>bY hw
  refine C4 ?_
  intro w hw
  have hw:=hw.fold (is:=[0]) rfl hrow_13
  exact⟨h,slK,hw,trivial⟩
 rintro σ w ⟨h,hsl,hw,-⟩
 refine slV hsl hw [_] ?_; clear hw hsl
 refine BZ (aV (k:=BX (C1 (BZ (mV (k:=mV (k:=BX ?_)))))))
 refine C5 ?_
 refine Ci h (λ(i29:Nat) (s:(List Span)×aa) σ w=>match s with | (out_20,o25) => ∃(Γ18:Gh), ∃(A21:Option Addr), ∃(c22:Nat), ∃(row23:Rowb), ∃(row26:Rowb),slots σ [(1,.func (.func 160) #[(pq gr_)] #[]),(6,.slice A21 out_20.length c22),(23,ii o3.2),(24,ii (i29:Int))]∧CC F Γ18 [row23,row26] w∧Gh.le Γ6 Γ18∧Own gO Γ18 207 row23 A21 c22 out_20∧aa.ob er_ Γ18 gr_ row26 o25∧True) ?_ ?_
 ·
  intro w hw
  have hw:=hw.pad
  exact⟨Γ6,none,0,[],row10,slK,hw,gR,(Own.nil gO _ 207),hr11,trivial⟩
 rintro f28 i29 ⟨out_20,o25⟩ σ w hi30 hlt31 hge32 ⟨Γ18,A21,c22,row23,row26,hsl,hw,hl19,ho24,ho27,-⟩
 refine slV hsl hw [_,_] ?_; clear hw hsl
 refine BZ (sV aQ (k:=BX (C1 ?_)))
 refine coV (λhb33=>?_) (λhb33=>?_)
 ·
  have hl34:=ilti hb33
  have h:=hlt31 hl34
  refine C4 (wc_ (C1 (C5 ?_)))
  refine C3 ?_
  refine mV (k:=mU (v:=.func (.func 160) #[(pq gr_)] #[]) (k:=?_))
  obtain⟨z35,hz36,h⟩:=bnd h
  rcases z35 with _ | o37
  ·
   have h:=gx rfl h
   refine ep (is:=[1]) rfl (fg (first:=#[(pq gr_)]) call160 rfl (by kernel_rfl) (by kernel_rfl)) rfl (λw hp=>jV ho27 hp hz36) ?_
   intro Γ38 hl39
   intro w hw
   cases h
   subst hF
   first | exact bY hw | exact λ_=>bY hw
  have h:=gw rfl h
  refine ecV [1] (fg (first:=#[(pq gr_)]) call160 rfl (by kernel_rfl) (by kernel_rfl)) (λw hp=>jV ho27 hp hz36) ?_
  rintro Γ40 _ _ hl41 ⟨row44,rfl,rfl,hr45,hr46,_⟩
  refine cwV 28 [_,_] ?_
  refine bsV (Span.cs o37.2).toArray 207 λg47=>?_
  obtain⟨hk48,h⟩:=ag h
  refine apV 2 [o37.2] zA (ho24.mono hl41) (Cl hk48) (λw hw=>cM (i:=0) rfl (by exact⟨rfl,hr46⟩) hw) ?_
  intro row49 A50 c51 ho52
  refine aV (k:=?_)
  refine C0 ?_
  change WC _ _ _ _ _ _
  refine C3 ?_
  refine sV (aw rfl rfl rfl (hO hl34 hr12)) (k:=mV (k:=?_))
  exact C0 λw hw=>⟨hl34,((out_20++[o37.2]),o37.1),h,Γ40,A50,c51,row49,row44,slK,(hw.on [2,1]),(hl19.trans hl41),ho52,hr45,trivial⟩
 have h:=hge32 (igei hb33)
 refine C8 ?_
 change WC _ _ _ _ _ _
 refine BZ (mV (k:=aV (k:=BX ?_)))
 refine C2 ?_
 intro w hw
 cases h
 subst hF
 exact aM (is:=[1,0]) (by kernel_rfl) hw rfl ⟨row26,A21,c22,row23,rfl,rfl,ho27,ho24,trivial⟩
abbrev ot(gr_:Nat)(er_:Nat)(r:aa×Ver)(U:List Rowb)(Γ:Gh)(v:Value):Prop := ∃(rowr_':Rowb), ∃(A0_2:Option Addr), ∃(c0_2:Nat),v = .agg #[.int .i64 r.2.dot.s,.int .i64 r.2.dot.n,.slice A0_2 r.2.past.length c0_2,.bool r.2.gone,.string r.2.val]∧U = [rowr_']∧aa.ob er_ Γ gr_ rowr_' r.1∧Ver.fits Γ A0_2 c0_2 r.2∧True
theorem ko{gr_ er_:Nat}{rowr_:Rowb}{r_:aa}(hr_:aa.ob er_ Γ gr_ rowr_ r_)(hp:Pre [rowr_] Γ w0){r:Option (aa×Ver)}(h:gg r_=some r):Calls Tryz.prog 124 #[(pq gr_)] w0 (q7 [{ v:=(.iface 219 (.agg #[])),recovered:=false }] Γ [rowr_] w0 (λr=>ot gr_ er_ r) r):=by
 refine dl (N:=30) (rs:=[.cell 2 37]) (args:=[(pq gr_)]) func124 rfl ntmps124 results124 rfl ?_
 obtain⟨F,hF⟩:∃F:Fm,F=⟨ids [rowr_],w0,Γ⟩:=⟨_,rfl⟩
 refine Cf (C:=CC F Γ [rowr_]) ?_ (hF▸hp.start)
 refine BZ ?_
 refine alV Dq λg1=>?_
 refine BX (BZ (mV (k:=?_)))
 obtain⟨z2,hz3,h⟩:=bnd h
 rcases z2 with _ | o4
 ·
  have h:=gx rfl h
  refine ep (is:=[1]) rfl (caV call158) rfl (λw hp=>gj hr_ hp hz3) ?_
  intro Γ5 hl6
  intro w hw
  cases h
  subst hF
  first | exact bY hw | exact λ_=>bY hw
 have h:=gw rfl h
 refine ecV [1] (caV call158) (λw hp=>gj hr_ hp hz3) ?_
 rintro Γ7 _ _ hl8 ⟨row11,rfl,rfl,hr12,hr13,_⟩
 refine cwV 5 [_,_] (sV (aR (v:=.agg #[ii o4.2,ii 0]) rfl (jy rfl) (λw=>by kernel_rfl)) (k:=sV (aR (v:=.agg #[ii o4.2,ii 0,.slice none 0 0,.bool false,.string ByteArray.empty]) rfl (jy rfl) (λw=>by kernel_rfl)) (k:=?_)))
 refine alV Dq λg14=>?_
 refine stV 0 (.agg #[ii o4.2,ii 0,.slice none 0 0,.bool false,.string ByteArray.empty]) #[ii o4.2,ii 0,.slice none 0 0,.bool false,.string ByteArray.empty] Dr (k:=BX (BZ (mV (k:=?_))))
 obtain⟨z15,hz16,h⟩:=bnd h
 rcases z15 with _ | o17
 ·
  have h:=gx rfl h
  refine ep (is:=[1]) rfl (caV Dm) rfl (λw hp=>aP hr12 hp hz16) ?_
  intro Γ18 hl19
  intro w hw
  cases h
  subst hF
  first | exact bY hw | exact λ_=>bY hw
 have h:=gw rfl h
 refine ecV [1] (caV Dm) (λw hp=>aP hr12 hp hz16) ?_
 rintro Γ20 _ _ hl21 ⟨row24,rfl,rfl,hr25,hr26,_⟩
 refine cwV 9 [_,_,_] (sV (q_fl 0 bJ) (k:=sV (q_fl 1 eP) (k:=stV 1 (ii o17.2) #[ii o4.2,ii o17.2,.slice none 0 0,.bool false,.string ByteArray.empty] Dh (k:=BX (BZ (mV (k:=mV (k:=?_))))))))
 refine sV (iD (v:=.func (.func 160) #[(pq gr_)] #[]) rfl (by kernel_rfl)) (k:=?_)
 obtain⟨z27,hz28,h⟩:=bnd h
 rcases z27 with _ | o29
 ·
  have h:=gx rfl h
  refine ep (is:=[0]) rfl (caV call159) rfl (λw hp=>jr hr25 hp hz28) ?_
  intro Γ30 hl31
  intro w hw
  cases h
  subst hF
  first | exact bY hw | exact λ_=>bY hw
 have h:=gw rfl h
 refine ecV [0] (caV call159) (λw hp=>jr hr25 hp hz28) ?_
 rintro Γ32 _ _ hl33 ⟨row36,A38,c39,row40,rfl,rfl,hr37,hr41,_⟩
 refine cwV 15 [_,_,_,_] (sV (q_fl 2 eX) (k:=stV 2 (.slice A38 o29.2.length c39) #[ii o4.2,ii o17.2,.slice A38 o29.2.length c39,.bool false,.string ByteArray.empty] sizeOf33 (k:=BX ?_)))
 refine Ce (λσ w => ∃(x44:Bool), ∃(x45:ByteArray), ∃(o47:aa), ∃(Γ42:Gh), ∃(row48:Rowb),eo o4 o17 o29 x44 x45 o47=some r∧slots σ [(2,(pq g1)),(3,(pq g14))]∧CC F Γ42 [row48,row40,[(g14,.cells #[ii o4.2,ii o17.2,.slice A38 o29.2.length c39,.bool x44,.string x45] 37 (0,0))],[(g1,.cells #[ii 0,ii 0,.slice none 0 0,.bool false,.string ByteArray.empty] 37 (0,0))]] w∧Gh.le Γ32 Γ42∧x45.size≤lim∧aa.ob er_ Γ42 gr_ row48 o47∧True) ?_ ?_
 ·
  refine BZ (mV (k:=?_))
  obtain⟨z50,hz51,h⟩:=bnd h
  rcases z50 with _ | o52
  ·
   have h:=gx rfl h
   refine ep (is:=[0]) rfl (caV Dm) rfl (λw hp=>aP hr37 hp hz51) ?_
   intro Γ53 hl54
   intro w hw
   cases h
   subst hF
   first | exact bY hw | exact λ_=>bY hw
  have h:=gw rfl h
  refine ecV [0] (caV Dm) (λw hp=>aP hr37 hp hz51) ?_
  rintro Γ55 _ _ hl56 ⟨row59,rfl,rfl,hr60,hr61,_⟩
  refine cwV 18 [_,_,_,_] (BX (C5 (BZ (sV bD (k:=aV (k:=BX ?_))))))
  refine ciV h (λhb62 h=>?_) (λhb62 h=>?_)
  ·
   refine C3 ?_
   refine mV (k:=?_)
   obtain⟨z63,hz64,h⟩:=bnd h
   rcases z63 with _ | o65
   ·
    have h:=gx rfl h
    refine ep (is:=[0]) rfl (caV call122) rfl (λw hp=>fm hr60 hp hz64) ?_
    intro Γ66 hl67
    intro w hw
    cases h
    subst hF
    first | exact bY hw | exact λ_=>bY hw
   have h:=gw rfl h
   refine ecV [0] (caV call122) (λw hp=>fm hr60 hp hz64) ?_
   rintro Γ68 _ _ hl69 ⟨row72,rfl,rfl,hr73,hr74,_⟩
   refine cwV 24 [_,_,_,_] (sV (q_fl 4 dX) (k:=stV 2 (.string o65.2) #[ii o4.2,ii o17.2,.slice A38 o29.2.length c39,.bool false,.string o65.2] Dg (k:=?_)))
   exact C0 λw hw=>⟨false,o65.2,o65.1,Γ68,row72,h,slK,hw,(hl56.trans hl69),hr74,hr73,trivial⟩
  refine BZ (sV bD (k:=aV (k:=BX ?_)))
  refine ciV h (λhb75 h=>?_) (λhb75 h=>?_)
  ·
   refine C3 ?_
   refine sV (q_fl 3 la) (k:=stV 2 (.bool true) #[ii o4.2,ii o17.2,.slice A38 o29.2.length c39,.bool true,.string ByteArray.empty] sizeOf4 (k:=?_))
   exact C0 λw hw=>⟨true,ByteArray.empty,o52.1,Γ55,row59,h,slK,hw,hl56,(show (ByteArray.empty:ByteArray).size≤lim by decide),hr60,trivial⟩
  refine C3 ?_
  refine sV (cT (v:=.agg #[]) rfl (λw=>by kernel_rfl)) (k:=sV (eD rfl rfl (λw=>mkif Dl w)) (k:=?_))
  refine lI (v:=.iface 219 (.agg #[])) rfl (gz rfl rfl) ?_
  intro w hw
  cases h
  subst hF
  first | exact bY hw | exact λ_=>bY hw
 rintro σ w ⟨x44,x45,o47,Γ42,row48,h,hsl,hw,hl43,hr46,ho49,-⟩
 refine slV hsl hw [_,_,_,_] ?_; clear hw hsl
 refine BZ (sV (ldaV 2 [ii o4.2,ii o17.2,.slice A38 o29.2.length c39,.bool x44,.string x45] Ds Dr) (k:=stV 3 (.agg #[ii o4.2,ii o17.2,.slice A38 o29.2.length c39,.bool x44,.string x45]) #[ii o4.2,ii o17.2,.slice A38 o29.2.length c39,.bool x44,.string x45] Dr (k:=BX ?_)))
 refine C2 ?_
 intro w hw
 have hc82:=(hr41.mono hl43).capz
 obtain⟨Γ78,hw,hl79,hr80⟩:=hw.seal (i:=1) rfl; have hs81:=(hr41.mono hl43).sl hl79 hr80
 cases h
 subst hF
 exact⟨[.agg #[ii o4.2,ii o17.2,.slice A38 o29.2.length c39,.bool x44,.string x45]],(da (i:=3) (us:=[ii o4.2,ii o17.2,.slice A38 o29.2.length c39,.bool x44,.string x45]) hw rfl Ds Dr (by kernel_rfl) rfl db),aM (is:=[0]) (by kernel_rfl) hw rfl ⟨row48,A38,c39,rfl,rfl,(ho49.mono hl79),⟨hr13,hr26,⟨hc82,hs81⟩,hr46⟩,trivial⟩⟩
abbrev nr(gr_:Nat)(er_:Nat)(r:aa×(List Ver))(U:List Rowb)(Γ:Gh)(v:Value):Prop := ∃(rowr_':Rowb), ∃(A0:Option Addr), ∃(c0:Nat), ∃(row0:Rowb),v = .slice A0 r.2.length c0∧U = [rowr_',row0]∧aa.ob er_ Γ gr_ rowr_' r.1∧Own verT Γ 37 row0 A0 c0 r.2∧True
theorem jB{gr_ er_:Nat}{rowr_:Rowb}{r_:aa}(hr_:aa.ob er_ Γ gr_ rowr_ r_)(hp:Pre [rowr_] Γ w0){r:Option (aa×(List Ver))}(h:eL r_=some r):Calls Tryz.prog 123 #[(pq gr_),.func (.func 124) #[(pq gr_)] #[]] w0 (q7 [{ v:=(.iface 219 (.agg #[])),recovered:=false }] Γ [rowr_] w0 (λr=>nr gr_ er_ r) r):=by
 refine goV [4] func123 ntmps123 results123 hp λF hF=>?_
 refine BZ (aV (k:=BX (BZ (mV (k:=?_)))))
 obtain⟨z1,hz2,h⟩:=bnd h
 rcases z1 with _ | o3
 ·
  have h:=gx rfl h
  refine ep (is:=[0]) rfl (caV Dm) rfl (λw hp=>aP hr_ hp hz2) ?_
  intro Γ4 hl5
  intro w hw
  cases h
  subst hF
  first | exact bY hw | exact λ_=>bY hw
 have h:=gw rfl h
 refine ecV [0] (caV Dm) (λw hp=>aP hr_ hp hz2) ?_
 rintro Γ6 _ _ hl7 ⟨row10,rfl,rfl,hr11,hr12,_⟩
 refine cwV 8 [_] (aV (k:=BX ?_))
 refine Ce (λσ w=>fD o3  = some r∧slots σ [(1,.func (.func 124) #[(pq gr_)] #[]),(5,ii o3.2)]∧CC F Γ6 [row10] w∧True) ?_ ?_
 ·
  refine C1 ?_
  obtain⟨A0_13,c0_13,hrow_13,ho0_13,ho1_13,ho2_13,-⟩:=id hr11
  refine ufC 0 hrow_13 [_] ?_
  refine drV ?_
  refine zV moV (k:=zV moV (k:=zV nlV (k:=zV (q_fl 0 l7) (k:=zV (ldV 0 Da) (k:=zV (ab rfl D2) (k:=zV moV (k:=zV nlV (k:=?_))))))))
  refine zV (q_fl 1 iZ) (k:=zV (ldV 0 CY) (k:=zV iQ (k:=zV cp (k:=?_))))
  refine Cd ?_
  change WC _ _ _ _ _ _
  refine ciV h (λhb14 h=>?_) (λhb14 h=>?_)
  ·
   refine C3 ?_
   refine sV (cT (v:=.agg #[]) rfl (λw=>by kernel_rfl)) (k:=sV (eD rfl rfl (λw=>mkif Dl w)) (k:=?_))
   refine lI (v:=.iface 219 (.agg #[])) rfl (gz rfl rfl) ?_
   intro w hw
   cases h
   subst hF
   first | exact bY hw | exact λ_=>bY hw
  refine C4 ?_
  intro w hw
  have hw:=hw.fold (is:=[0]) rfl hrow_13
  exact⟨h,slK,hw,trivial⟩
 rintro σ w ⟨h,hsl,hw,-⟩
 refine slV hsl hw [_] ?_; clear hw hsl
 refine BZ (aV (k:=BX (C1 (BZ (mV (k:=mV (k:=BX ?_)))))))
 refine C5 ?_
 refine Ci h (λ(i29:Nat) (s:(List Ver)×aa) σ w=>match s with | (out_20,o25) => ∃(Γ18:Gh), ∃(A21:Option Addr), ∃(c22:Nat), ∃(row23:Rowb), ∃(row26:Rowb),slots σ [(1,.func (.func 124) #[(pq gr_)] #[]),(6,.slice A21 out_20.length c22),(23,ii o3.2),(24,ii (i29:Int))]∧CC F Γ18 [row23,row26] w∧Gh.le Γ6 Γ18∧Own verT Γ18 37 row23 A21 c22 out_20∧aa.ob er_ Γ18 gr_ row26 o25∧True) ?_ ?_
 ·
  intro w hw
  have hw:=hw.pad
  exact⟨Γ6,none,0,[],row10,slK,hw,gR,(Own.nil verT _ 37),hr11,trivial⟩
 rintro f28 i29 ⟨out_20,o25⟩ σ w hi30 hlt31 hge32 ⟨Γ18,A21,c22,row23,row26,hsl,hw,hl19,ho24,ho27,-⟩
 refine slV hsl hw [_,_] ?_; clear hw hsl
 refine BZ (sV aQ (k:=BX (C1 ?_)))
 refine coV (λhb33=>?_) (λhb33=>?_)
 ·
  have hl34:=ilti hb33
  have h:=hlt31 hl34
  refine C4 (wc_ (C1 (C5 ?_)))
  refine C3 ?_
  refine mV (k:=mU (v:=.func (.func 124) #[(pq gr_)] #[]) (k:=?_))
  obtain⟨z35,hz36,h⟩:=bnd h
  rcases z35 with _ | o37
  ·
   have h:=gx rfl h
   refine ep (is:=[1]) rfl (fg (first:=#[(pq gr_)]) call124 rfl (by kernel_rfl) (by kernel_rfl)) rfl (λw hp=>ko ho27 hp hz36) ?_
   intro Γ38 hl39
   intro w hw
   cases h
   subst hF
   first | exact bY hw | exact λ_=>bY hw
  have h:=gw rfl h
  refine ecV [1] (fg (first:=#[(pq gr_)]) call124 rfl (by kernel_rfl) (by kernel_rfl)) (λw hp=>ko ho27 hp hz36) ?_
  rintro Γ40 _ _ hl41 ⟨row44,A46,c47,rfl,rfl,hr45,hr48,_⟩
  refine cwV 28 [_,_] ?_
  refine bsV (Ver.cs A46 c47 o37.2).toArray 37 λg49=>?_
  obtain⟨hk50,h⟩:=ag h
  refine apV 2 [o37.2] zg (ho24.mono hl41) (Cl hk50) (λw hw=>cM (i:=0) rfl (by exact⟨A46,c47,rfl,hr48⟩) hw) ?_
  intro row51 A52 c53 ho54
  refine aV (k:=?_)
  refine C0 ?_
  change WC _ _ _ _ _ _
  refine C3 ?_
  refine sV (aw rfl rfl rfl (hO hl34 hr12)) (k:=mV (k:=?_))
  exact C0 λw hw=>⟨hl34,((out_20++[o37.2]),o37.1),h,Γ40,A52,c53,row51,row44,slK,(hw.on [2,1]),(hl19.trans hl41),ho54,hr45,trivial⟩
 have h:=hge32 (igei hb33)
 refine C8 ?_
 change WC _ _ _ _ _ _
 refine BZ (mV (k:=aV (k:=BX ?_)))
 refine C2 ?_
 intro w hw
 cases h
 subst hF
 exact aM (is:=[1,0]) (by kernel_rfl) hw rfl ⟨row26,A21,c22,row23,rfl,rfl,ho27,ho24,trivial⟩
abbrev oq(gr_:Nat)(er_:Nat)(r:aa×Rec)(U:List Rowb)(Γ:Gh)(v:Value):Prop := ∃(rowr_':Rowb), ∃(A0_1:Option Addr), ∃(c0_1:Nat),v = .agg #[.string r.2.key,.slice A0_1 r.2.vers.length c0_1]∧U = [rowr_']∧aa.ob er_ Γ gr_ rowr_' r.1∧Rec.fits Γ A0_1 c0_1 r.2∧True
theorem kx{gr_ er_:Nat}{rowr_:Rowb}{r_:aa}(hr_:aa.ob er_ Γ gr_ rowr_ r_)(hp:Pre [rowr_] Γ w0){r:Option (aa×Rec)}(h:fW r_=some r):Calls Tryz.prog 93 #[(pq gr_)] w0 (q7 [{ v:=(.iface 219 (.agg #[])),recovered:=false }] Γ [rowr_] w0 (λr=>oq gr_ er_ r) r):=by
 refine dl (N:=12) (rs:=[.cell 2 42]) (args:=[(pq gr_)]) func93 rfl ntmps93 results93 rfl ?_
 obtain⟨F,hF⟩:∃F:Fm,F=⟨ids [rowr_],w0,Γ⟩:=⟨_,rfl⟩
 refine Cf (C:=CC F Γ [rowr_]) ?_ (hF▸hp.start)
 refine BZ ?_
 refine alV Dt λg1=>?_
 refine BX (BZ (mV (k:=?_)))
 obtain⟨z2,hz3,h⟩:=bnd h
 rcases z2 with _ | o4
 ·
  have h:=gx rfl h
  refine ep (is:=[1]) rfl (caV call122) rfl (λw hp=>fm hr_ hp hz3) ?_
  intro Γ5 hl6
  intro w hw
  cases h
  subst hF
  first | exact bY hw | exact λ_=>bY hw
 have h:=gw rfl h
 refine ecV [1] (caV call122) (λw hp=>fm hr_ hp hz3) ?_
 rintro Γ7 _ _ hl8 ⟨row11,rfl,rfl,hr12,hr13,_⟩
 refine cwV 5 [_,_] (aV (k:=BX (BZ (mV (k:=mV (k:=mV (k:=sV (iD (v:=.func (.func 124) #[(pq gr_)] #[]) rfl (by kernel_rfl)) (k:=?_))))))))
 obtain⟨z14,hz15,h⟩:=bnd h
 rcases z14 with _ | o16
 ·
  have h:=gx rfl h
  refine ep (is:=[0]) rfl (caV call123) rfl (λw hp=>jB hr12 hp hz15) ?_
  intro Γ17 hl18
  intro w hw
  cases h
  subst hF
  first | exact bY hw | exact λ_=>bY hw
 have h:=gw rfl h
 refine ecV [0] (caV call123) (λw hp=>jB hr12 hp hz15) ?_
 rintro Γ19 _ _ hl20 ⟨row23,A25,c26,row27,rfl,rfl,hr24,hr28,_⟩
 refine cwV 10 [_,_,_] (sV (aR (v:=.agg #[.string o4.2,.slice A25 o16.2.length c26]) rfl (ib rfl rfl) (λw=>by kernel_rfl)) (k:=stV 2 (.agg #[.string o4.2,.slice A25 o16.2.length c26]) #[.string o4.2,.slice A25 o16.2.length c26] Du (k:=BX ?_)))
 refine C2 ?_
 intro w hw
 have hc33:=hr28.capz
 obtain⟨Γ29,hw,hl30,hr31⟩:=hw.seal (i:=1) rfl; have hs32:=hr28.sl hl30 hr31
 cases h
 subst hF
 exact⟨[.agg #[.string o4.2,.slice A25 o16.2.length c26]],(da (i:=2) (us:=[.string o4.2,.slice A25 o16.2.length c26]) hw rfl Dv Du (by kernel_rfl) rfl db),aM (is:=[0]) (by kernel_rfl) hw rfl ⟨row23,A25,c26,rfl,rfl,(hr24.mono hl30),⟨hr13,⟨hc33,hs32⟩⟩,trivial⟩⟩
set_option maxRecDepth 100000 in
theorem yR(p0:Value)(p1:Value):idle Tryz.prog 121 #[p0,p1]:=by
  intro w
  refine tW (n:=13) (args:=[p0,p1]) Tryz.func121 rfl Tryz.ntmps121 Tryz.results121 (pY rfl rfl) rfl rfl rfl rfl ?_
  refine Cf (C:=λw2=>w2=w) ?_ rfl
  refine C5 ?_
  refine BZ ?_
  refine va rfl rfl rfl (yN rfl rfl (λw=>xg Tryz.underlying20 w)) ?_
  refine C0 ?_
  change WC _ _ _ _ _ _
  refine Ch (b:=true) (by kernel_rfl) rfl ?_
  refine C3 ?_
  refine va rfl rfl rfl (bV (v:=.nilIface) rfl (by kernel_rfl)) ?_
  refine C0 ?_
  intro w2 hw
  exact⟨⟨_,rfl⟩,hw⟩
abbrev lO(gb0:Nat)(b0v0:ByteArray)(Ab0v1:Option Addr)(cb0v1:Nat)(b0v1:List Ver)(gb1:Nat)(b1v:Int)(r:ByteArray×(List Ver)×Int)(U:List Rowb)(Γ:Gh)(v:Value):Prop := ∃(Ab0_1:Option Addr), ∃(cb0_1:Nat),v = .tuple #[]∧U = [[(gb0,.cells #[.string r.1,.slice Ab0_1 r.2.1.length cb0_1] 42 (0,0))],[(gb1,.cells #[.int .i64 r.2.2] 28 (0,0))]]∧r.1.size≤lim∧r.2.1.length≤cb0_1∧Sl verT Γ Ab0_1 r.2.1∧I64 r.2.2∧True
theorem iA{gb0:Nat}(b0v0:ByteArray)(hb0v0:b0v0.size≤lim){Ab0v1:Option Addr}{cb0v1:Nat}{b0v1:List Ver}(hb0v1:Sl verT Γ Ab0v1 b0v1)(hb0v1c:b0v1.length≤cb0v1){gb1:Nat}(b1v:Int)(hb1v:I64 b1v)(hp:Pre [[(gb0,.cells #[.string b0v0,.slice Ab0v1 b0v1.length cb0v1] 42 (0,0))],[(gb1,.cells #[ii b1v] 28 (0,0))]] Γ w0){r:ByteArray×(List Ver)×Int}(h:fC b0v0 b0v1 b1v=some r):CallsD Tryz.prog 121 #[(pq gb0),(pq gb1)] (.panicking [{ v:=(.iface 219 (.agg #[])),recovered:=false }]) w0 (λe u' w'=>u' = .panicking [{ v:=(.iface 219 (.agg #[])),recovered:=true }]∧(Outc Γ [[(gb0,.cells #[.string b0v0,.slice Ab0v1 b0v1.length cb0v1] 42 (0,0))],[(gb1,.cells #[ii b1v] 28 (0,0))]] w0 (lO gb0 b0v0 Ab0v1 cb0v1 b0v1 gb1 b1v r)) e w'):=by
 refine uP (n:=13) (args:=[(pq gb0),(pq gb1)]) func121 rfl ntmps121 results121 (pY rfl rfl) rfl rfl rfl rfl ?_
 obtain⟨F,hF⟩:∃F:Fm,F=⟨ids [[(gb0,.cells #[.string b0v0,.slice Ab0v1 b0v1.length cb0v1] 42 (0,0))],[(gb1,.cells #[ii b1v] 28 (0,0))]],w0,Γ⟩:=⟨_,rfl⟩
 refine Cf (C:=CC F Γ [[(gb0,.cells #[.string b0v0,.slice Ab0v1 b0v1.length cb0v1] 42 (0,0))],[(gb1,.cells #[ii b1v] 28 (0,0))]]) ?_ (hF▸hp.start)
 refine C5 (BZ (sV (xi rfl rfl rfl (λw=>zX underlying20 w)) (k:=BX ?_)))
 refine Cb (b:=false) (by kernel_rfl) rfl ?_
 refine BZ (sV (df Dl rfl rfl) (k:=sV exV (k:=sV exV (k:=BX ?_))))
 refine Ch (b:=true) (by kernel_rfl) rfl ?_
 refine BZ ?_
 refine alV zeroValue219 λg1=>?_
 refine stV 0 (.agg #[]) #[] sizeOf219 (k:=BX (BZ ?_))
 refine alV Dt λg2=>?_
 refine BX ?_
 refine C3 ?_
 refine sV (ldaV 0 [.string ByteArray.empty,.slice none 0 0] Dv Du) (k:=stV 2 (.agg #[.string ByteArray.empty,.slice none 0 0]) #[.string ByteArray.empty,.slice none 0 0] Du (k:=stV 3 (ii 2) #[ii 2] sizeOf28 (k:=?_)))
 refine C0 ?_
 intro w hw
 cases h
 subst hF
 exact aM (is:=[2,2]) (by kernel_rfl) hw rfl ⟨none,0,rfl,rfl,(show (ByteArray.empty:ByteArray).size≤lim by decide),(CE 0),(Sl.nil verT _ none),iV,trivial⟩
theorem oo{Al:Option Addr}{cl:Nat}{l:List Span}(hl:Sl gO Γ Al l)(hlc:l.length≤cl)(hs:Sat Γ w0){r:Bool}(h:iw l=some r):CQ Tryz.prog 173 #[.slice Al l.length cl] w0 (.bool r):=by
 refine goQ [2] func173 ntmps173 results173 hs λF hF=>?_
 refine BZ (aV (k:=BX (BZ (sV (cT (v:=.agg #[ii 0,ii 0,ii 0]) rfl (λw=>by kernel_rfl)) (k:=?_)))))
 refine alV Dn λg1=>?_
 refine stV 0 (.agg #[ii 0,ii 0,ii 0]) #[ii 0,ii 0,ii 0] Do (k:=BX (C1 (BZ (mV (k:=sV (ab rfl Dw) (k:=mV (k:=BX ?_)))))))
 refine C5 ?_
 refine Cc h (λ(i5:Nat) (x2:Span) σ w=>slots σ [(0,.slice Al l.length cl),(3,(pq g1)),(7,.slice Al l.length cl),(8,ii (l.length:Int)),(9,ii (i5:Int))]∧CC F Γ [[(g1,.cells (Span.cs x2).toArray 207 (0,0))]] w∧Span.fits Γ  x2∧True) ?_ ?_
 ·
  intro w hw
  exact⟨slK,hw,⟨iV,iV,iV⟩,trivial⟩
 rintro f4 i5 x2 σ w hi6 hlt7 hge8 ⟨hsl,hw,hf3,-⟩
 refine slV hsl hw [_] ?_; clear hw hsl
 refine BZ (sV aQ (k:=BX (C1 ?_)))
 refine coV (λhb9=>?_) (λhb9=>?_)
 ·
  have hl10:=ilt hb9
  have h:=hlt7 hl10
  refine C4 (wc_ (C1 (C5 (BZ (sV (aO (i:=i5) Dw Do rfl rfl rfl hl10 (hl.some_ hl10)) (k:=sV (ik (c:=0) (vs:=(Span.cs (gt l i5))) (hl.spanT_at hl10).2 rfl Dp Do rfl rfl rfl) (k:=?_)))))))
  refine alV Dn λg11=>?_
  refine stV 0 (.agg (Span.cs (gt l i5)).toArray) (Span.cs (gt l i5)).toArray Do (k:=BX (C1 (BZ (sV (q_fl 0 fM) (k:=sV (ldV 0 CY) (k:=sV aQ (k:=mV (k:=?_))))))))
  refine vG0 (h:=λhg12=>q_fl 0 fM) (k:=vG0 (h:=λhg13=>ldV 0 CY (hx:=grV hg13)) (k:=vG0 (h:=λhg14=>cp rfl (grV hg14)) (k:=sV pkO (k:=mV (k:=vG0 (h:=λhg15=>q_fl 1 gI) (k:=vG0 (h:=λhg16=>ldV 0 D0 (hx:=grV hg16)) (k:=vG0 (h:=λhg17=>aQ rfl (grV hg17)) (k:=?_))))))))
  refine sV pkO (k:=mV (k:=vG0 (h:=λhg18=>q_fl 1 gI) (k:=vG0 (h:=λhg19=>ldV 0 D0 (hx:=grV hg19)) (k:=vG0 (h:=λhg20=>q_fl 2 fJ) (k:=vG0 (h:=λhg21=>ldV 0 D0 (hx:=grV hg21)) (k:=vG0 (h:=λhg22=>cp rfl (grV hg22) (grV hg22)) (k:=sV pkO (k:=?_))))))))
  refine mV (k:=vG0 (h:=λhg23=>q_fl 2 fJ) (k:=vG0 (h:=λhg24=>ldV 0 D0 (hx:=grV hg24)) (k:=vG0 (h:=λhg25=>cp rfl (grV hg25)) (k:=sV pkO (k:=mV (k:=vG0 (h:=λhg26=>q_fl 0 fM) (k:=vG0 (h:=λhg27=>ldV 0 CY (hx:=grV hg27)) (k:=?_))))))))
  refine vG0 (h:=λhg28=>q_fl 0 fM) (k:=vG0 (h:=λhg29=>ldV 1 CY (hx:=grV hg29)) (k:=vG0 (h:=λhg30=>aQ rfl (grV hg30) (grV hg30)) (k:=sV pkO (k:=mV (k:=vG0 (h:=λhg31=>q_fl 0 fM) (k:=vG0 (h:=λhg32=>ldV 0 CY (hx:=grV hg32)) (k:=vG0 (h:=λhg33=>q_fl 0 fM) (k:=?_))))))))
  refine vG0 (h:=λhg34=>ldV 1 CY (hx:=grV hg34)) (k:=vG0 (h:=λhg35=>bD rfl (grV hg35) (grV hg35)) (k:=vG0 (h:=λhg36=>au (v:=.bool ((gt l i5).s==x2.s)) rfl (grV hg36)) (k:=vh1 (c0:=(!((((((decide ((gt l i5).s<1))||(decide (16<(gt l i5).s)))||(decide ((gt l i5).f<1)))||(decide ((gt l i5).t<(gt l i5).f)))||(decide (4611686018427387904<(gt l i5).t)))||(decide ((gt l i5).s<x2.s))))) (g:=((gt l i5).s==x2.s)) rfl rfl rfl rfl rfl (λ_=>QV.qo (q_fl 1 gI)) (vh1 (c0:=(!((((((decide ((gt l i5).s<1))||(decide (16<(gt l i5).s)))||(decide ((gt l i5).f<1)))||(decide ((gt l i5).t<(gt l i5).f)))||(decide (4611686018427387904<(gt l i5).t)))||(decide ((gt l i5).s<x2.s))))) (g:=((gt l i5).s==x2.s)) rfl rfl rfl rfl rfl (λhg38=>QV.qo (ldV 0 D0 (hx:=grV hg38))) (vh1 (c0:=(!((((((decide ((gt l i5).s<1))||(decide (16<(gt l i5).s)))||(decide ((gt l i5).f<1)))||(decide ((gt l i5).t<(gt l i5).f)))||(decide (4611686018427387904<(gt l i5).t)))||(decide ((gt l i5).s<x2.s))))) (g:=((gt l i5).s==x2.s)) rfl rfl rfl rfl rfl (λ_=>QV.qo (q_fl 2 fJ)) ?_)))))
  refine vh1 (c0:=(!((((((decide ((gt l i5).s<1))||(decide (16<(gt l i5).s)))||(decide ((gt l i5).f<1)))||(decide ((gt l i5).t<(gt l i5).f)))||(decide (4611686018427387904<(gt l i5).t)))||(decide ((gt l i5).s<x2.s))))) (g:=((gt l i5).s==x2.s)) rfl rfl rfl rfl rfl (λhg40=>QV.qo (ldV 1 D0 (hx:=grV hg40))) (vh1 (c0:=(!((((((decide ((gt l i5).s<1))||(decide (16<(gt l i5).s)))||(decide ((gt l i5).f<1)))||(decide ((gt l i5).t<(gt l i5).f)))||(decide (4611686018427387904<(gt l i5).t)))||(decide ((gt l i5).s<x2.s))))) (g:=((gt l i5).s==x2.s)) rfl rfl rfl rfl rfl (λhg41=>QV.qo (eH rfl (grV hg41))) (vh1 (c0:=(!((((((decide ((gt l i5).s<1))||(decide (16<(gt l i5).s)))||(decide ((gt l i5).f<1)))||(decide ((gt l i5).t<(gt l i5).f)))||(decide (4611686018427387904<(gt l i5).t)))||(decide ((gt l i5).s<x2.s))))) (g:=((gt l i5).s==x2.s)) rfl rfl rfl rfl rfl (λhg42=>QV.qo (gU rfl (grV hg42) (grV hg42))) (vG0 (h:=λhg43=>fx rfl (grV hg43) (lr (c:=(!((((((decide ((gt l i5).s<1))||(decide (16<(gt l i5).s)))||(decide ((gt l i5).f<1)))||(decide ((gt l i5).t<(gt l i5).f)))||(decide (4611686018427387904<(gt l i5).t)))||(decide ((gt l i5).s<x2.s))))) (g:=((gt l i5).s==x2.s)) (y:=(decide ((gt l i5).f≤(w64 (x2.t+1))))) hg43)) (k:=sV pkO (k:=BX ?_)))))
  refine ciV h (λhb44 h=>?_) (λhb44 h=>?_)
  ·
   refine BZ (aV (k:=BX ?_))
   exact C2 λw hw=>rq_ r h hF hw
  refine C4 (wc_ ?_)
  refine C3 ?_
  refine sV (ldaV 0 (Span.cs (gt l i5)) Dp Do) (k:=stV 1 (.agg (Span.cs (gt l i5)).toArray) (Span.cs (gt l i5)).toArray Do (k:=?_))
  refine C0 ?_
  change WC _ _ _ _ _ _
  refine C3 ?_
  refine sV (aw rfl rfl rfl (aA hl10 hl.le)) (k:=mV (k:=?_))
  exact C0 λw hw=>⟨hl10,(gt l i5),h,slK,(hw.on [1]),(hl.spanT_at hl10).1,trivial⟩
 have h:=hge8 (ige hb9)
 refine C8 ?_
 change WC _ _ _ _ _ _
 refine BZ (mV (k:=sV (ab rfl Dw) (k:=sV gU (k:=aV (k:=BX ?_)))))
 exact C2 λw hw=>rq_ r h hF hw
theorem ve{Al:Option Addr}{cl:Nat}{l:List Span}(hl:Sl gO Γ Al l)(hlc:l.length≤cl)(s_:Int)(hs_:I64 s_)(hs:Sat Γ w0){r:Int}(h:lM l s_=some r):CQ Tryz.prog 174 #[.slice Al l.length cl,ii s_] w0 (ii r):=by
 refine goQ [4] func174 ntmps174 results174 hs λF hF=>?_
 refine BZ (aV (k:=BX (BZ (aV (k:=BX (C1 (BZ ?_)))))))
 refine mV (k:=sV (ab rfl Dw) (k:=mV (k:=BX (C5 ?_))))
 refine Cc h (λ(i4:Nat) (top_1:Int) σ w=>slots σ [(1,ii s_),(5,ii top_1),(8,.slice Al l.length cl),(9,ii (l.length:Int)),(10,ii (i4:Int))]∧CC F Γ [] w∧I64 top_1∧True) ?_ ?_
 ·
  intro w hw
  exact⟨slK,hw,iV,trivial⟩
 rintro f3 i4 top_1 σ w hi5 hlt6 hge7 ⟨hsl,hw,hr2,-⟩
 refine slV hsl hw [] ?_; clear hw hsl
 refine BZ (sV aQ (k:=BX (C1 ?_)))
 refine coV (λhb8=>?_) (λhb8=>?_)
 ·
  have hl9:=ilt hb8
  have h:=hlt6 hl9
  refine C4 (wc_ ?_)
  refine Ce (λσ w => ∃(top_10:Int),jd f3 top_10=some r∧slots σ [(1,ii s_),(5,ii top_10),(8,.slice Al l.length cl),(9,ii (l.length:Int)),(10,ii (i4:Int))]∧CC F Γ [] w∧I64 top_10∧True) ?_ ?_
  ·
   refine C5 (BZ (sV (aO (i:=i4) Dw Do rfl rfl rfl hl9 (hl.some_ hl9)) (k:=sV (ik (c:=0) (vs:=(Span.cs (gt l i4))) (hl.spanT_at hl9).2 rfl Dp Do rfl rfl rfl) (k:=?_))))
   refine alV Dn λg12=>?_
   refine stV 0 (.agg (Span.cs (gt l i4)).toArray) (Span.cs (gt l i4)).toArray Do (k:=BX (BZ (sV (q_fl 0 fM) (k:=sV (ldV 0 CY) (k:=mV (k:=sV bD (k:=BX ?_)))))))
   refine ciV h (λhb13 h=>?_) (λhb13 h=>?_)
   ·
    refine C3 ?_
    refine mV (k:=sV (q_fl 2 fJ) (k:=sV (ldV 0 D0) (k:=sV tS (k:=aV (k:=?_)))))
    exact C0 λw hw=>⟨(max top_1 (gt l i4).t),h,slK,(hw.on []),(xQ hr2 (hl.spanT_at hl9).1.2.2),trivial⟩
   exact C4 λw hw=>⟨top_1,h,slK,(hw.on []),hr2,trivial⟩
  rintro σ w ⟨top_10,h,hsl,hw,hr11,-⟩
  refine slV hsl hw [] ?_; clear hw hsl
  refine C3 ?_
  refine sV (aw rfl rfl rfl (aA hl9 hl.le)) (k:=mV (k:=?_))
  exact C0 λw hw=>⟨hl9,top_10,h,slK,hw,hr11,trivial⟩
 have h:=hge7 (ige hb8)
 refine C8 ?_
 change WC _ _ _ _ _ _
 refine BZ (mV (k:=aV (k:=BX ?_)))
 exact C2 λw hw=>rq_ r h hF hw
theorem qt{Av_2:Option Addr}{cv_2:Nat}(v_:Ver)(hv_:Ver.fits Γ Av_2 cv_2 v_)(hs:Sat Γ w0){r:Bool}(h:i7 v_=some r):CQ Tryz.prog 146 #[.agg (Ver.cs Av_2 cv_2 v_).toArray] w0 (.bool r):=by
 refine goQ [2] func146 ntmps146 results146 hs λF hF=>?_
 refine BZ ?_
 refine bxV (v:=.agg (Ver.cs Av_2 cv_2 v_).toArray) λg1=>?_
 refine aV (k:=BX (BZ (sV (q_fl 0 bJ) (k:=sV (q_fl 0 cz) (k:=sV (ldV 0 CY) (k:=sV (q_fl 0 bJ) (k:=sV (q_fl 1 eP) (k:=?_))))))))
 refine sV (ldV 0 D0) (k:=sV (q_fl 0 bJ) (k:=sV (q_fl 1 eP) (k:=sV (ldV 0 D0) (k:=sV (aR (v:=.agg #[ii v_.dot.s,ii v_.dot.n,ii v_.dot.n]) rfl (qK rfl rfl rfl) (λw=>by kernel_rfl)) (k:=?_)))))
 refine alV Dn λg2=>?_
 refine stV 0 (.agg #[ii v_.dot.s,ii v_.dot.n,ii v_.dot.n]) #[ii v_.dot.s,ii v_.dot.n,ii v_.dot.n] Do (k:=BX (C1 ?_))
 refine leV λh03=>?_
 refine e7 (CC F Γ [[(g2,.cells #[ii v_.dot.s,ii v_.dot.n,ii v_.dot.n] 207 (0,0))],[(g1,.cells (Ver.cs Av_2 cv_2 v_).toArray 37 (0,0))]]) (bo_ [0,0] gR h03) λk=>?_
 change WH _ _ _ _ (CC F Γ [_,_]) _ 37 _ _
 refine hV 0 k (q:=ldaV 0 [ii v_.dot.s,ii v_.dot.n,ii v_.dot.n] Dp Do) (k:=wl_ 1 rfl ?_)
 refine bsV #[ii v_.dot.s,ii v_.dot.n,ii v_.dot.n] 207 λg4=>?_
 refine C0 (nxV (bo_ [1,1] gR h03) λk=>?_)
 refine wl_ 2 rfl ?_
 have ho5:Own gO Γ 207 [(g4,.cells #[ii v_.dot.s,ii v_.dot.n,ii v_.dot.n] 207 (0,0))] (some ⟨g4,0,none⟩) 1 [(⟨v_.dot.s,v_.dot.n,v_.dot.n⟩:Span)]:=C7 (T:=gO) (ys:=[(⟨v_.dot.s,v_.dot.n,v_.dot.n⟩:Span)]) [[ii v_.dot.s,ii v_.dot.n,ii v_.dot.n]] rfl (show 1≤lim by decide) ⟨⟨rfl,⟨hv_.1,hv_.2.1,hv_.2.1⟩⟩,trivial⟩
 obtain⟨z6,hz7,h⟩:=bnd h
 refine vqV (caV call173) (λw hw=>oo (Γ:=Gh.all w) (ho5.sl hw.sat.le_all (hw.ra 0 rfl)) ho5.capz (Sat.all w) hz7) (k:=?_)
 refine C0 (nxV (bo_ [1,1] gR h03) λk=>?_)
 refine hV 3 k (q:=moV) (k:=hV1 4 k (h:=λhg8=>q_fl 2 eX) (k:=hV1 5 k (h:=λhg9=>ldV 1 Dx (hx:=grV hg9)) (k:=wl_ 6 rfl ?_)))
 obtain⟨z11,hz12,h⟩:=bnd h
 refine vC1 (h:=λhg10=>b3 (aE call173 rfl rfl (mv (grV hg10))) (λw hw=>oo (Γ:=Gh.all w) (hv_.2.2.1.2.mono hw.sat.le_all) hv_.2.2.1.1 (Sat.all w) (cK hz12 hg10))) (k:=?_)
 refine C0 (nxV (bo_ [1,1] gR h03) λk=>?_)
 refine hV 7 k (q:=pkA) (k:=hV 8 k (q:=moV) (k:=hV1 9 k (h:=λhg13=>q_fl 2 eX) (k:=hV1 10 k (h:=λhg14=>ldV 1 Dx (hx:=grV hg14)) (k:=hV1 11 k (h:=λhg15=>q_fl 0 bJ) (k:=hV1 12 k (h:=λhg16=>q_fl 0 cz rfl (grV hg16)) (k:=hV1 13 k (h:=λhg17=>ldV 1 CY (hx:=grV hg17)) (k:=hV1 15 k (h:=λhg18=>q_fl 0 bJ) (k:=?_))))))))
 refine hV1 16 k (h:=λhg19=>q_fl 1 eP rfl (grV hg19)) (k:=hV1 17 k (h:=λhg20=>ldV 1 D0 (hx:=grV hg20)) (k:=wl_ 14 rfl ?_))
 obtain⟨z22,hz23,h⟩:=bnd h
 refine vC1 (h:=λhg21=>b3 (aE call174 rfl rfl (cN (grV hg21) (grV hg21))) (λw hw=>ve (Γ:=Gh.all w) (hv_.2.2.1.2.mono hw.sat.le_all) hv_.2.2.1.1 v_.dot.s hv_.1 (Sat.all w) (cK hz23 hg21))) (k:=?_)
 refine C0 (nxV (bo_ [1,1] gR h03) λk=>?_)
 refine hV1 18 k (h:=λhg24=>aQ rfl (grV hg24) (grV hg24)) (k:=hV 19 k (q:=pkA) (k:=hV 20 k (q:=moV) (k:=hV1 21 k (h:=λhg25=>q_fl 4 dX) (k:=hV1 22 k (h:=λhg26=>ldV 1 D1 (hx:=grV hg26)) (k:=hV1 23 k (h:=λhg27=>cG rfl CU (grV hg27)) (k:=hV1 24 k (h:=λhg28=>gU rfl (grV hg28)) (k:=hV 25 k (q:=pkA) (k:=?_))))))))
 refine hV 26 k (q:=moV) (k:=hV1 27 k (h:=λhg29=>q_fl 3 la) (k:=hV1 28 k (h:=λhg30=>ldV 1 Dj (hx:=grV hg30)) (k:=hV1 29 k (h:=λhg31=>aX rfl (grV hg31)) (k:=hV1 30 k (h:=λhg32=>au (v:=.bool (!v_.gone)) rfl (grV hg32)) (k:=?_)))))
 refine hh0 (c0:=(((z6&&z11)&&(decide (z22<v_.dot.n)))&&(decide ((v_.val.size:Int)≤256)))) (g:=(!v_.gone)) (i:=31) rfl (by kernel_rfl) rfl rfl rfl rfl rfl k (λ_=>(q_fl 4 dX)) ?_
 refine hh0 (c0:=(((z6&&z11)&&(decide (z22<v_.dot.n)))&&(decide ((v_.val.size:Int)≤256)))) (g:=(!v_.gone)) (i:=32) rfl (by kernel_rfl) rfl rfl rfl rfl rfl k (λhg34=>(ldV 1 D1 (hx:=grV hg34))) ?_
 refine hh0 (c0:=(((z6&&z11)&&(decide (z22<v_.dot.n)))&&(decide ((v_.val.size:Int)≤256)))) (g:=(!v_.gone)) (i:=33) rfl (by kernel_rfl) rfl rfl rfl rfl rfl k (λhg35=>(rh rfl (grV hg35))) ?_
 refine hV1 34 k (h:=λhg36=>fx rfl (grV hg36) (vR (c:=(((z6&&z11)&&(decide (z22<v_.dot.n)))&&(decide ((v_.val.size:Int)≤256)))) (g:=(!v_.gone)) (y:=(v_.val==ByteArray.empty)) hg36)) (k:=hV 35 k (q:=pkA) (k:=hV 36 k (q:=aoV) (k:=?_)))
 refine Ca (by kernel_rfl) ?_
 change WC _ _ _ _ _ _
 exact C2 λw hw=>rq_ r h hF hw
theorem rM(a:Dot)(ha:Dot.fits Γ  a)(b:Dot)(hb:Dot.fits Γ  b)(hs:Sat Γ w0){r:Bool}(h:kP a b=some r):CQ Tryz.prog 147 #[.agg (Dot.cs a).toArray,.agg (Dot.cs b).toArray] w0 (.bool r):=by
 refine goQ [4] func147 ntmps147 results147 hs λF hF=>?_
 refine BZ ?_
 refine bxV (v:=.agg (Dot.cs a).toArray) λg1=>?_
 refine bxV (v:=.agg (Dot.cs b).toArray) λg2=>?_
 refine aV (k:=BX (BZ (sV (q_fl 0 cz) (k:=sV (ldV 1 CY) (k:=sV (q_fl 0 cz) (k:=sV (ldV 0 CY) (k:=sV aQ (k:=?_))))))))
 refine mV (k:=vG0 (h:=λhg3=>q_fl 0 cz) (k:=vG0 (h:=λhg4=>ldV 1 CY (hx:=grV hg4)) (k:=vG0 (h:=λhg5=>q_fl 0 cz) (k:=vG0 (h:=λhg6=>ldV 0 CY (hx:=grV hg6)) (k:=vG0 (h:=λhg7=>bD rfl (grV hg7) (grV hg7)) (k:=vG0 (h:=λhg8=>au (v:=.bool (a.s==b.s)) rfl (grV hg8)) (k:=vh1 (c0:=(!(decide (a.s<b.s)))) (g:=(a.s==b.s)) rfl rfl rfl rfl rfl (λ_=>QV.qo (q_fl 1 eP)) ?_)))))))
 refine vh1 (c0:=(!(decide (a.s<b.s)))) (g:=(a.s==b.s)) rfl rfl rfl rfl rfl (λhg10=>QV.qo (ldV 1 D0 (hx:=grV hg10))) (vh1 (c0:=(!(decide (a.s<b.s)))) (g:=(a.s==b.s)) rfl rfl rfl rfl rfl (λ_=>QV.qo (q_fl 1 eP)) (vh1 (c0:=(!(decide (a.s<b.s)))) (g:=(a.s==b.s)) rfl rfl rfl rfl rfl (λhg12=>QV.qo (ldV 0 D0 (hx:=grV hg12))) (vh1 (c0:=(!(decide (a.s<b.s)))) (g:=(a.s==b.s)) rfl rfl rfl rfl rfl (λhg13=>QV.qo (aQ rfl (grV hg13) (grV hg13))) (vG0 (h:=λhg14=>fx rfl (grV hg14) (lr (c:=(!(decide (a.s<b.s)))) (g:=(a.s==b.s)) (y:=(decide (a.n<b.n))) hg14)) (k:=sV pkO (k:=aV (k:=BX ?_)))))))
 exact C2 λw hw=>rq_ r h hF hw
theorem uI{Al:Option Addr}{cl:Nat}{l:List Span}(hl:Sl gO Γ Al l)(hlc:l.length≤cl)(d:Dot)(hd:Dot.fits Γ  d)(hs:Sat Γ w0){r:Bool}(h:nS l d=some r):CQ Tryz.prog 175 #[.slice Al l.length cl,.agg (Dot.cs d).toArray] w0 (.bool r):=by
 refine goQ [4] func175 ntmps175 results175 hs λF hF=>?_
 refine BZ ?_
 refine bxV (v:=.agg (Dot.cs d).toArray) λg1=>?_
 refine aV (k:=BX (C1 (BZ (mV (k:=sV (ab rfl Dw) (k:=mV (k:=BX ?_)))))))
 refine C5 ?_
 refine Cc h (λ(i3:Nat) (s:Unit) σ w=>match s with | ()=>slots σ [(3,(pq g1)),(7,.slice Al l.length cl),(8,ii (l.length:Int)),(9,ii (i3:Int))]∧CC F Γ [[(g1,.cells (Dot.cs d).toArray 35 (0,0))]] w∧True) ?_ ?_
 ·
  intro w hw
  exact⟨slK,hw,trivial⟩
 rintro f2 i3 ⟨⟩ σ w hi4 hlt5 hge6 ⟨hsl,hw,-⟩
 refine slV hsl hw [_] ?_; clear hw hsl
 refine BZ (sV aQ (k:=BX (C1 ?_)))
 refine coV (λhb7=>?_) (λhb7=>?_)
 ·
  have hl8:=ilt hb7
  have h:=hlt5 hl8
  refine C4 (wc_ (C1 (C5 (BZ (sV (aO (i:=i3) Dw Do rfl rfl rfl hl8 (hl.some_ hl8)) (k:=sV (ik (c:=0) (vs:=(Span.cs (gt l i3))) (hl.spanT_at hl8).2 rfl Dp Do rfl rfl rfl) (k:=?_)))))))
  refine alV Dn λg9=>?_
  refine stV 0 (.agg (Span.cs (gt l i3)).toArray) (Span.cs (gt l i3)).toArray Do (k:=BX (BZ (sV (q_fl 0 fM) (k:=sV (ldV 0 CY) (k:=sV (q_fl 0 cz) (k:=sV (ldV 1 CY) (k:=sV bD (k:=?_))))))))
  refine mV (k:=vG1 (h:=λhg10=>q_fl 1 gI) (k:=vG1 (h:=λhg11=>ldV 0 D0 (hx:=grV hg11)) (k:=vG1 (h:=λhg12=>q_fl 1 eP) (k:=vG1 (h:=λhg13=>ldV 1 D0 (hx:=grV hg13)) (k:=vG1 (h:=λhg14=>gU rfl (grV hg14) (grV hg14)) (k:=sV pkA (k:=mV (k:=?_))))))))
  refine vG1 (h:=λhg15=>q_fl 1 eP) (k:=vG1 (h:=λhg16=>ldV 1 D0 (hx:=grV hg16)) (k:=vG1 (h:=λhg17=>q_fl 2 fJ) (k:=vG1 (h:=λhg18=>ldV 0 D0 (hx:=grV hg18)) (k:=vG1 (h:=λhg19=>gU rfl (grV hg19) (grV hg19)) (k:=sV pkA (k:=BX ?_))))))
  refine ciV h (λhb20 h=>?_) (λhb20 h=>?_)
  ·
   refine BZ (aV (k:=BX ?_))
   exact C2 λw hw=>rq_ r h hF hw
  refine C4 (wc_ ?_)
  refine C3 ?_
  refine sV (aw rfl rfl rfl (aA hl8 hl.le)) (k:=mV (k:=?_))
  exact C0 λw hw=>⟨hl8,(),h,slK,(hw.on [1]),trivial⟩
 have h:=hge6 (ige hb7)
 refine C8 ?_
 change WC _ _ _ _ _ _
 refine BZ (aV (k:=BX ?_))
 exact C2 λw hw=>rq_ r h hF hw
theorem rI(d:Dot)(hd:Dot.fits Γ  d){Al:Option Addr}{cl:Nat}{l:List Ver}(hl:Sl verT Γ Al l)(hlc:l.length≤cl)(hs:Sat Γ w0){r:Bool}(h:jc d l=some r):CQ Tryz.prog 148 #[.agg (Dot.cs d).toArray,.slice Al l.length cl] w0 (.bool r):=by
 refine goQ [4] func148 ntmps148 results148 hs λF hF=>?_
 refine BZ ?_
 refine bxV (v:=.agg (Dot.cs d).toArray) λg1=>?_
 refine aV (k:=BX (C1 (BZ (mV (k:=sV (ab rfl Dy) (k:=mV (k:=BX ?_)))))))
 refine C5 ?_
 refine Cc h (λ(i3:Nat) (s:Unit) σ w=>match s with | ()=>slots σ [(2,(pq g1)),(7,.slice Al l.length cl),(8,ii (l.length:Int)),(9,ii (i3:Int))]∧CC F Γ [[(g1,.cells (Dot.cs d).toArray 35 (0,0))]] w∧True) ?_ ?_
 ·
  intro w hw
  exact⟨slK,hw,trivial⟩
 rintro f2 i3 ⟨⟩ σ w hi4 hlt5 hge6 ⟨hsl,hw,-⟩
 refine slV hsl hw [_] ?_; clear hw hsl
 refine BZ (sV aQ (k:=BX (C1 ?_)))
 refine coV (λhb7=>?_) (λhb7=>?_)
 ·
  have hl8:=ilt hb7
  have h:=hlt5 hl8
  refine C4 (wc_ (C1 (C5 (BZ (sV (aO (i:=i3) Dy Dr rfl rfl rfl hl8 (hl.some_ hl8)) (k:=?_))))))
  obtain⟨A9,c10,hx11⟩:=hl.verT_at i3
  refine sV (ik (c:=0) (vs:=(Ver.cs A9 c10 (gt l i3))) (hx11 hl8).2 rfl Ds Dr rfl rfl rfl) (k:=?_)
  refine alV Dq λg12=>?_
  refine stV 0 (.agg (Ver.cs A9 c10 (gt l i3)).toArray) (Ver.cs A9 c10 (gt l i3)).toArray Dr (k:=BX (BZ (sV (q_fl 2 eX) (k:=sV (ldV 0 Dx) (k:=sV (ldaV 1 (Dot.cs d) Dz DA) (k:=?_))))))
  obtain⟨z13,hz14,h⟩:=bnd h
  refine vqV (caV call175) (λw hw=>uI (Γ:=Gh.all w) ((hx11 hl8).1.2.2.1.2.mono hw.sat.le_all) (hx11 hl8).1.2.2.1.1 d hd (Sat.all w) hz14) (k:=BX ?_)
  refine ciV h (λhb15 h=>?_) (λhb15 h=>?_)
  ·
   refine BZ (aV (k:=BX ?_))
   exact C2 λw hw=>rq_ r h hF hw
  refine C4 (wc_ ?_)
  refine C3 ?_
  refine sV (aw rfl rfl rfl (aA hl8 hl.le)) (k:=mV (k:=?_))
  exact C0 λw hw=>⟨hl8,(),h,slK,(hw.on [1]),trivial⟩
 have h:=hge6 (ige hb7)
 refine C8 ?_
 change WC _ _ _ _ _ _
 refine BZ (aV (k:=BX ?_))
 exact C2 λw hw=>rq_ r h hF hw
end Fw
end Go.Proofs.YtangaamigenjjaaGreat
