/- Walks through the functions that the law reaches (printed by a program). No condition. -/
import Derived.Test.YtgaplodcdhhefaaGreatM
import Derived.Test.YtgaplodcdhhefaaGreatS
namespace Go.Proofs.YtgaplodcdhhefaaGreat
namespace Fw
set_option linter.unusedVariables false
set_option linter.unusedSimpArgs false
set_option linter.unusedSectionVars false
set_option maxRecDepth 100000
set_option maxHeartbeats 2000000
open Go.RowKit
open Go.Proofs.Tryz
variable {Γ:Gh} {w0:World}
def a6.ob(e:TypeId)(Γ:Gh)(g:Nat)(row:Rowb)(x:a6):Prop := ∃(m1:Nat) (r1:Rowb) (m2:Nat) (r2:Rowb) (A3:Option Addr) (c3:Nat) (r3:Rowb),row=([[(g,.cells #[.int .i64 x.room,.map (some m1),.map (some m2),.slice A3 x.loose.length c3] e (0,0))],r1,r2,r3]:List Rowb).flatten∧I64 x.room∧MapO (strK Tryz.underlying9) (slT au).v Γ r1 m1 x.safe_∧MapO (strK Tryz.underlying9) (slT au).v Γ r2 m2 x.seen∧Own jb Γ 214 r3 A3 c3 x.loose∧True
theorem a6.ob.mono{e:TypeId}{Γ Δ:Gh}{g:Nat}{row:Rowb}{x:a6}(h:a6.ob e Γ g row x)(hs:Γ.le Δ):a6.ob e Δ g row x:=by
  obtain⟨m1,r1,m2,r2,A3,c3,r3,hr,h0,h1,h2,h3,_⟩:=h
  exact⟨m1,r1,m2,r2,A3,c3,r3,hr,h0,h1.mono hs,h2.mono hs,h3.mono hs,trivial⟩
abbrev ak.ob(J:Gh→Rowb→ak→Prop)(Γ:Gh)(g:Nat)(row:Rowb)(x:ak):Prop:=YS.ob J Γ g row x
theorem ak.ob.mono{J:Gh→Rowb→ak→Prop}{Γ Δ:Gh}{g:Nat}{row:Rowb}{x:ak}(h:ak.ob J Γ g row x)(hs:Γ.le Δ):ak.ob J Δ g row x:=YS.ob.mono h hs
abbrev ag.ob(J:Gh→Rowb→ag→Prop)(Γ:Gh)(g:Nat)(row:Rowb)(x:ag):Prop:=YS.ob J Γ g row x
theorem ag.ob.mono{J:Gh→Rowb→ag→Prop}{Γ Δ:Gh}{g:Nat}{row:Rowb}{x:ag}(h:ag.ob J Γ g row x)(hs:Γ.le Δ):ag.ob J Δ g row x:=YS.ob.mono h hs
def ai.ob(e:Nat×Nat)(Γ:Gh)(g:Nat)(row:Rowb)(x:ai):Prop:=row=([[(g,.cells #[.pointer (some ⟨e.2,0,none⟩),.string x.place_name,.int .i64 x.place_gen,.int .i64 x.size,.int .i64 x.last,.int .i64 x.tail,.int .i64 x.count,.int .i64 x.bytes] e.1 (0,0))]]:List Rowb).flatten∧x.place_name.size≤lim∧I64 x.place_gen∧I64 x.size∧I64 x.last∧I64 x.tail∧I64 x.count∧I64 x.bytes∧True
theorem ai.ob.mono{e:Nat×Nat}{Γ Δ:Gh}{g:Nat}{row:Rowb}{x:ai}(h:ai.ob e Γ g row x)(hs:Γ.le Δ):ai.ob e Δ g row x:=by
  obtain⟨hr,h0,h1,h2,h3,h4,h5,h6,_⟩:=h
  exact⟨hr,h0,h1,h2,h3,h4,h5,h6,trivial⟩
def a8.ob(e:Nat×Nat)(Γ:Gh)(g:Nat)(row:Rowb)(x:a8):Prop := ∃(g0:Nat) (r0:Rowb) (m1:Nat) (r1:Rowb),row=([[(g,.cells #[.pointer (some ⟨g0,0,none⟩),.map (some m1)] e.1 (0,0))],r0,r1]:List Rowb).flatten∧ai.ob (133,e.2) Γ g0 r0 x.log∧MapO (strK Tryz.underlying9) (slT au).v Γ r1 m1 x.keys∧True
theorem a8.ob.mono{e:Nat×Nat}{Γ Δ:Gh}{g:Nat}{row:Rowb}{x:a8}(h:a8.ob e Γ g row x)(hs:Γ.le Δ):a8.ob e Δ g row x:=by
  obtain⟨g0,r0,m1,r1,hr,h0,h1,_⟩:=h
  exact⟨g0,r0,m1,r1,hr,ai.ob.mono h0 hs,h1.mono hs,trivial⟩
def a8.tob(e:Nat×Nat):Tob a8:=⟨λΓ g row x=>a8.ob e Γ g row x,λh hs=>h.mono hs⟩
def a7.ob(e:TypeId)(Γ:Gh)(g:Nat)(row:Rowb)(x:a7):Prop := ∃(A0:Option Addr) (c0:Nat),row=([[(g,.cells #[.slice A0 x.b.length c0,.int .i64 x.at_] e (0,0))]]:List Rowb).flatten∧x.b.length≤c0∧Sl au Γ A0 x.b∧I64 x.at_∧True
theorem a7.ob.mono{e:TypeId}{Γ Δ:Gh}{g:Nat}{row:Rowb}{x:a7}(h:a7.ob e Γ g row x)(hs:Γ.le Δ):a7.ob e Δ g row x:=by
  obtain⟨A0,c0,hr,h0,h1,h2,_⟩:=h
  exact⟨A0,c0,hr,h0,h1.mono hs,h2,trivial⟩
def aa.ob(e:Nat×Nat)(Γ:Gh)(g:Nat)(row:Rowb)(x:aa):Prop := ∃(g4:Nat) (r4:Rowb) (m5:Nat) (r5:Rowb) (m6:Nat) (r6:Rowb),row=([[(g,.cells #[.int .i64 x.life,.pointer (some ⟨e.2,0,none⟩),.int .i64 x.self_site,.int .i64 x.self_node,.pointer (some ⟨g4,0,none⟩),.map (some m5),.map (some m6)] e.1 (0,0))],r4,r5,r6]:List Rowb).flatten∧I64 x.life∧I64 x.self_site∧I64 x.self_node∧a8.ob (88,e.2) Γ g4 r4 x.own∧MapJ (intK Tryz.underlying3) (a8.tob (88,e.2)) Γ r5 m5 x.hints∧MapO (intK Tryz.underlying3) (fnV g) Γ r6 m6 x.does∧True
theorem aa.ob.mono{e:Nat×Nat}{Γ Δ:Gh}{g:Nat}{row:Rowb}{x:aa}(h:aa.ob e Γ g row x)(hs:Γ.le Δ):aa.ob e Δ g row x:=by
  obtain⟨g4,r4,m5,r5,m6,r6,hr,h0,h1,h2,h3,h4,h5,_⟩:=h
  exact⟨g4,r4,m5,r5,m6,r6,hr,h0,h1,h2,a8.ob.mono h3 hs,h4.mono hs,h5.mono hs,trivial⟩
def ac.ob(e:TypeId)(Γ:Gh)(g:Nat)(row:Rowb)(x:ac):Prop := ∃(A0:Option Addr) (c0:Nat) (r0:Rowb),row=([[(g,.cells #[.slice A0 x.b.length c0] e (0,0))],r0]:List Rowb).flatten∧Own au Γ 5 r0 A0 c0 x.b∧True
theorem ac.ob.mono{e:TypeId}{Γ Δ:Gh}{g:Nat}{row:Rowb}{x:ac}(h:ac.ob e Γ g row x)(hs:Γ.le Δ):ac.ob e Δ g row x:=by
  obtain⟨A0,c0,r0,hr,h0,_⟩:=h
  exact⟨A0,c0,r0,hr,h0.mono hs,trivial⟩
theorem D5:tn dotT sh0:=⟨by
  rintro Γ Δ cs cs' x ⟨rfl,hf⟩ hl h
  obtain⟨f0,f1⟩:=hf
  obtain⟨u0,w0,rfl,k0,h⟩:=fu h
  obtain⟨u1,w1,rfl,k1,h⟩:=fu h
  have h:=qZ h
  subst h
  obtain⟨y0,rfl,g0⟩:=od k0 f0
  obtain⟨y1,rfl,g1⟩:=od k1 f1
  exact⟨⟨y0,y1⟩,⟨rfl,g0,g1⟩,rfl⟩⟩
theorem yj:tn bW sh0:=⟨by
  rintro Γ Δ cs cs' x ⟨rfl,hf⟩ hl h
  obtain⟨f0,f1,f2⟩:=hf
  obtain⟨u0,w0,rfl,k0,h⟩:=fu h
  obtain⟨u1,w1,rfl,k1,h⟩:=fu h
  obtain⟨u2,w2,rfl,k2,h⟩:=fu h
  have h:=qZ h
  subst h
  obtain⟨y0,rfl,g0⟩:=od k0 f0
  obtain⟨y1,rfl,g1⟩:=od k1 f1
  obtain⟨y2,rfl,g2⟩:=od k2 f2
  exact⟨⟨y0,y1,y2⟩,⟨rfl,g0,g1,g2⟩,rfl⟩⟩
@[reducible] def Ver.sh (x:Ver):Sh:=shL sh0 x.past
theorem zh:tn verT Ver.sh:=⟨by
  rintro Γ Δ cs cs' x ⟨A2,c2,rfl,hf⟩ hl h
  obtain⟨f0,f1,f2,f4⟩:=hf
  obtain⟨u0,w0,rfl,k0,h⟩:=fu h
  obtain⟨u1,w1,rfl,k1,h⟩:=fu h
  obtain⟨u2,w2,rfl,k2,h⟩:=fu h
  obtain⟨u3,w3,rfl,k3,h⟩:=fu h
  obtain⟨u4,w4,rfl,k4,h⟩:=fu h
  have h:=qZ h
  subst h
  obtain⟨y0,rfl,g0⟩:=od k0 f0
  obtain⟨y1,rfl,g1⟩:=od k1 f1
  obtain⟨y2,rfl,g2,e2⟩:=Bz yj hl k2 f2
  obtain⟨y3,rfl⟩:=AJ k3
  obtain⟨y4,rfl,g4⟩:=yz k4 f4
  exact⟨⟨⟨y0,y1⟩,y2,y3,y4⟩,⟨A2,c2,rfl,g0,g1,g2,g4⟩,e2⟩⟩
@[reducible] def Rec.sh (x:Rec):Sh:=shL Ver.sh x.vers
theorem vK:tn recT Rec.sh:=⟨by
  rintro Γ Δ cs cs' x ⟨A1,c1,rfl,hf⟩ hl h
  obtain⟨f0,f1⟩:=hf
  obtain⟨u0,w0,rfl,k0,h⟩:=fu h
  obtain⟨u1,w1,rfl,k1,h⟩:=fu h
  have h:=qZ h
  subst h
  obtain⟨y0,rfl,g0⟩:=yz k0 f0
  obtain⟨y1,rfl,g1,e1⟩:=Bz zh hl k1 f1
  exact⟨⟨y0,y1⟩,⟨A1,c1,rfl,g0,g1⟩,e1⟩⟩
abbrev vN(r:a6)(U:List Rowb)(Γ:Gh)(v:Value):Prop := ∃(g0:Nat), ∃(row0:Rowb),v = .pointer (some ⟨g0,0,none⟩)∧U = [row0]∧a6.ob 67 Γ g0 row0 r∧True
theorem sr(room:Int)(hroom:I64 room)(hp:Pre [] Γ w0){r:a6}(h:kd room=some r):Calls Tryz.prog 7 #[ii room] w0 (Outc Γ [] w0 (vN r)):=by
 refine goV [2] func7 ntmps7 results7 hp λF hF=>?_
 refine Dx (aV (k:=Dw (Dx (mV (k:=sV vz (k:=sV BR (k:=?_)))))))
 refine lk (strK Ek) (slT au).v rfl rfl rfl rfl ?_
 intro g1 row2 hm3
 refine lk (strK Ek) (slT au).v rfl rfl rfl rfl ?_
 intro g4 row5 hm6
 refine sV (aA (v:=.agg #[ii (min (max room 0) 1073741824),.map (some g1),.map (some g4),.slice none 0 0]) rfl (so rfl rfl rfl) (λw=>by kernel_rfl)) (k:=?_)
 refine bxV (v:=.agg #[ii (min (max room 0) 1073741824),.map (some g1),.map (some g4),.slice none 0 0]) λg7=>?_
 refine aV (k:=Dw ?_)
 refine DB ?_
 intro w hw
 have hw:=hw.pad
 obtain⟨row_8,hrow_8,hob_8⟩:∃rw:Rowb,rw=([[(g7,.cells #[ii (min (max room 0) 1073741824),.map (some g1),.map (some g4),.slice none 0 0] 67 (0,0))],row2,row5,[]]:List Rowb).flatten∧a6.ob 67 Γ g7 rw (⟨(min (max room 0) 1073741824),([]:List (ByteArray×(List UInt8))),([]:List (ByteArray×(List UInt8))),[]⟩:a6):=⟨_,rfl,g1,row2,g4,row5,none,0,[],rfl,(BD (yw hroom iV) iV),hm3,hm6,(Own.nil jb Γ 214),trivial⟩
 have hw:=hw.fold (is:=[1,2,1,0]) rfl hrow_8
 cases h
 subst hF
 exact aI (is:=[0]) (by kernel_rfl) hw rfl ⟨g7,row_8,rfl,rfl,hob_8,trivial⟩
theorem dQ(n:Int)(hn:I64 n)(hs:Sat Γ w0){r:Adr}(h:cZ n=some r):CQ Tryz.prog 8 #[ii n] w0 (.agg (Adr.cs r).toArray):=by
 refine cH (N:=5) (rs:=[.cell 2 32]) (args:=[ii n]) func8 rfl ntmps8 results8 rfl ?_
 obtain⟨F,hF⟩:∃F:Fm,F=⟨no,w0,Γ⟩:=⟨_,rfl⟩
 refine DN (C:=CC F Γ []) ?_ (hF▸Cur.start0 hs)
 refine Dx ?_
 refine alV zeroValue32 λg1=>?_
 refine Dw (Dx (mV (k:=sV (aA (v:=.agg #[ii 1,ii n]) rfl (dJ rfl rfl) (λw=>by kernel_rfl)) (k:=stV 0 (.agg #[ii 1,ii n]) #[ii 1,ii n] El (k:=Dw ?_)))))
 refine DB ?_
 intro w hw
 cases h
 subst hF
 exact⟨[.agg #[ii 1,ii n]],(dL (i:=0) (us:=[ii 1,ii n]) hw rfl Em El (by kernel_rfl) rfl dK),by kernel_rfl,hw.fr⟩
theorem iw(s_:ByteArray)(hs_:s_.size≤lim)(c_:Int)(hc_:U8 c_)(hs:Sat Γ w0){r:Int}(h:ce s_ c_=some r):CQ Tryz.prog 176 #[.string s_,.int .u8 c_] w0 (ii r):=by
 refine goQ [4] func176 ntmps176 results176 hs λF hF=>?_
 refine Dx (aV (k:=Dw (Dx (mV (k:=mV (k:=sV (Da (s:=s_) (c:=c_) func205 (by kernel_rfl) (by kernel_rfl) (by kernel_rfl) (by kernel_rfl) rfl (by kernel_rfl)) (k:=aV (k:=?_))))))))
 refine Dw ?_
 exact DB λw hw=>rq_ r h hF hw
theorem fx(s_:ByteArray)(hs_:s_.size≤lim)(hs:Sat Γ w0){r:Int}(h:aR s_=some r):CQ Tryz.prog 139 #[.string s_,.string (⟨#[46]⟩:ByteArray)] w0 (ii r):=by
 refine goQ [4] func139 ntmps139 results139 hs λF hF=>?_
 refine Dx (aV (k:=Dw (Dx (mV (k:=sV (show QV _ _ _ _ (ii 1) from (show QV _ _ _ _ (ii (((⟨#[46]⟩:ByteArray).size:Nat):Int)) from bg rfl Ek)) (k:=aV (k:=Dw ?_)))))))
 refine Dy (DD (Dx (mV (k:=sV cW (k:=mV (k:=?_))))))
 refine WR.sat (c0:=true) (g:=(1==0)) rfl rfl rfl (notf (show (((1:Int)==0))=false by decide)) ?_
 refine mV (k:=?_)
 refine WR.sat (c0:=true) (g:=(1==0)) rfl rfl rfl (notf (show (((1:Int)==0))=false by decide)) ?_
 refine mV (k:=?_)
 refine WR.sat (c0:=true) (g:=(1==0)) rfl rfl rfl (notf (show (((1:Int)==0))=false by decide)) ?_
 refine sV oj (k:=sV (jv (v:=.bool ((⟨#[46]⟩:ByteArray)==s_)) rfl rfl (show (((1:Int)==0))=false by decide) (by kernel_rfl)) (k:=aV (k:=Dw ?_)))
 refine ciV h (λhb1 h=>?_) (λhb1 h=>?_)
 ·
  refine Dx (aV (k:=Dw ?_))
  exact DB λw hw=>rq_ r h hF hw
 refine Dx (mV (k:=sV cW (k:=aV (k:=Dw ?_))))
 refine WC.ctk (b:=(1==1)) (by kernel_rfl) (show (((1:Int)==1))=true by decide) ?_
 refine Dx (mV (k:=mV (k:=sV (show QV _ _ _ _ (.int .u8 46) from yV (s:=(⟨#[46]⟩:ByteArray)) (i:=0) Ek rfl rfl rfl (by decide)) (k:=?_))))
 obtain⟨z2,hz3,h⟩:=bnd h
 refine vqV (caV call176) (λw hw=>iw (Γ:=Gh.all w) s_ hs_ 46 (show U8 46 by decide) (Sat.all w) hz3) (k:=aV (k:=Dw ?_))
 exact DB λw hw=>rq_ r h hF hw
theorem qP(s_:ByteArray)(hs_:s_.size≤lim)(hs:Sat Γ w0){r:Int}(h:gV s_=some r):CQ Tryz.prog 102 #[.string s_,.string (⟨#[46]⟩:ByteArray)] w0 (ii r):=by
 refine goQ [4] func102 ntmps102 results102 hs λF hF=>?_
 refine Dx (aV (k:=Dw (Dx (mV (k:=mV (k:=?_))))))
 obtain⟨z1,hz2,h⟩:=bnd h
 refine vqV (caV call139) (λw hw=>fx (Γ:=Gh.all w) s_ hs_ (Sat.all w) hz2) (k:=aV (k:=Dw ?_))
 exact DB λw hw=>rq_ r h hF hw
theorem om(s_:ByteArray)(hs_:s_.size≤lim)(hs:Sat Γ w0){r:Bool}(h:eZ s_=some r):CQ Tryz.prog 66 #[.string s_,.string (⟨#[46]⟩:ByteArray)] w0 (.bool r):=by
 refine goQ [4] func66 ntmps66 results66 hs λF hF=>?_
 refine Dx (aV (k:=Dw (Dx (mV (k:=mV (k:=?_))))))
 obtain⟨z1,hz2,h⟩:=bnd h
 refine vqV (caV call102) (λw hw=>qP (Γ:=Gh.all w) s_ hs_ (Sat.all w) hz2) (k:=sV iA (k:=aV (k:=Dw ?_)))
 exact DB λw hw=>rq_ r h hF hw
theorem jG{gp__0:Nat}(p__1:ByteArray)(hp__1:p__1.size≤lim)(p__2:Int)(hp__2:I64 p__2)(hs:Sat Γ w0){r:ByteArray}(h:et p__1 p__2=some r):CQ Tryz.prog 70 #[.agg #[(pq gp__0),.string p__1,ii p__2]] w0 (.string r):=by
 refine goQ [2] func70 ntmps70 results70 hs λF hF=>?_
 refine Dx ?_
 refine bxV (v:=.agg #[(pq gp__0),.string p__1,ii p__2]) λg1=>?_
 refine aV (k:=Dw (Dx (sV (q_fl 1 qh) (k:=sV (ldV 0 En) (k:=sV (og rfl rfl rfl hp__1 (show (⟨#[46,109]⟩:ByteArray).size≤lim by decide)) (k:=aV (k:=Dw ?_)))))))
 exact DB λw hw=>rq_ r h hF hw
abbrev kP(r:List UInt8)(U:List Rowb)(Γ:Gh)(v:Value):Prop := ∃(A0:Option Addr), ∃(c0:Nat), ∃(row0:Rowb),v = .slice A0 r.length c0∧U = [row0]∧Own au Γ 5 row0 A0 c0 r∧True
theorem gD{As_:Option Addr}{cs_:Nat}{s_:List UInt8}(hs_:Sl au Γ As_ s_)(hs_c:s_.length≤cs_)(hp:Pre [] Γ w0){r:List UInt8}(h:bJ s_=some r):Calls Tryz.prog 121 #[.slice As_ s_.length cs_] w0 (Outc Γ [] w0 (kP r)):=by
 refine goV [2] func121 ntmps121 results121 hp λF hF=>?_
 refine Dx (aV (k:=Dw (Dy (Dx (mV (k:=sV (uS Eo rfl rfl rfl) (k:=Dw ?_)))))))
 refine WC.cnil h (by kernel_rfl) (λhb=>hs_.none_nil hb) (λhb1 h=>?_) (λhb1 h=>?_)
 ·
  refine Dx (aV (k:=Dw ?_))
  refine DB ?_
  intro w hw
  have hw:=hw.pad
  exact re_ r [0] h hF hw ⟨none,0,[],rfl,rfl,(Own.nil au _ 5),trivial⟩
 refine DC (wc_ (Dx ?_))
 refine bsV #[] 5 λg2=>?_
 refine mV (k:=?_)
 have ho3:Own au Γ 5 [(g2,.cells #[] 5 (0,0))] (some ⟨g2,0,none⟩) 0 ([]:List UInt8):=DM (T:=au) (ys:=([]:List UInt8)) [] rfl (show 0≤lim by decide) (show True from trivial)
 obtain⟨hk4,h⟩:=af h
 refine apV 0 s_ im ho3 (DP hk4) (λw hw=>mQ hs_ hw) ?_
 intro row5 A6 c7 ho8
 refine aV (k:=Dw ?_)
 exact DB λw hw=>re_ r [0] h hF hw ⟨A6,c7,row5,rfl,rfl,ho8,trivial⟩
abbrev q6(gd:Nat)(ed:Nat)(rowd:Rowb)(r:(List UInt8)×Bool)(U:List Rowb)(Γ:Gh)(v:Value):Prop := ∃(A0:Option Addr), ∃(c0:Nat), ∃(row0:Rowb),v = .tuple #[.slice A0 r.1.length c0,.bool r.2]∧U = [rowd,row0]∧Own au Γ 5 row0 A0 c0 r.1∧True
theorem iS{gd ed:Nat}{rowd:Rowb}{d:a6}(hd:a6.ob ed Γ gd rowd d)(name:ByteArray)(hname:name.size≤lim)(hp:Pre [rowd] Γ w0){r:(List UInt8)×Bool}(h:cE d name=some r):Calls Tryz.prog 83 #[(pq gd),.string name] w0 (Outc Γ [rowd] w0 (q6 gd ed rowd r)):=by
 refine goV [4,5] func83 ntmps83 results83 hp λF hF=>?_
 refine Dx (aV (k:=aV (k:=Dw (Dx (mV (k:=sV nlV (k:=sV (q_fl 2 kp) (k:=?_))))))))
 obtain⟨m1_1,r1_1,m2_1,r2_1,A3_1,c3_1,r3_1,hrow_1,ho0_1,ho1_1,ho2_1,ho3_1,-⟩:=id hd
 refine ufR 0 hrow_1 [_,_,_,_] ?_
 refine sV (ldV 0 isAgg64) (k:=mV (k:=?_))
 obtain⟨v2,⟨A5,c6,hv3,hc7,hs8⟩,hat4⟩:=MapO.look ho2_1 name (z:=.slice none 0 0) (zx:=[]) ⟨none,0,rfl,E7 _,Sl.nil _ _ _⟩
 obtain rfl:v2=_:=List.cons.inj hv3 |>.1
 refine sV (yl (v:=.slice A5 ((mget name d.seen).getD []).length c6) hat4 rfl Ep Er rfl rfl (i:=2) rfl) (k:=mV (k:=sV exV (k:=sV exV (k:=aV (k:=aV (k:=Dw (Dx ?_)))))))
 refine mV (k:=?_)
 obtain⟨z9,hz10,h⟩:=bnd h
 refine ecV [] (caV call121) (λw hp=>gD hs8 hc7 hp hz10) ?_
 rintro Γ11 _ _ hl12 ⟨A15,c16,row17,rfl,rfl,hr18,_⟩
 refine cwV 18 [_,_,_,_,_] (mV (k:=aV (k:=aV (k:=Dw ?_))))
 refine DB ?_
 intro w hw
 have hw:=hw.fold (is:=[1,1,1,1]) rfl hrow_1
 exact re_ r [0,0] h hF hw ⟨A15,c16,row17,rfl,rfl,hr18,trivial⟩
theorem kY{Ab:Option Addr}{cb:Nat}{b:List UInt8}(hb:Sl au Γ Ab b)(hbc:b.length≤cb)(at_:Int)(hat_:I64 at_)(hs:Sat Γ w0){r:Int×Int×Int}(h:gi b at_=some r):CQ Tryz.prog 104 #[.slice Ab b.length cb,ii at_] w0 (.tuple #[ii r.1,ii r.2.1,ii r.2.2]):=by
 refine goQ [4,5,6] func104 ntmps104 results104 hs λF hF=>?_
 refine Dx (aV (k:=aV (k:=aV (k:=Dw (WC.scope (Dy (Dx ?_)))))))
 refine mV (k:=sV aw (k:=mV (k:=vG0 (h:=λhg1=>moV) (k:=vG0 (h:=λhg2=>moV) (k:=vG0 (h:=λhg3=>ab rfl Eo (grV hg3)) (k:=vG0 (h:=λhg4=>bx rfl (grV hg4) (grV hg4)) (k:=sV pkO (k:=?_))))))))
 refine Dw ?_
 refine ciV h (λhb5 h=>?_) (λhb5 h=>?_)
 ·
  refine Dx (aV (k:=aV (k:=aV (k:=Dw ?_))))
  exact DB λw hw=>by obtain rfl:=Option.some.inj h; exact⟨by kernel_rfl,fr_ hF hw⟩
 refine DC (wc_ (Dx (aV (k:=Dw (Dx (aV (k:=Dw ?_)))))))
 refine Dy ?_
 refine WC.label ?_
 change WC _ _ _ _ _ _
 refine DL (λσ w => ∃(e_6:Int),jS e_6=some r∧slots σ [(7,ii e_6)]∧CC F Γ [] w∧I64 e_6∧True) ?_ ?_
 ·
  refine Dx (mV (k:=mV (k:=?_)))
  obtain⟨hk8,h⟩:=af h
  refine sV (wE (c:=cb) (lo:=at_.toNat) (xs:=b) Eo Es rfl rfl (kz rfl hk8) (ey hk8)) (k:=sV (ab rfl Eo) (k:=mV (k:=Dw (DD ?_))))
  refine DF h (λ(i11:Nat) (n_9:Int) σ w=>slots σ [(1,ii at_),(7,ii 4),(8,.int .u64 n_9),(21,.slice (if cb=at_.toNat then Ab else Option.map (λa=>a.add (at_.toNat*1)) Ab) (List.drop at_.toNat b).length (cb - at_.toNat)),(22,ii (((List.drop at_.toNat b).length:Nat):Int)),(23,ii (i11:Int))]∧CC F Γ [] w∧True) ?_ ?_
  ·
   intro w hw
   exact⟨slK,hw,trivial⟩
  rintro f10 i11 n_9 σ w hi12 hlt13 hge14 ⟨hsl,hw,-⟩
  refine slV hsl hw [] ?_; clear hw hsl
  refine Dx (sV aw (k:=Dw (Dy ?_)))
  refine coV (λhb15=>?_) (λhb15=>?_)
  ·
   have hl16:=ilt hb15
   have h:=hlt13 hl16
   refine DC (wc_ (Dy (DD (Dx (mV (k:=sV (ar (i:=i11) Eo Es rfl rfl rfl hl16 ((hb.cut_from (c:=cb) (lo:=at_.toNat) (ey hk8) hbc).some_ hl16)) (k:=sV (q_ld (c:=0) (v:=.int .u8 (((gt (List.drop at_.toNat b) i11).toNat:Nat):Int)) ((hb.cut_from (c:=cb) (lo:=at_.toNat) (ey hk8) hbc).byteT_at hl16).2 rfl isAgg5 rfl rfl) (k:=?_))))))))
   refine aV (k:=aV (k:=Dw (Dy (DD ?_))))
   refine DL (λσ w => ∃(x_17:Bool),j9 b at_ n_9 f10 i11 x_17=some r∧slots σ [(1,ii at_),(7,ii 4),(8,.int .u64 n_9),(9,ii (i11:Int)),(10,.int .u8 (((gt (List.drop at_.toNat b) i11).toNat:Nat):Int)),(21,.slice (if cb=at_.toNat then Ab else Option.map (λa=>a.add (at_.toNat*1)) Ab) (List.drop at_.toNat b).length (cb - at_.toNat)),(22,ii (((List.drop at_.toNat b).length:Nat):Int)),(23,ii (i11:Int)),(28,.bool x_17)]∧CC F Γ [] w∧True) ?_ ?_
   ·
    refine Dx (mV (k:=sV cW (k:=mV (k:=vG1 (h:=λhg18=>moV) (k:=vG1 (h:=λhg19=>bx rfl (grV hg19)) (k:=sV pkA (k:=aV (k:=?_))))))))
    refine Dw ?_
    refine ciV h (λhb20 h=>?_) (λhb20 h=>?_)
    ·
     exact DC λw hw=>⟨(((i11:Int)==8)&&(decide (127<(((gt (List.drop at_.toNat b) i11).toNat:Nat):Int)))),h,slK,hw,trivial⟩
    refine DA ?_
    refine mV (k:=sV bx (k:=mV (k:=vG1 (h:=λhg21=>moV) (k:=vG1 (h:=λhg22=>cW rfl (grV hg22)) (k:=sV pkA (k:=aV (k:=?_)))))))
    exact Dz λw hw=>⟨((decide (0<(i11:Int)))&&((((gt (List.drop at_.toNat b) i11).toNat:Nat):Int)==0)),h,slK,hw,trivial⟩
   rintro σ w ⟨x_17,h,hsl,hw,-⟩
   refine slV hsl hw [] ?_; clear hw hsl
   refine ciV h (λhb23 h=>?_) (λhb23 h=>?_)
   ·
    refine Dx (aV (k:=Dw ?_))
    exact DE λw hw=>⟨2,h,slK,hw,iV,trivial⟩
   refine Dx (mV (k:=sV aw (k:=aV (k:=Dw ?_))))
   refine ciV h (λhb24 h=>?_) (λhb24 h=>?_)
   ·
    refine Dx (mV (k:=mV (k:=sV (gZ Et Eu) (k:=mV (k:=sV qF (k:=?_))))))
    obtain⟨hk25,h⟩:=af h
    refine sV (BN rfl rfl rfl hk25) (k:=sV q_or (k:=sV (gZ underlying2 Et) (k:=mV (k:=mV (k:=sV bN (k:=sV bN (k:=aV (k:=?_))))))))
    refine aV (k:=aV (k:=Dw ?_))
    exact DB λw hw=>by obtain rfl:=Option.some.inj h; exact⟨by kernel_rfl,fr_ hF hw⟩
   refine DC (wc_ ?_)
   refine DA ?_
   refine mV (k:=mV (k:=sV zv (k:=sV (gZ Et Eu) (k:=mV (k:=sV qF (k:=?_))))))
   obtain⟨hk26,h⟩:=af h
   refine sV (BN rfl rfl rfl hk26) (k:=sV q_or (k:=aV (k:=?_)))
   refine Dz ?_
   change WC _ _ _ _ _ _
   refine DA ?_
   refine sV (am rfl rfl rfl (ax hl16 (hb.cut_from (c:=cb) (lo:=at_.toNat) (ey hk8) hbc).le)) (k:=mV (k:=?_))
   exact Dz λw hw=>⟨hl16,(ior .u64 n_9 (ishl .u64 (wu64 (iand .u8 (((gt (List.drop at_.toNat b) i11).toNat:Nat):Int) 127)) (w64 (7*(i11:Int))))),h,slK,hw,trivial⟩
  have h:=hge14 (ige hb15)
  exact DE λw hw=>⟨4,h,slK,hw,iV,trivial⟩
 rintro σ w ⟨e_6,h,hsl,hw,hr7,-⟩
 refine slV hsl hw [] ?_; clear hw hsl
 refine Dx (mV (k:=aV (k:=aV (k:=aV (k:=Dw ?_)))))
 exact DB λw hw=>by obtain rfl:=Option.some.inj h; exact⟨by kernel_rfl,fr_ hF hw⟩
theorem qD{Aparts:Option Addr}{cparts:Nat}{parts:List (List UInt8)}(hparts:Sl (slT au) Γ Aparts parts)(hpartsc:parts.length≤cparts)(hs:Sat Γ w0){r:Int}(h:jw parts=some r):CQ Tryz.prog 160 #[.slice Aparts parts.length cparts] w0 (.int .u32 r):=by
 refine goQ [2] func160 ntmps160 results160 hs λF hF=>?_
 refine Dx (aV (k:=Dw (Dx (aV (k:=Dw (Dy (Dx ?_)))))))
 refine mV (k:=sV (ab rfl Ev) (k:=mV (k:=Dw (DD ?_))))
 refine DF h (λ(i3:Nat) (r_1:Int) σ w=>slots σ [(3,.int .u32 r_1),(8,.slice Aparts parts.length cparts),(9,ii (parts.length:Int)),(10,ii (i3:Int))]∧CC F Γ [] w∧True) ?_ ?_
 ·
  intro w hw
  exact⟨slK,hw,trivial⟩
 rintro f2 i3 r_1 σ w hi4 hlt5 hge6 ⟨hsl,hw,-⟩
 refine slV hsl hw [] ?_; clear hw hsl
 refine Dx (sV aw (k:=Dw (Dy ?_)))
 refine coV (λhb7=>?_) (λhb7=>?_)
 ·
  have hl8:=ilt hb7
  have h:=hlt5 hl8
  refine DC (wc_ (Dy (DD (Dx (sV (ar (i:=i3) Ev Ew rfl rfl rfl hl8 (hparts.some_ hl8)) (k:=?_))))))
  obtain⟨A9,c10,hx11⟩:=hparts.slT_at i3
  refine sV (q_ld (c:=0) (v:=.slice A9 (gt parts i3).length c10) (hx11 hl8).2 rfl Ex rfl rfl) (k:=aV (k:=Dw (Dx (mV (k:=sV (ab rfl Eo) (k:=mV (k:=Dw ?_)))))))
  refine DD ?_
  refine DF h (λ(i14:Nat) (r_12:Int) σ w=>slots σ [(3,.int .u32 r_12),(8,.slice Aparts parts.length cparts),(9,ii (parts.length:Int)),(10,ii (i3:Int)),(14,.slice A9 (gt parts i3).length c10),(15,ii (((gt parts i3).length:Nat):Int)),(16,ii (i14:Int))]∧CC F Γ [] w∧True) ?_ ?_
  ·
   intro w hw
   exact⟨slK,hw,trivial⟩
  rintro f13 i14 r_12 σ w hi15 hlt16 hge17 ⟨hsl,hw,-⟩
  refine slV hsl hw [] ?_; clear hw hsl
  refine Dx (sV aw (k:=Dw (Dy ?_)))
  refine coV (λhb18=>?_) (λhb18=>?_)
  ·
   have hl19:=ilt hb18
   have h:=hlt16 hl19
   refine DC (wc_ (Dy (DD (Dx (sV (ar (i:=i14) Eo Es rfl rfl rfl hl19 ((hx11 hl8).1.2.some_ hl19)) (k:=sV (q_ld (c:=0) (v:=.int .u8 (((gt (gt parts i3) i14).toNat:Nat):Int)) ((hx11 hl8).1.2.byteT_at hl19).2 rfl isAgg5 rfl rfl) (k:=aV (k:=?_))))))))
   refine Dw (Dx (mV (k:=mV (k:=sV (gZ underlying235 Eu) (k:=sV uU (k:=aV (k:=Dw ?_)))))))
   refine Dx (mV (k:=Dw (DD ?_)))
   refine WC.forU h (λ(i22:Nat) (r_20:Int) σ w=>slots σ [(3,.int .u32 r_20),(8,.slice Aparts parts.length cparts),(9,ii (parts.length:Int)),(10,ii (i3:Int)),(14,.slice A9 (gt parts i3).length c10),(15,ii (((gt parts i3).length:Nat):Int)),(16,ii (i14:Int)),(24,ii (i22:Int))]∧CC F Γ [] w∧True) ?_ ?_
   ·
    intro w hw
    exact⟨slK,hw,trivial⟩
   rintro f21 i22 r_20 σ w hi23 hlt24 hge25 ⟨hsl,hw,-⟩
   refine slV hsl hw [] ?_; clear hw hsl
   refine Dx (sV aw (k:=Dw (Dy ?_)))
   refine coV (λhb26=>?_) (λhb26=>?_)
   ·
    have hl27:=ilt hb26
    have h:=hlt24 hl27
    refine DC (wc_ (Dy (DD ?_)))
    refine DA ?_
    refine mV (k:=sV (td rfl rfl rfl (by decide)) (k:=mV (k:=sV zv (k:=sV BG (k:=sV zv (k:=sV uU (k:=aV (k:=?_))))))))
    refine Dz ?_
    change WC _ _ _ _ _ _
    refine DA ?_
    refine sV (am rfl rfl rfl (ui hl27 (by decide))) (k:=mV (k:=?_))
    exact Dz λw hw=>⟨hl27,(ixor .u32 (ishr .u32 r_20 1) (iand .u32 3988292384 (wu32 (0 - (iand .u32 r_20 1))))),h,slK,hw,trivial⟩
   have h:=hge25 (ige hb26)
   refine DE ?_
   change WC _ _ _ _ _ _
   refine DA ?_
   refine sV (am rfl rfl rfl (ax hl19 (hx11 hl8).1.2.le)) (k:=mV (k:=?_))
   exact Dz λw hw=>⟨hl19,r_20,h,slK,hw,trivial⟩
  have h:=hge17 (ige hb18)
  refine DE ?_
  change WC _ _ _ _ _ _
  refine DA ?_
  refine sV (am rfl rfl rfl (ax hl8 hparts.le)) (k:=mV (k:=?_))
  exact Dz λw hw=>⟨hl8,r_12,h,slK,hw,trivial⟩
 have h:=hge6 (ige hb7)
 refine DE ?_
 change WC _ _ _ _ _ _
 refine Dx (mV (k:=sV (CY rfl rfl) (k:=aV (k:=Dw ?_))))
 exact DB λw hw=>rq_ r h hF hw
abbrev tY(r:(List UInt8)×Int×Int)(U:List Rowb)(Γ:Gh)(v:Value):Prop := ∃(A0:Option Addr), ∃(c0:Nat), ∃(row0:Rowb),v = .tuple #[.slice A0 r.1.length c0,.int .i64 r.2.1,.int .i64 r.2.2]∧U = [row0]∧Own au Γ 5 row0 A0 c0 r.1∧I64 r.2.1∧I64 r.2.2∧True
theorem tU{Ab:Option Addr}{cb:Nat}{b:List UInt8}(hb:Sl au Γ Ab b)(hbc:b.length≤cb)(at_:Int)(hat_:I64 at_)(hp:Pre [] Γ w0){r:(List UInt8)×Int×Int}(h:jP b at_=some r):Calls Tryz.prog 181 #[.slice Ab b.length cb,ii at_] w0 (Outc Γ [] w0 (tY r)):=by
 refine goV [4,5,6] func181 ntmps181 results181 hp λF hF=>?_
 refine Dx (aV (k:=aV (k:=aV (k:=Dw (Dx (mV (k:=mV (k:=?_))))))))
 obtain⟨z1,hz2,h⟩:=bnd h
 refine vqV (caV call104) (λw hw=>kY (Γ:=Gh.all w) (hb.mono hw.sat.le_all) hbc at_ hat_ (Sat.all w) hz2) (k:=mV (k:=sV exV (k:=sV exV (k:=sV exV (k:=aV (k:=aV (k:=aV (k:=?_))))))))
 refine Dw (Dy (Dx (mV (k:=sV bj (k:=Dw ?_)))))
 refine ciV h (λhb3 h=>?_) (λhb3 h=>?_)
 ·
  refine Dx (mV (k:=aV (k:=aV (k:=aV (k:=Dw ?_)))))
  refine DB ?_
  intro w hw
  have hw:=hw.pad
  obtain⟨hk4,h⟩:=af h
  cases h
  subst hF
  exact aI (is:=[0]) (by kernel_rfl) hw rfl ⟨none,0,[],rfl,rfl,(Own.nil au _ 5),iV,(cj hk4),trivial⟩
 refine DC (wc_ (Dy (Dx (mV (k:=sV bx (k:=Dw ?_))))))
 refine ciV h (λhb5 h=>?_) (λhb5 h=>?_)
 ·
  refine Dx (aV (k:=aV (k:=aV (k:=Dw ?_))))
  refine DB ?_
  intro w hw
  have hw:=hw.pad
  exact re_ r [0] h hF hw ⟨none,0,[],rfl,rfl,(Own.nil au _ 5),iV,iV,trivial⟩
 refine DC (wc_ (Dy (Dx (mV (k:=sV (ab rfl Eo) (k:=mV (k:=sV iK (k:=?_))))))))
 refine mV (k:=sV bN (k:=sV aw (k:=Dw ?_)))
 refine ciV h (λhb6 h=>?_) (λhb6 h=>?_)
 ·
  refine Dx (aV (k:=aV (k:=aV (k:=Dw ?_))))
  refine DB ?_
  intro w hw
  have hw:=hw.pad
  exact re_ r [0] h hF hw ⟨none,0,[],rfl,rfl,(Own.nil au _ 5),iV,iV,trivial⟩
 refine DC (wc_ (Dx (mV (k:=mV (k:=sV bN (k:=mV (k:=sV bN (k:=?_))))))))
 refine mV (k:=sV bN (k:=?_))
 obtain⟨hk7,h⟩:=af h
 obtain⟨hk8,h⟩:=af h
 obtain⟨hk9,h⟩:=af h
 refine sV (vp (c:=cb) (lo:=(w64 (z1.2.1+4)).toNat) (hi:=(w64 ((w64 (z1.2.1+4))+z1.1)).toNat) (xs:=b) Eo Es rfl rfl (yt rfl hk8) (kz rfl hk7) (DP hk9) (ey hk7) hbc) (k:=aV (k:=Dw (Dx (mV (k:=mV (k:=mV (k:=?_)))))))
 obtain⟨hk10,h⟩:=af h
 obtain⟨hk11,h⟩:=af h
 obtain⟨hk12,h⟩:=af h
 refine sV (vp (c:=cb) (lo:=at_.toNat) (hi:=z1.2.1.toNat) (xs:=b) Eo Es rfl rfl (yt rfl hk11) (kz rfl hk10) (DP hk12) (ey hk10) hbc) (k:=mV (k:=?_))
 refine bsV #[.slice (if cb=at_.toNat then Ab else Option.map (λa=>a.add (at_.toNat*1)) Ab) (List.drop at_.toNat (List.take z1.2.1.toNat b)).length (cb - at_.toNat),.slice (if cb=(w64 (z1.2.1+4)).toNat then Ab else Option.map (λa=>a.add (((w64 (z1.2.1+4)).toNat)*1)) Ab) (List.drop ((w64 (z1.2.1+4)).toNat) (List.take ((w64 ((w64 (z1.2.1+4))+z1.1)).toNat) b)).length (cb - (w64 (z1.2.1+4)).toNat)] 89 λg13=>?_
 have ho14:Own (slT au) Γ 89 [(g13,.cells #[.slice (if cb=at_.toNat then Ab else Option.map (λa=>a.add (at_.toNat*1)) Ab) (List.drop at_.toNat (List.take z1.2.1.toNat b)).length (cb - at_.toNat),.slice (if cb=(w64 (z1.2.1+4)).toNat then Ab else Option.map (λa=>a.add (((w64 (z1.2.1+4)).toNat)*1)) Ab) (List.drop ((w64 (z1.2.1+4)).toNat) (List.take ((w64 ((w64 (z1.2.1+4))+z1.1)).toNat) b)).length (cb - (w64 (z1.2.1+4)).toNat)] 89 (0,0))] (some ⟨g13,0,none⟩) 2 [(List.drop at_.toNat (List.take z1.2.1.toNat b)),(List.drop ((w64 (z1.2.1+4)).toNat) (List.take ((w64 ((w64 (z1.2.1+4))+z1.1)).toNat) b))]:=DM (T:=(slT au)) (ys:=[(List.drop at_.toNat (List.take z1.2.1.toNat b)),(List.drop ((w64 (z1.2.1+4)).toNat) (List.take ((w64 ((w64 (z1.2.1+4))+z1.1)).toNat) b))]) [[.slice (if cb=at_.toNat then Ab else Option.map (λa=>a.add (at_.toNat*1)) Ab) (List.drop at_.toNat (List.take z1.2.1.toNat b)).length (cb - at_.toNat)],[.slice (if cb=(w64 (z1.2.1+4)).toNat then Ab else Option.map (λa=>a.add (((w64 (z1.2.1+4)).toNat)*1)) Ab) (List.drop ((w64 (z1.2.1+4)).toNat) (List.take ((w64 ((w64 (z1.2.1+4))+z1.1)).toNat) b)).length (cb - (w64 (z1.2.1+4)).toNat)]] rfl (show 2≤lim by decide) ⟨⟨(if cb=at_.toNat then Ab else Option.map (λa=>a.add (at_.toNat*1)) Ab),(cb - at_.toNat),rfl,(oE hbc at_.toNat z1.2.1.toNat),(hb.cut (cap:=cb) (lo:=at_.toNat) (hi:=z1.2.1.toNat) (DP hk12) (ey hk10) hbc)⟩,⟨(if cb=(w64 (z1.2.1+4)).toNat then Ab else Option.map (λa=>a.add (((w64 (z1.2.1+4)).toNat)*1)) Ab),(cb - (w64 (z1.2.1+4)).toNat),rfl,(oE hbc ((w64 (z1.2.1+4)).toNat) ((w64 ((w64 (z1.2.1+4))+z1.1)).toNat)),(hb.cut (cap:=cb) (lo:=(w64 (z1.2.1+4)).toNat) (hi:=(w64 ((w64 (z1.2.1+4))+z1.1)).toNat) (DP hk9) (ey hk7) hbc)⟩,trivial⟩
 obtain⟨z15,hz16,h⟩:=bnd h
 refine vqV (caV call160) (λw hw=>qD (Γ:=Gh.all w) (ho14.sl hw.sat.le_all (hw.ra 0 rfl)) ho14.capz (Sat.all w) hz16) (k:=aV (k:=Dw (Dy (Dx (mV (k:=Dw (DD ?_)))))))
 refine WC.forU h (λ(i18:Nat) (s:Unit) σ w=>match s with | ()=>slots σ [(0,.slice Ab b.length cb),(7,ii z1.1),(8,ii z1.2.1),(10,.slice (if cb=(w64 (z1.2.1+4)).toNat then Ab else Option.map (λa=>a.add (((w64 (z1.2.1+4)).toNat)*1)) Ab) (List.drop ((w64 (z1.2.1+4)).toNat) (List.take ((w64 ((w64 (z1.2.1+4))+z1.1)).toNat) b)).length (cb - (w64 (z1.2.1+4)).toNat)),(11,.int .u32 z15),(47,ii (i18:Int))]∧CC F Γ [] w∧True) ?_ ?_
 ·
  intro w hw
  exact⟨slK,(hw.on []),trivial⟩
 rintro f17 i18 ⟨⟩ σ w hi19 hlt20 hge21 ⟨hsl,hw,-⟩
 refine slV hsl hw [] ?_; clear hw hsl
 refine Dx (sV aw (k:=Dw (Dy ?_)))
 refine coV (λhb22=>?_) (λhb22=>?_)
 ·
  have hl23:=ilt hb22
  have h:=hlt20 hl23
  refine DC (wc_ (Dy (DD (Dx (mV (k:=aV (k:=Dw ?_)))))))
  refine Dy ?_
  refine drV ?_
  refine zV moV (k:=zV moV (k:=zV moV (k:=zV bN (k:=?_))))
  obtain⟨hk24,h⟩:=af h
  refine zV (q_ix Eo Es rfl rfl rfl hk24 (hb.some_ (aq hk24))) (k:=zV (q_ld (c:=0) (v:=.int .u8 (((gt b ((w64 (z1.2.1+(i18:Int))).toNat)).toNat:Nat):Int)) (hb.byteT_at (aq hk24)).2 rfl isAgg5 rfl rfl) (k:=zV moV (k:=zV moV (k:=zV qF (k:=?_)))))
  obtain⟨hk25,h⟩:=af h
  refine zV (td rfl rfl rfl hk25) (k:=zV (gZ Eu underlying235) (k:=zV bj (k:=?_)))
  refine DJ ?_
  change WC _ _ _ _ _ _
  refine ciV h (λhb26 h=>?_) (λhb26 h=>?_)
  ·
   refine Dx (aV (k:=aV (k:=aV (k:=Dw ?_))))
   refine DB ?_
   intro w hw
   have hw:=hw.pad
   exact re_ r [0] h hF hw ⟨none,0,[],rfl,rfl,(Own.nil au _ 5),iV,iV,trivial⟩
  refine DC (wc_ ?_)
  refine DA ?_
  refine sV (am rfl rfl rfl (ui hl23 (by decide))) (k:=mV (k:=?_))
  exact Dz λw hw=>⟨hl23,(),h,slK,hw,trivial⟩
 have h:=hge21 (ige hb22)
 refine DE ?_
 change WC _ _ _ _ _ _
 refine Dx ?_
 refine bsV #[] 5 λg27=>?_
 refine mV (k:=?_)
 have ho28:Own au Γ 5 [(g27,.cells #[] 5 (0,0))] (some ⟨g27,0,none⟩) 0 ([]:List UInt8):=DM (T:=au) (ys:=([]:List UInt8)) [] rfl (show 0≤lim by decide) (show True from trivial)
 obtain⟨hk29,h⟩:=af h
 refine apV 0 ((List.drop ((w64 (z1.2.1+4)).toNat) (List.take ((w64 ((w64 (z1.2.1+4))+z1.1)).toNat) b))) im ho28 (DP hk29) (λw hw=>mQ (hb.cut (cap:=cb) (lo:=(w64 (z1.2.1+4)).toNat) (hi:=(w64 ((w64 (z1.2.1+4))+z1.1)).toNat) (DP hk9) (ey hk7) hbc) hw) ?_
 intro row30 A31 c32 ho33
 refine mV (k:=sV bN (k:=mV (k:=sV bN (k:=aV (k:=aV (k:=aV (k:=Dw ?_)))))))
 exact DB λw hw=>re_ r [0] h hF hw ⟨A31,c32,row30,rfl,rfl,ho33,(ep _),iV,trivial⟩
abbrev qj(J:Gh→Rowb→ak→Prop)(lY:Nat)(gb0:Nat)(Ab0v:Option Addr)(cb0v:Nat)(b0v:List UInt8)(gb1:Nat)(gb1v:Nat)(b1v:Int)(r:ak×Int)(U:List Rowb)(Γ:Gh)(v:Value):Prop := ∃(rowsY':Rowb),v = .tuple #[]∧U = [rowsY',[(gb0,.cells #[.slice Ab0v b0v.length cb0v] 89 (0,0))],[(gb1,.cells #[.pointer (some ⟨gb1v,0,none⟩)] 218 (0,0))],[(gb1v,.cells #[.int .i64 r.2] 26 (0,0))]]∧ak.ob J Γ lY rowsY' r.1∧I64 r.2∧True
theorem pS{J:Gh→Rowb→ak→Prop}{Y:ak→List UInt8→Int→Option ak}{lY:Nat}(hY:∀{Γ:Gh} {w:World} {row:Rowb} {s s':ak} {Ay0_:Option Addr} {cy0_:Nat} {y0_:List UInt8} (hy0_:Sl au Γ Ay0_ y0_) (hy0_c:y0_.length≤cy0_) (y1_:Int) (hy1_:I64 y1_) (hs:ak.ob J Γ lY row s) (hp:Pre [row] Γ w) (h:Y s y0_ y1_=some s'),YieldAt (FR none) 0 Tryz.prog lY #[.slice Ay0_ y0_.length cy0_,ii y1_] w (Outc Γ [row] w λU Δ v => ∃row':Rowb,v = .bool true∧U = [row']∧ak.ob J Δ lY row' s')){rowsY:Rowb}{sY:ak}(hsY:ak.ob J Γ lY rowsY sY){gb0:Nat}{Ab0v:Option Addr}{cb0v:Nat}{b0v:List UInt8}(hb0v:Sl au Γ Ab0v b0v)(hb0vc:b0v.length≤cb0v){gb1:Nat}{gb1v:Nat}(b1v:Int)(hb1v:I64 b1v)(hp:Pre [rowsY,[(gb0,.cells #[.slice Ab0v b0v.length cb0v] 89 (0,0))],[(gb1,.cells #[(pq gb1v)] 218 (0,0))],[(gb1v,.cells #[ii b1v] 26 (0,0))]] Γ w0){r:ak×Int}(h:iW Y sY b0v b1v=some r):Calls Tryz.prog 180 #[.func (.yield lY) #[] #[],(pq gb0),(pq gb1)] w0 (Outc Γ [rowsY,[(gb0,.cells #[.slice Ab0v b0v.length cb0v] 89 (0,0))],[(gb1,.cells #[(pq gb1v)] 218 (0,0))],[(gb1v,.cells #[ii b1v] 26 (0,0))]] w0 (qj J lY gb0 Ab0v cb0v b0v gb1 gb1v b1v r)):=by
 refine goV [] func180 ntmps180 results180 hp λF hF=>?_
 refine Dx (aV (k:=Dw (DD ?_)))
 refine DO h (λ(s:Int×Int×ak) σ w=>match s with | (at_3,x5,o7) => ∃(Γ1:Gh), ∃(row8:Rowb),slots σ [(0,.func (.yield lY) #[] #[]),(1,(pq gb0)),(2,(pq gb1)),(4,ii at_3)]∧CC F Γ1 [row8,[(gb0,.cells #[.slice Ab0v b0v.length cb0v] 89 (0,0))],[(gb1,.cells #[(pq gb1v)] 218 (0,0))],[(gb1v,.cells #[ii x5] 26 (0,0))]] w∧Gh.le Γ Γ1∧I64 at_3∧I64 x5∧ak.ob J Γ1 lY row8 o7∧True) ?_ ?_
 ·
  intro w hw
  exact⟨Γ,rowsY,slK,hw,gR,iV,hb1v,hsY,trivial⟩
 rintro f10 ⟨at_3,x5,o7⟩ σ w h ⟨Γ1,row8,hsl,hw,hl2,hr4,hr6,ho9,-⟩
 refine slV hsl hw [_,_,_,_] ?_; clear hw hsl
 refine Dy (Dx (mV (k:=sV (ldV 1 Ex) (k:=sV (ab rfl Eo) (k:=sV aw (k:=Dw ?_))))))
 refine ciV h (λhb14 h=>?_) (λhb14 h=>?_)
 ·
  refine DC (wc_ (DD (Dx (sV (ldV 1 Ex) (k:=mV (k:=?_))))))
  obtain⟨z15,hz16,h⟩:=bnd h
  refine ecV [] (caV call181) (λw hp=>tU (hb0v.mono hl2) hb0vc at_3 hr4 hp hz16) ?_
  rintro Γ17 _ _ hl18 ⟨A21,c22,row23,rfl,rfl,hr24,hr25,hr26,_⟩
  refine cwV 15 [_,_,_,_,_] (mV (k:=sV exV (k:=sV exV (k:=sV exV (k:=aV (k:=aV (k:=aV (k:=?_))))))))
  refine Dw (Dx (sV (ldV 3 isAgg218) (k:=mV (k:=sV nlV (k:=stV 4 (ii z15.2.2) #[ii z15.2.2] sizeOf26 (k:=Dw (Dy ?_)))))))
  refine Dy ?_
  refine WC.ofI (WCI.region ?_)
  refine WI.op (λ_ h=>nomatch h) ?_
  refine mV (k:=?_)
  refine DG ?_
  refine WI.op (λ_ h=>nomatch h) ?_
  refine sV bj (k:=?_)
  refine DG ?_
  refine WI.op (λ_ h=>nomatch h) ?_
  refine mV (k:=?_)
  refine DG ?_
  refine WI.op (λ_ h=>nomatch h) ?_
  refine vG0 (h:=λhg27=>b4 (v:=.func (.yield lY) #[] #[]) rfl (by kernel_rfl)) (k:=?_)
  refine DG ?_
  refine WI.op (λ_ h=>nomatch h) ?_
  refine vG0 (h:=λhg28=>moV) (k:=?_)
  refine DG ?_
  refine WI.op (λ_ h=>nomatch h) ?_
  refine vG0 (h:=λhg29=>moV) (k:=?_)
  refine DG ?_
  refine(Bool.eq_false_or_eq_true (!(z15.2.2 != 0))).elim (λhb30=>?_) (λhb30=>?_)
  ·
   have h:=bt hb30 h
   refine WI.sat (c0:=true) (g:=(z15.2.2 != 0)) rfl rfl rfl hb30 ?_
   have hc35:=hr24.capz
   intro w hw; obtain⟨Γ31,hw,hl32,hr33⟩:=hw.seal (i:=0) rfl; have hs34:=hr24.sl hl32 hr33
   refine WI.here (C:=CC F Γ31 [[],row8,[(gb0,.cells #[.slice Ab0v b0v.length cb0v] 89 (0,0))],[(gb1,.cells #[(pq gb1v)] 218 (0,0))],[(gb1v,.cells #[ii z15.2.2] 26 (0,0))]]) ?_ hw
   clear hw
   obtain⟨z36,hz37,h⟩:=bnd h
   refine WI.yield (is:=[1]) rfl rfl (λ_ h=>nomatch h) (tm rfl (grV hb30) (dX (grV hb30) (grV hb30))) rfl (λw hp=>hY hs34 hc35 z15.2.1 hr25 (ho9.mono (hl18.trans hl32)) hp hz37) ?_
   rintro Γ38 _ _ hl39 ⟨row42,rfl,rfl,hr43⟩
   change WI _ _ _ _ (CC F Γ38 [row42,[],[(gb0,.cells #[.slice Ab0v b0v.length cb0v] 89 (0,0))],[(gb1,.cells #[(pq gb1v)] 218 (0,0))],[(gb1v,.cells #[ii z15.2.2] 26 (0,0))]]) _ _ (upd _ 28 (.bool true))
   refine WI.sat (c0:=true) (g:=(z15.2.2 != 0)) rfl rfl rfl hb30 ?_
   refine WI.op (λ_ h=>nomatch h) ?_
   refine sV bb (k:=?_)
   refine DG ?_
   refine WI.op (λ_ h=>nomatch h) ?_
   refine sV (jv (v:=.bool (!true)) rfl rfl (ta hb30) (by kernel_rfl)) (k:=?_)
   refine DG ?_
   refine WI.nil ?_
   change WC _ _ _ _ _ _
   refine WC.cfk (b:=(!true)) (by kernel_rfl) (nott rfl) ?_
   refine DC (wc_ ?_)
   refine DA ?_
   refine mV (k:=aV (k:=?_))
   exact Dz λw hw=>⟨(z15.2.1,z15.2.2,z36),h,Γ38,row42,slK,(hw.on [0,1,1,1]),(((hl2.trans hl18).trans hl32).trans hl39),hr25,hr26,hr43,trivial⟩
  have h:=bf hb30 h
  refine WI.op (λ_ h=>nomatch h) ?_
  refine WR.unsat (c0:=true) (g:=(z15.2.2 != 0)) rfl rfl rfl hb30 rfl ?_
  refine DG ?_
  refine WI.op (λ_ h=>nomatch h) ?_
  refine WR.unsat (c0:=true) (g:=(z15.2.2 != 0)) rfl rfl rfl hb30 rfl ?_
  refine DG ?_
  refine WI.op (λ_ h=>nomatch h) ?_
  refine sV (ke (v:=.bool true) rfl rfl (yv hb30) (by kernel_rfl)) (k:=?_)
  refine DG ?_
  refine WI.nil ?_
  change WC _ _ _ _ _ _
  refine WC.ctk (b:=true) (by kernel_rfl) rfl ?_
  exact DB λw hw=>re_ r [1,1,1,1] h hF hw ⟨row8,rfl,rfl,(ho9.mono hl18),hr26,trivial⟩
 refine DE ?_
 intro w hw
 cases h
 subst hF
 exact aI (is:=[0,0,0,0]) (by kernel_rfl) hw rfl ⟨row8,rfl,rfl,ho9,hr6,trivial⟩
def JAll(l gout gat:Nat)(rec:Loop)(Γ:Gh)(row:Rowb)(s:ak):Prop := ∃(A:Option Addr) (c:Nat) (rowo:Rowb),row=([[(l,.loop rec)],[(gout,.cells #[.slice A s.1.length c] 84 (0,0))],[(gat,.cells #[.int .i64 s.2] 3 (0,0))],rowo]:List Rowb).flatten∧Own (slT au) Γ 89 rowo A c s.1∧I64 s.2
theorem rY{A:Option Addr}{c:Nat}{b:List UInt8}(ge:Nat)(hp:Pre [] Γ w0):Calls Tryz.prog 140 #[.slice A b.length c,(pq ge)] w0 (Outc Γ [] w0 (λU Δ v => ∃g1 g2:Nat,v = .func (.func 180) #[] #[(pq g1),(pq g2)]∧U = [[(g1,.cells #[.slice A b.length c] 89 (0,0))],[(g2,.cells #[(pq ge)] 218 (0,0))]])):=by
 refine goV [4] func140 ntmps140 results140 hp λF hF=>?_
 refine Dx ?_
 refine bxV (v:=.slice A b.length c) λg1=>?_
 refine bxV (v:=(pq ge)) λg2=>?_
 refine aU (v:=.nilFunc) (k:=?_)
 refine Dz ?_
 change WC _ _ _ _ _ _
 refine Dx (sV (bQ (v:=.func (.func 180) #[] #[(pq g1),(pq g2)]) rfl (by kernel_rfl)) (k:=aU (v:=.func (.func 180) #[] #[(pq g1),(pq g2)]) (k:=?_)))
 refine Dz ?_
 change WC _ _ _ _ _ _
 refine DB ?_
 intro w hw
 subst hF
 exact aI (is:=[1,0]) (by kernel_rfl) hw rfl ⟨g1,g2,rfl,rfl⟩
abbrev vh(r:List (List UInt8)×Int×Int)(U:List Rowb)(Γ:Gh)(v:Value):Prop := ∃(A0:Option Addr), ∃(c0:Nat), ∃(row0:Rowb),v = .tuple #[.slice A0 r.1.length c0,.int .i64 r.2.1,.int .i64 r.2.2]∧U = [row0]∧Own (slT au) Γ 89 row0 A0 c0 r.1∧I64 r.2.1∧I64 r.2.2∧True
set_option maxRecDepth 100000 in
set_option maxHeartbeats 800000 in
theorem qt{Γ:Gh}{w0:World}{Ab:Option Addr}{cb:Nat}{b:List UInt8}(hb:Sl au Γ Ab b)(hbc:b.length≤cb)(hp:Pre [] Γ w0){r:List (List UInt8)×Int×Int}(h:jB b=some r):Calls Tryz.prog 103 #[.slice Ab b.length cb] w0 (Outc Γ [] w0 (vh r)):=by
 obtain⟨z,hz,h⟩:=bnd h
 cases h
 refine tz (n:=22) (rs:=[2,3,4]) (args:=[.slice Ab b.length cb]) func103 rfl ntmps103 results103 rfl ?_
 obtain⟨F,hF⟩:∃F:Fm,F=⟨ids [],w0,Γ⟩:=⟨_,rfl⟩
 refine WC2.here (C:=CC F Γ []) ?_ (hF▸hp.start)
 refine WC2.seq ?_
 refine DA ?_
 refine aV (k:=aV (k:=aV (k:=?_)))
 refine Dz ?_
 change WC2 _ _ _ _ _ _
 refine WC2.seq ?_
 refine DA ?_
 refine alV zeroValue84 λgout=>?_
 refine Dz ?_
 change WC2 _ _ _ _ _ _
 refine WC2.seq ?_
 refine DA ?_
 refine alV zeroValue26 λge=>?_
 refine Dz ?_
 change WC2 _ _ _ _ _ _
 refine WC2.seq ?_
 refine DA ?_
 refine alV zeroValue3 λgat=>?_
 refine stV 0 (ii 0) #[ii 0] Ey (k:=?_)
 refine Dz ?_
 change WC2 _ _ _ _ _ _
 refine WC2.seq3 ?_
 refine DA ?_
 refine mV (k:=?_)
 refine ecV [] (caV call140) (λw hp=>rY (A:=Ab) (c:=cb) (b:=b) ge hp) ?_
 rintro Γ1 _ _ hl1 ⟨g1,g2,rfl,rfl⟩
 refine cwV 11 [_,_,_,_,_] ?_
 refine Dz ?_
 change WC3 _ _ _ _ _ _ _
 refine WC3.rangeF (n:=22) (gf:=180) (lb:=#[(pq g1),(pq g2)]) (by kernel_rfl) call180 ?_
 intro l D rec w hst hpe hps has hbo hagr hw
 have hY:∀{Γ:Gh} {w:World} {row:Rowb} {s s':ak} {Ay0_:Option Addr} {cy0_:Nat} {y0_:List UInt8} (hy0_:Sl au Γ Ay0_ y0_) (hy0_c:y0_.length≤cy0_) (y1_:Int) (hy1_:I64 y1_) (hs:ak.ob (JAll l gout gat rec) Γ l row s) (hp:Pre [row] Γ w) (h:ee s y0_ y1_=some s'),
   YieldAt (FR none) 0 Tryz.prog l #[.slice Ay0_ y0_.length cy0_,ii y1_] w (Outc Γ [row] w λU Δ v => ∃row':Rowb,v = .bool true∧U = [row']∧ak.ob (JAll l gout gat rec) Δ l row' s'):=by
  intro Γ w row s s' A c y0 h0 h0c y1 h1 hs hp h
  obtain⟨hk,h⟩:=af h
  cases h
  obtain⟨Γ',hle,Ao,co,rowo,rfl,ho,hi⟩:=hs
  have ho:=ho.mono hle
  refine YieldAt.mono (R:=Outc Γ [[(l,.loop rec)],[(gout,.cells #[.slice Ao s.1.length co] 84 (0,0))],[(gat,.cells #[ii s.2] 3 (0,0))],rowo] w λU Δ v => ∃A2 c2 row2,v = .bool true∧U = [[(l,.loop rec)],[(gout,.cells #[.slice A2 (s.1++[y0]).length c2] 84 (0,0))],[(gat,.cells #[ii y1] 3 (0,0))],row2]∧Own (slT au) Δ 89 row2 A2 c2 (s.1++[y0])) ?_ ?_
  ·
   refine uJ has hbo hp.parts hst hpe (by rw [hps]; rfl) (N:=⟨22,[]⟩) (σ1:=_) (by rw [hps]; exact hagr.par2 rfl rfl) ?_
   intro F hF
   refine WCI.rs ?_
   refine WI.op (λ_ h=>nomatch h) ?_
   refine aV (k:=?_)
   refine DG ?_
   refine WI.done ?_
   refine WCI.region ?_
   refine WI.op (λ_ h=>nomatch h) ?_
   refine aV (k:=?_)
   refine DG ?_
   refine WI.nil ?_
   intro w hw
   refine⟨Γ,_,hw,?_⟩
   refine WCI.block ?_
   refine WCI.rs ?_
   refine WI.op (λ_ h=>nomatch h) ?_
   refine sV (ldV 1 isAgg84) (k:=?_)
   refine DG ?_
   refine WI.op (λ_ h=>nomatch h) ?_
   refine mV (k:=?_)
   refine DG ?_
   refine WI.op (λ_ h=>nomatch h) ?_
   refine bsV #[.slice A y0.length c] 89 λgb=>?_
   refine DG ?_
   refine WI.op (λ_ h=>nomatch h) ?_
   refine apV 4 [y0] xi ho (DP hk) (λw hw=>br (i:=0) rfl (by exact⟨A,c,rfl,h0c,h0⟩) hw) ?_
   intro row2 A2 c2 ho2
   refine DG ?_
   refine WI.op (λ_ h=>nomatch h) ?_
   refine stV 2 (.slice A2 (s.1++[y0]).length c2) #[.slice A2 (s.1++[y0]).length c2] sizeOf84 (k:=?_)
   refine DG ?_
   refine WI.done ?_
   refine WCI.region ?_
   refine WI.op (λ_ h=>nomatch h) ?_
   refine mV (k:=?_)
   refine DG ?_
   refine WI.op (λ_ h=>nomatch h) ?_
   refine stV 3 (ii y1) #[ii y1] Ey (k:=?_)
   refine DG ?_
   exact WI.nil λw hw=>⟨Γ,_,hw.on [1,1,1,1],A2,c2,row2,rfl,rfl,ho2⟩
  rintro e w2 ⟨v,rfl,Δ,U,he,A2,c2,row2,rfl,rfl,ho2⟩
  exact⟨_,rfl,Δ,_,he.glue,_,rfl,rfl,YS.of ⟨A2,c2,row2,rfl,ho2,h1⟩⟩
 have hw:=hw.pad
 have h2:=hw.fold (is:=[1,6,4,0]) rfl rfl
 have h3:Cur F Γ1 ([([[(l,.loop rec)],[(gout,.cells #[.slice none 0 0] 84 (0,0))],[(gat,.cells #[ii 0] 3 (0,0))],[]]:List Rowb).flatten,[(g1,.cells #[.slice Ab b.length cb] 89 (0,0))],[(g2,.cells #[(pq ge)] 218 (0,0))],[(ge,.cells #[ii 0] 26 (0,0))]]++[[(D,.deferred (some []))]]) w:=h2.pick (is:=[0,1,1,1]) rfl
 refine(pS (J:=JAll l gout gat rec) (Y:=ee) (lY:=l) (sY:=([],0)) hY (YS.of ⟨none,0,[],rfl,Own.nil _ _ _,show I64 0 by decide⟩) (hb.mono hl1) hbc 0 iV (h2.only (is:=[0,1,1,1]) rfl).pre hz).mono ?_
 rintro e w' ⟨v,rfl,Δ,U',he,rowY',rfl,rfl,hJ',he2,-⟩
 have h4:=h3.eff he
 obtain⟨Γ',hle,A',c',rowo',hrow,ho',hi'⟩:=hJ'
 have h5:=h4.unfold (i:=0) rfl hrow
 refine⟨_,rfl,Δ,[[(gout,.cells #[.slice A' z.1.1.length c'] 84 (0,0))],[(gat,.cells #[ii z.1.2] 3 (0,0))],rowo',[(ge,.cells #[ii z.2] 26 (0,0))]],h5.only (is:=[0,6,0,0,0,2]) rfl,?_⟩
 refine WC2.of ?_
 refine Dy ?_
 refine drV ?_
 refine zV (ldV 1 isAgg84) (k:=zV (ldV 2 Ez) (k:=zV (ldV 4 EA) (k:=zV aoV (k:=zV aoV (k:=zV aoV (k:=?_))))))
 refine DJ ?_
 change WC _ _ _ _ _ _
 refine DB ?_
 intro w hw
 subst hF
 exact BI (N:=⟨22,[]⟩) (is:=[2]) (by kernel_rfl) hw rfl ⟨A',c',rowo',rfl,rfl,ho'.mono hle,hi',he2,trivial⟩
abbrev r_seglog_place_holds(edk0:Nat)(gp__0:Nat)(rowdk0:Rowb)(r:Int×Int×Int)(U:List Rowb)(Γ:Gh)(v:Value):Prop:=v = .tuple #[.int .i64 r.1,.int .i64 r.2.1,.int .i64 r.2.2]∧U = [rowdk0]∧I64 r.1∧I64 r.2.1∧I64 r.2.2∧True
theorem t_seglog_place_holds{gp__0:Nat}(p__1:ByteArray)(hp__1:p__1.size≤lim)(p__2:Int)(hp__2:I64 p__2){edk0:Nat}{rowdk0:Rowb}{dk0:a6}(hdk0:a6.ob edk0 Γ gp__0 rowdk0 dk0)(hp:Pre [rowdk0] Γ w0){r:Int×Int×Int}(h:m_seglog_place_holds p__1 p__2 dk0=some r):Calls Tryz.prog 67 #[.agg #[(pq gp__0),.string p__1,ii p__2]] w0 (Outc Γ [rowdk0] w0 (r_seglog_place_holds edk0 gp__0 rowdk0 r)):=by
 refine goV [2,3,4] func67 ntmps67 results67 hp λF hF=>?_
 refine Dx ?_
 refine bxV (v:=.agg #[(pq gp__0),.string p__1,ii p__2]) λg1=>?_
 refine aV (k:=aV (k:=aV (k:=Dw (Dy ?_))))
 refine leV λh02=>?_
 refine db (CC F Γ [[(g1,.cells #[(pq gp__0),.string p__1,ii p__2] 124 (0,0))]]) (bo_ [0] gR h02) λk=>?_
 change WH _ _ _ _ (CC F Γ [_,_]) _ 10 _ _
 refine hV 0 k (q:=q_fl 0 ia) (k:=hV 1 k (q:=ldV 0 EB) (k:=hV 2 k (q:=ldaV 0 [(pq gp__0),.string p__1,ii p__2] EC ED) (k:=wl_ 3 rfl ?_)))
 obtain⟨z3,hz4,h⟩:=bnd h
 refine vqV (caV call70) (λw hw=>jG (Γ:=Gh.all w) (gp__0:=gp__0) p__1 hp__1 p__2 hp__2 (Sat.all w) hz4) (k:=?_)
 refine Dz (nxV (bo_ [0] gR h02) λk=>?_)
 refine wl_ 4 rfl ?_
 obtain⟨hk5,h⟩:=af h
 obtain⟨z6,hz7,h⟩:=bnd h
 refine ecV [1] (caV call83) (λw hp=>iS hdk0 z3 (DP hk5) hp hz7) ?_
 rintro Γ8 _ _ hl9 ⟨A12,c13,row14,rfl,rfl,hr15,_⟩
 refine cwV 21 [_,_,_] ?_
 refine Dz (nxV (bo_ [2] hl9 h02) λk=>?_)
 refine hV 5 k (q:=moV) (k:=hV 6 k (q:=exV) (k:=hV 7 k (q:=exV) (k:=hV 8 k (q:=aoV) (k:=hV 9 k (q:=aoV) (k:=?_)))))
 refine DH (by kernel_rfl) ?_
 change WC _ _ _ _ _ _
 refine Dx (mV (k:=?_))
 have hc20:=hr15.capz
 refine seR 1 [_,_,_] λΓ16 hl17 hr18=>?_
 have hs19:=hr15.sl hl17 hr18
 obtain⟨z21,hz22,h⟩:=bnd h
 refine ecV [] (caV call103) (λw hp=>qt hs19 hc20 hp hz22) ?_
 rintro Γ23 _ _ hl24 ⟨A27,c28,row29,rfl,rfl,hr30,hr31,hr32,_⟩
 refine cwV 26 [_,_,_,_] (mV (k:=sV exV (k:=sV exV (k:=sV exV (k:=aV (k:=aV (k:=aV (k:=?_))))))))
 refine Dw (Dx (aV (k:=Dw (Dy (Dx (mV (k:=sV (ab rfl Ev) (k:=?_))))))))
 refine mV (k:=Dw (DD ?_))
 refine DF h (λ(i35:Nat) (gen_33:Int) σ w=>slots σ [(8,ii z21.2.1),(10,ii gen_33),(30,.slice A27 z21.1.length c28),(31,ii (z21.1.length:Int)),(32,ii (i35:Int))]∧CC F Γ23 [row29,rowdk0] w∧True) ?_ ?_
 ·
  intro w hw
  exact⟨slK,(hw.on [0,0]),trivial⟩
 rintro f34 i35 gen_33 σ w hi36 hlt37 hge38 ⟨hsl,hw,-⟩
 refine slV hsl hw [_,_] ?_; clear hw hsl
 refine Dx (sV aw (k:=Dw (Dy ?_)))
 refine coV (λhb39=>?_) (λhb39=>?_)
 ·
  have hl40:=ilt hb39
  have h:=hlt37 hl40
  refine DC (wc_ (Dy (DD (Dx (sV (ar (i:=i35) Ev Ew rfl rfl rfl hl40 (hr30.some_ hl40)) (k:=?_))))))
  obtain⟨A41,c42,hx43⟩:=hr30.slT_at i35
  refine sV (nR (c:=0) (v:=.slice A41 (gt z21.1 i35).length c42) (i:=0) rfl (hx43 hl40).2 rfl Ex rfl rfl) (k:=aV (k:=Dw (Dx (mV (k:=?_)))))
  obtain⟨z44,hz45,h⟩:=bnd h
  refine vqV (caV call104) (λw hw=>kY (Γ:=Gh.all w) ((hx43 hl40).1.2.mono hw.sat.le_all) (hx43 hl40).1.1 0 iV (Sat.all w) hz45) (k:=mV (k:=sV exV (k:=sV exV (k:=sV exV (k:=aV (k:=aV (k:=aV (k:=?_))))))))
  refine Dw (Dy (Dx (mV (k:=sV bj (k:=mV (k:=vG0 (h:=λhg46=>moV) (k:=vG0 (h:=λhg47=>moV) (k:=?_))))))))
  refine vG0 (h:=λhg48=>ab rfl Eo (grV hg48)) (k:=vG0 (h:=λhg49=>bj rfl (grV hg49) (grV hg49)) (k:=sV pkO (k:=mV (k:=vG0 (h:=λhg50=>moV) (k:=vG0 (h:=λhg51=>aw rfl (grV hg51)) (k:=sV pkO (k:=mV (k:=?_))))))))
  refine vG0 (h:=λhg52=>moV) (k:=vG0 (h:=λhg53=>bx rfl (grV hg53)) (k:=sV pkO (k:=Dw ?_)))
  refine ciV h (λhb54 h=>?_) (λhb54 h=>?_)
  ·
   refine Dx (aV (k:=aV (k:=aV (k:=Dw ?_))))
   exact DB λw hw=>re_ r [1] h hF hw ⟨rfl,rfl,iV,iV,iV,trivial⟩
  refine DC (wc_ ?_)
  refine DA ?_
  refine mV (k:=aV (k:=?_))
  refine Dz ?_
  change WC _ _ _ _ _ _
  refine DA ?_
  refine sV (am rfl rfl rfl (ax hl40 hr30.le)) (k:=mV (k:=?_))
  exact Dz λw hw=>⟨hl40,z44.1,h,slK,hw,trivial⟩
 have h:=hge38 (ige hb39)
 refine DE ?_
 change WC _ _ _ _ _ _
 refine Dx (mV (k:=mV (k:=aV (k:=aV (k:=aV (k:=Dw ?_))))))
 refine DB ?_
 intro w hw
 obtain⟨hk55,h⟩:=af h
 cases h
 subst hF
 exact aI (is:=[1]) (by kernel_rfl) hw rfl ⟨rfl,rfl,(cj hk55),hr31,iV,trivial⟩
theorem kB{gd ed:Nat}{rowd:Rowb}{d:a6}(hd:a6.ob ed Γ gd rowd d)(hdr:∀p∈rowd,Γ p.1=some p.2)(hs:Sat Γ w0){r:Int}(h:fM d=some r):CQ Tryz.prog 68 #[(pq gd)] w0 (ii r):=by
 refine goQ [2] func68 ntmps68 results68 hs λF hF=>?_
 refine Dx (aV (k:=Dw (Dx (mV (k:=sV nlV (k:=sV (q_fl 3 mK) (k:=?_)))))))
 obtain⟨m1_1,r1_1,m2_1,r2_1,A3_1,c3_1,r3_1,hrow_1,ho0_1,ho1_1,ho2_1,ho3_1,-⟩:=id hd
 have hg_2:∀u∈([[(gd,.cells #[ii d.room,.map (some m1_1),.map (some m2_1),.slice A3_1 d.loose.length c3_1] ed (0,0))],r1_1,r2_1,r3_1]:List Rowb), ∀p∈u,Γ p.1=some p.2:=λu hu p hp=>(λp hp=>(hdr p hp)) p (hrow_1▸List.mem_flatten.2 ⟨u,hu,hp⟩)
 have hgc3:=hg_2 _ (DT ..) (gd,_) (List.mem_singleton.2 rfl)
 have hgs4:=hg_2 r1_1 (by simp)
 have hgs5:=hg_2 r2_1 (by simp)
 have hgs6:=hg_2 r3_1 (by simp)
 have hs7:=ho3_1.sl gR hgs6
 refine sV (mG (v:=.slice A3_1 d.loose.length c3_1) hgc3 rfl isAgg65 rfl rfl) (k:=sV (ab rfl underlying65) (k:=aV (k:=Dw ?_)))
 exact DB λw hw=>rq_ r h hF hw
theorem pt{Anames:Option Addr}{cnames:Nat}{names:List ByteArray}(hnames:Sl strT Γ Anames names)(hnamesc:names.length≤cnames)(hs:Sat Γ w0){r:Bool}(h:il names=some r):CQ Tryz.prog 133 #[.slice Anames names.length cnames] w0 (.bool r):=by
 refine goQ [2] func133 ntmps133 results133 hs λF hF=>?_
 refine Dx (aV (k:=Dw (Dy (Dx (mV (k:=sV (ab rfl EE) (k:=mV (k:=?_))))))))
 refine Dw (DD ?_)
 refine DF h (λ(i2:Nat) (s:Unit) σ w=>match s with | ()=>slots σ [(5,.slice Anames names.length cnames),(6,ii (names.length:Int)),(7,ii (i2:Int))]∧CC F Γ [] w∧True) ?_ ?_
 ·
  intro w hw
  exact⟨slK,hw,trivial⟩
 rintro f1 i2 ⟨⟩ σ w hi3 hlt4 hge5 ⟨hsl,hw,-⟩
 refine slV hsl hw [] ?_; clear hw hsl
 refine Dx (sV aw (k:=Dw (Dy ?_)))
 refine coV (λhb6=>?_) (λhb6=>?_)
 ·
  have hl7:=ilt hb6
  have h:=hlt4 hl7
  refine DC (wc_ (Dy (DD (Dx (sV (ar (i:=i2) EE EF rfl rfl rfl hl7 (hnames.some_ hl7)) (k:=sV (q_ld (c:=0) (v:=.string (gt names i2)) (hnames.strT_at hl7).2 rfl En rfl rfl) (k:=aV (k:=?_))))))))
  refine Dw (Dx (mV (k:=sV (bg rfl Ek) (k:=sV aw (k:=mV (k:=vG0 (h:=λhg8=>moV) (k:=vG0 (h:=λhg9=>bg rfl Ek (grV hg9)) (k:=?_))))))))
  refine vG0 (h:=λhg10=>bx rfl (grV hg10)) (k:=sV pkO (k:=Dw ?_))
  refine ciV h (λhb11 h=>?_) (λhb11 h=>?_)
  ·
   refine Dx (aV (k:=Dw ?_))
   exact DB λw hw=>rq_ r h hF hw
  refine DC (wc_ ?_)
  refine DA ?_
  refine sV (am rfl rfl rfl (ax hl7 hnames.le)) (k:=mV (k:=?_))
  exact Dz λw hw=>⟨hl7,(),h,slK,hw,trivial⟩
 have h:=hge5 (ige hb6)
 refine DE ?_
 change WC _ _ _ _ _ _
 refine Dx (aV (k:=Dw ?_))
 exact DB λw hw=>rq_ r h hF hw
theorem ky{gd ed:Nat}{rowd:Rowb}{d:a6}(hd:a6.ob ed Γ gd rowd d)(hdr:∀p∈rowd,Γ p.1=some p.2)(name:ByteArray)(hname:name.size≤lim)(hs:Sat Γ w0){r:Int}(h:dZ d name=some r):CQ Tryz.prog 141 #[(pq gd),.string name] w0 (ii r):=by
 refine goQ [4] func141 ntmps141 results141 hs λF hF=>?_
 refine Dx (aV (k:=Dw (Dy (Dx (mV (k:=?_))))))
 refine bsV #[.string name] 9 λg1=>?_
 have ho2:Own strT Γ 9 [(g1,.cells #[.string name] 9 (0,0))] (some ⟨g1,0,none⟩) 1 [name]:=DM (T:=strT) (ys:=[name]) [[.string name]] rfl (show 1≤lim by decide) ⟨⟨rfl,hname⟩,trivial⟩
 obtain⟨z3,hz4,h⟩:=bnd h
 refine vqV (caV call133) (λw hw=>pt (Γ:=Gh.all w) (ho2.sl hw.sat.le_all (hw.ra 0 rfl)) ho2.capz (Sat.all w) hz4) (k:=sV bb (k:=Dw ?_))
 refine ciV h (λhb5 h=>?_) (λhb5 h=>?_)
 ·
  refine Dx (aV (k:=Dw ?_))
  exact DB λw hw=>rq_ r h hF hw
 refine DC (wc_ (Dy (Dx (mV (k:=sV nlV (k:=sV (q_fl 2 kp) (k:=?_)))))))
 obtain⟨m1_6,r1_6,m2_6,r2_6,A3_6,c3_6,r3_6,hrow_6,ho0_6,ho1_6,ho2_6,ho3_6,-⟩:=id hd
 have hg_7:∀u∈([[(gd,.cells #[ii d.room,.map (some m1_6),.map (some m2_6),.slice A3_6 d.loose.length c3_6] ed (0,0))],r1_6,r2_6,r3_6]:List Rowb), ∀p∈u,Γ p.1=some p.2:=λu hu p hp=>(λp hp=>(hdr p hp)) p (hrow_6▸List.mem_flatten.2 ⟨u,hu,hp⟩)
 have hgc8:=hg_7 _ (DT ..) (gd,_) (List.mem_singleton.2 rfl)
 have hgs9:=hg_7 r1_6 (by simp)
 have hgs10:=hg_7 r2_6 (by simp)
 have hgs11:=hg_7 r3_6 (by simp)
 have hs12:=ho3_6.sl gR hgs11
 refine sV (mG (v:=.map (some m2_6)) hgc8 rfl isAgg64 rfl rfl) (k:=mV (k:=?_))
 obtain⟨v13,⟨A16,c17,hv14,hc18,hs19⟩,hat15⟩:=MapO.look ho2_6 name (z:=.slice none 0 0) (zx:=[]) ⟨none,0,rfl,E7 _,Sl.nil _ _ _⟩
 obtain rfl:v13=_:=List.cons.inj hv14 |>.1
 refine sV (wt (v:=.slice A16 ((mget name d.seen).getD []).length c17) (λp hp=>(hgs10 p hp)) hat15 rfl Ep Er rfl rfl) (k:=mV (k:=sV exV (k:=sV exV (k:=aV (k:=aV (k:=Dw (Dx ?_)))))))
 refine mV (k:=sV bb (k:=Dw ?_))
 refine ciV h (λhb20 h=>?_) (λhb20 h=>?_)
 ·
  refine Dx (aV (k:=Dw ?_))
  exact DB λw hw=>rq_ r h hF hw
 refine DC (wc_ (Dx (aV (k:=Dw ?_))))
 exact DB λw hw=>rq_ r h hF hw
abbrev kG(mf_:Nat)(r:List (ByteArray×(List UInt8)))(U:List Rowb)(Γ:Gh)(v:Value):Prop := ∃(rowf_':Rowb),v = .tuple #[]∧U = [rowf_']∧MapO (strK Tryz.underlying9) (slT au).v Γ rowf_' mf_ r∧True
theorem oJ{mf_:Nat}{rowf_:Rowb}{f_:List (ByteArray×(List UInt8))}(hf_:MapO (strK Ek) (slT au).v Γ rowf_ mf_ f_){gb0:Nat}(b0:ByteArray)(hb0_0:Γ gb0=some (.cells #[.string b0] 9 (0,0)))(hb0_1:b0.size≤lim){gb1:Nat}(b1:Int)(hb1_0:Γ gb1=some (.cells #[ii b1] 3 (0,0)))(hb1_1:I64 b1)(hp:Pre [rowf_] Γ w0){r:List (ByteArray×(List UInt8))}(h:fJ f_ b0 b1=some r):Calls Tryz.prog 142 #[.map (some mf_),(pq gb0),(pq gb1)] w0 (Outc Γ [rowf_] w0 (kG mf_ r)):=by
 refine goV [] func142 ntmps142 results142 hp λF hF=>?_
 refine leV λh01=>?_
 refine db (CC F Γ []) (bo_ [] gR h01) λk=>?_
 change WH _ _ _ _ (CC F Γ [_]) _ 8 _ _
 refine hV 0 k (q:=b4 (v:=.map (some mf_)) rfl (by kernel_rfl)) (k:=hV 1 k (q:=mG (v:=.string b0) hb0_0 rfl En rfl rfl) (k:=hV 2 k (q:=b4 (v:=.map (some mf_)) rfl (by kernel_rfl)) (k:=hV 3 k (q:=mG (v:=.string b0) hb0_0 rfl En rfl rfl) (k:=hV 5 k (q:=mG (v:=ii b1) hb1_0 rfl Ez rfl rfl) (k:=wl_ 4 rfl ?_)))))
 obtain⟨v2,⟨A5,c6,hv3,hc7,hs8⟩,hat4⟩:=MapO.look hf_ b0 (z:=.slice none 0 0) (zx:=[]) ⟨none,0,rfl,E7 _,Sl.nil _ _ _⟩
 obtain rfl:v2=_:=List.cons.inj hv3 |>.1
 refine sV (hZ (v:=.slice A5 ((mget b0 f_).getD []).length c6) hat4 rfl Ep Er rfl rfl (i:=0) rfl) (k:=?_)
 refine Dz (nxV (bo_ [] gR h01) λk=>?_)
 obtain⟨hk9,h⟩:=af h
 refine hV 6 k (q:=Am (c:=c6) (hi:=b1.toNat) (xs:=((mget b0 f_).getD [])) Eo Es rfl rfl (kz rfl hk9) (ey hk9) hc7) (k:=wl_ 7 rfl ?_)
 refine cv (i:=0) (x:=b0) (v:=.slice A5 (List.take b1.toNat ((mget b0 f_).getD [])).length c6) (a:=(List.take b1.toNat ((mget b0 f_).getD []))) rfl rfl rfl Ep rfl rfl (by kernel_rfl) rfl hf_ (by exact⟨A5,c6,rfl,(zr hc7 b1.toNat),(hs8.cut_to (hi:=b1.toNat) (ey hk9))⟩) hb0_1 ?_
 intro row10 hm11
 refine Dz (nxV (bo_ [] gR h01) λk=>?_)
 refine DH (by kernel_rfl) ?_
 intro w hw
 cases h
 subst hF
 exact aI (is:=[0]) (by kernel_rfl) hw rfl ⟨row10,rfl,rfl,hm11,trivial⟩
abbrev mi(mf_:Nat)(r:List (ByteArray×(List UInt8)))(U:List Rowb)(Γ:Gh)(v:Value):Prop := ∃(rowf_':Rowb),v = .tuple #[]∧U = [rowf_']∧MapO (strK Tryz.underlying9) (slT au).v Γ rowf_' mf_ r∧True
theorem n3{mf_:Nat}{rowf_:Rowb}{f_:List (ByteArray×(List UInt8))}(hf_:MapO (strK Ek) (slT au).v Γ rowf_ mf_ f_){gb0:Nat}(b0:ByteArray)(hb0_0:Γ gb0=some (.cells #[.string b0] 9 (0,0)))(hb0_1:b0.size≤lim)(hp:Pre [rowf_] Γ w0){r:List (ByteArray×(List UInt8))}(h:ji f_ b0=some r):Calls Tryz.prog 148 #[.map (some mf_),(pq gb0)] w0 (Outc Γ [rowf_] w0 (mi mf_ r)):=by
 refine goV [] func148 ntmps148 results148 hp λF hF=>?_
 refine DA ?_
 refine mU (v:=.map (some mf_)) (k:=sV (mG (v:=.string b0) hb0_0 rfl En rfl rfl) (k:=?_))
 refine sc (i:=0) (x:=b0) rfl hf_ rfl rfl rfl Ep rfl rfl ?_
 intro row1 hm2
 refine Dz ?_
 intro w hw
 cases h
 subst hF
 exact aI (is:=[0]) (by kernel_rfl) hw rfl ⟨row1,rfl,rfl,hm2,trivial⟩
theorem l5{As_:Option Addr}{cs_:Nat}{s_:List UInt8}(hs_:Sl au Γ As_ s_)(hs_c:s_.length≤cs_)(hs:Sat Γ w0){r:List UInt8}(h:eJ s_=some r):CQ Tryz.prog 173 #[.slice As_ s_.length cs_] w0 (.slice As_ s_.length s_.length):=by
 refine goQ [2] func173 ntmps173 results173 hs λF hF=>?_
 refine Dx (aV (k:=Dw (Dx (mV (k:=mV (k:=sV (ab rfl Eo) (k:=mV (k:=?_))))))))
 refine sV (ab rfl Eo) (k:=sV (BZ (T:=au) (xs:=s_) Eo Es rfl rfl rfl rfl hs_c) (k:=aV (k:=Dw ?_)))
 exact DB λw hw=>by obtain rfl:=Option.some.inj h; exact⟨by kernel_rfl,fr_ hF hw⟩
abbrev uc(mf_:Nat)(r:List (ByteArray×(List UInt8)))(U:List Rowb)(Γ:Gh)(v:Value):Prop := ∃(rowf_':Rowb),v = .tuple #[]∧U = [rowf_']∧MapO (strK Tryz.underlying9) (slT au).v Γ rowf_' mf_ r∧True
theorem ua{mf_:Nat}{rowf_:Rowb}{f_:List (ByteArray×(List UInt8))}(hf_:MapO (strK Ek) (slT au).v Γ rowf_ mf_ f_){gb0:Nat}(b0:ByteArray)(hb0_0:Γ gb0=some (.cells #[.string b0] 9 (0,0)))(hb0_1:b0.size≤lim){gb1:Nat}{Ab1_0:Option Addr}{cb1_0:Nat}(b1:(List UInt8))(hb1_0:Γ gb1=some (.cells #[.slice Ab1_0 b1.length cb1_0] 89 (0,0)))(hb1_1:b1.length≤cb1_0)(hb1_2:Sl au Γ Ab1_0 b1)(hp:Pre [rowf_] Γ w0){r:List (ByteArray×(List UInt8))}(h:jO f_ b0 b1=some r):Calls Tryz.prog 172 #[.map (some mf_),(pq gb0),(pq gb1)] w0 (Outc Γ [rowf_] w0 (uc mf_ r)):=by
 refine goV [] func172 ntmps172 results172 hp λF hF=>?_
 refine leV λh01=>?_
 refine db (CC F Γ []) (bo_ [] gR h01) λk=>?_
 change WH _ _ _ _ (CC F Γ [_]) _ 9 _ _
 refine hV 0 k (q:=b4 (v:=.map (some mf_)) rfl (by kernel_rfl)) (k:=hV 1 k (q:=mG (v:=.string b0) hb0_0 rfl En rfl rfl) (k:=hV 2 k (q:=b4 (v:=.map (some mf_)) rfl (by kernel_rfl)) (k:=hV 3 k (q:=mG (v:=.string b0) hb0_0 rfl En rfl rfl) (k:=hV 6 k (q:=mG (v:=.slice Ab1_0 b1.length cb1_0) hb1_0 rfl Ex rfl rfl) (k:=wl_ 4 rfl ?_)))))
 obtain⟨v2,⟨A5,c6,hv3,hc7,hs8⟩,hat4⟩:=MapO.look hf_ b0 (z:=.slice none 0 0) (zx:=[]) ⟨none,0,rfl,E7 _,Sl.nil _ _ _⟩
 obtain rfl:v2=_:=List.cons.inj hv3 |>.1
 refine sV (hZ (v:=.slice A5 ((mget b0 f_).getD []).length c6) hat4 rfl Ep Er rfl rfl (i:=0) rfl) (k:=?_)
 refine Dz (nxV (bo_ [] gR h01) λk=>?_)
 refine wl_ 5 rfl ?_
 obtain⟨z9,hz10,h⟩:=bnd h
 refine vqV (caV call173) (λw hw=>l5 (Γ:=Gh.all w) (hs8.mono hw.sat.le_all) hc7 (Sat.all w) hz10) (k:=?_)
 refine Dz (nxV (bo_ [] gR h01) λk=>?_)
 refine wl_ 7 rfl ?_
 obtain⟨hk11,h⟩:=af h
 refine sI (T:=au) (xs:=((mget b0 f_).getD [])) (ys:=b1) im rfl rfl rfl rfl rfl rfl hs8 (DP hk11) (λw hw=>mQ hb1_2 hw) ?_
 intro Γ12 A13 c14 hl15 hs16 hc17
 refine Dz (nxV (bo_ [] hl15 h01) λk=>?_)
 refine wl_ 8 rfl ?_
 refine cv (i:=1) (x:=b0) (v:=.slice A13 (((mget b0 f_).getD [])++b1).length c14) (a:=(((mget b0 f_).getD [])++b1)) rfl rfl rfl Ep rfl rfl (by kernel_rfl) rfl (hf_.mono hl15) (by exact⟨A13,c14,rfl,hc17,hs16⟩) hb0_1 ?_
 intro row18 hm19
 refine Dz (nxV (bo_ [] hl15 h01) λk=>?_)
 refine DH (by kernel_rfl) ?_
 intro w hw
 cases h
 subst hF
 exact aI (is:=[1]) (by kernel_rfl) hw rfl ⟨row18,rfl,rfl,hm19,trivial⟩
theorem lC{Γ:Gh}{x:aj}{A:Option Addr}{c:Nat}(hx:aj.ok Γ A c x){mf_:Nat}{rowf_:Rowb}{f_:List (ByteArray×(List UInt8))}(hf_:MapO (strK Tryz.underlying9) (slT au).v Γ rowf_ mf_ f_){r:List (ByteArray×(List UInt8))}(h:fm x f_=some r):∃fd caps,aj.val x A c = .func (.func fd) #[] caps∧(∀(args:Array Value) (w:World),(callFunc fd args).run Tryz.prog w = .ok (.enter fd args) w)∧∀w0,Pre [rowf_] Γ w0→Calls Tryz.prog fd (#[.map (some mf_)]++caps) w0 (Outc Γ [rowf_] w0 (kG mf_ r)):=by
  cases x with
  | disk_Disk_Cut_1 a0 a1=>
    obtain⟨⟨h0_0,h0_1⟩,⟨g1,rfl,h1_0,h1_1⟩,-⟩:=hx
    exact⟨_,_,rfl,Tryz.call142,λw0 hp=>oJ hf_ a0 h0_0 h0_1 a1 h1_0 h1_1 hp h⟩
  | disk_Disk_Remove_1 a0=>
    obtain⟨⟨h0_0,h0_1⟩,-⟩:=hx
    exact⟨_,_,rfl,Tryz.call148,λw0 hp=>n3 hf_ a0 h0_0 h0_1 hp h⟩
  | disk_add_1 a0 a1=>
    obtain⟨⟨h0_0,h0_1⟩,⟨g1,A1_0,c1_0,rfl,h1_0,h1_1,h1_2⟩,-⟩:=hx
    exact⟨_,_,rfl,Tryz.call172,λw0 hp=>ua hf_ a0 h0_0 h0_1 a1 h1_0 h1_1 h1_2 hp h⟩
abbrev pR(gd:Nat)(ed:Nat)(r:a6×Int)(U:List Rowb)(Γ:Gh)(v:Value):Prop := ∃(rowd':Rowb),v = .int .i64 r.2∧U = [rowd']∧a6.ob ed Γ gd rowd' r.1∧I64 r.2∧True
theorem iP{gd ed:Nat}{rowd:Rowb}{d:a6}(hd:a6.ob ed Γ gd rowd d){Ac_0:Option Addr}{cc_0:Nat}{Ac_2:Option Addr}{cc_2:Nat}(c_:az)(hc_:az.fits Γ Ac_0 cc_0 Ac_2 cc_2 c_)(hp:Pre [rowd] Γ w0){r:a6×Int}(h:df d c_=some r):Calls Tryz.prog 135 #[(pq gd),.agg #[(aj.val c_.do_ Ac_0 cc_0),.string c_.name,.slice Ac_2 c_.tail.length cc_2]] w0 (Outc Γ [rowd] w0 (pR gd ed r)):=by
 refine goV [4] func135 ntmps135 results135 hp λF hF=>?_
 refine Dx ?_
 refine bxV (v:=.agg #[(aj.val c_.do_ Ac_0 cc_0),.string c_.name,.slice Ac_2 c_.tail.length cc_2]) λg1=>?_
 refine aV (k:=Dw (Dy ?_))
 refine leV λh02=>?_
 refine db (CC F Γ [[(g1,.cells #[(aj.val c_.do_ Ac_0 cc_0),.string c_.name,.slice Ac_2 c_.tail.length cc_2] 214 (0,0))]]) (bo_ [0] gR h02) λk=>?_
 change WH _ _ _ _ (CC F Γ [_,_]) _ 7 _ _
 refine hV 0 k (q:=q_fl 0 xT) (k:=hV 1 k (q:=ldV 0 isAgg211) (k:=hV 2 k (q:=moV) (k:=hV 3 k (q:=nlV) (k:=hV 4 k (q:=q_fl 2 kp) (k:=wl_ 5 rfl ?_)))))
 obtain⟨m1_3,r1_3,m2_3,r2_3,A3_3,c3_3,r3_3,hrow_3,ho0_3,ho1_3,ho2_3,ho3_3,-⟩:=id hd
 refine ufR 1 hrow_3 [_,_,_,_,_] ?_
 refine sV (ldV 0 isAgg64) (k:=?_)
 refine Dz (nxV (bo_ [4] gR h02) λk=>?_)
 refine wl_ 6 rfl ?_
 obtain⟨z4,hz5,h⟩:=bnd h
 obtain⟨fd6,cp7,hv8,he9,hcl10⟩:=lC (x:=c_.do_) hc_.1 ho2_3 hz5
 refine ecV [2] (aT (caps:=cp7) (args:=#[.map (some m2_3)]++cp7) he9 rfl (Eq.trans (b:=(aj.val c_.do_ Ac_0 cc_0)) (by kernel_rfl) hv8) (by kernel_rfl)) (λw hp=>(by exact hcl10 w hp)) ?_
 rintro Γ11 _ _ hl12 ⟨row15,rfl,rfl,hr16,_⟩
 refine cwV 11 [_,_,_,_,_] ?_
 refine Dz (nxV (bo_ [4] hl12 h02) λk=>?_)
 refine DH (by kernel_rfl) ?_
 change WC _ _ _ _ _ _
 refine Dy ?_
 refine leV λh017=>?_
 refine db (CC F Γ11 [[(g1,.cells #[(aj.val c_.do_ Ac_0 cc_0),.string c_.name,.slice Ac_2 c_.tail.length cc_2] 214 (0,0))]]) (bo_ [4] gR h017) λk=>?_
 change WH _ _ _ _ (CC F Γ11 [_,_,_,_,_]) _ 11 _ _
 refine hV 0 k (q:=moV) (k:=hV 1 k (q:=moV) (k:=hV 2 k (q:=nlV) (k:=hV 3 k (q:=q_fl 3 mK) (k:=hV 5 k (q:=ldaV 0 [(aj.val c_.do_ Ac_0 cc_0),.string c_.name,.slice Ac_2 c_.tail.length cc_2] isAgg214 sizeOf214) (k:=?_)))))
 refine WH.each (l:=[4,6]) (by kernel_rfl) (by simp) ?_
 intro i hi; simp only [DX,List.not_mem_nil,or_false] at hi
 rcases hi with rfl | rfl
 ·
  refine⟨_,rfl,?_⟩
  refine sV (ldV 1 isAgg65) (k:=?_)
  refine Dz (nxV (bo_ [4] gR h017) λk=>?_)
  refine wl_ 6 rfl ?_
  refine bsV #[(aj.val c_.do_ Ac_0 cc_0),.string c_.name,.slice Ac_2 c_.tail.length cc_2] 214 λg18=>?_
  refine Dz (nxV (bo_ [5] gR h017) λk=>?_)
  refine wl_ 7 rfl ?_
  obtain⟨hk19,h⟩:=af h
  refine apV 4 [c_] xa (ho3_3.mono hl12) (DP hk19) (λw hw=>br (i:=0) rfl (by exact⟨Ac_0,cc_0,Ac_2,cc_2,rfl,(az.fits_mono hc_ hl12)⟩) hw) ?_
  intro row20 A21 c22 ho23
  refine Dz (nxV (bo_ [5] gR h017) λk=>?_)
  refine hV 8 k (q:=nlV) (k:=hV 9 k (q:=q_fl 3 mK) (k:=wl_ 10 rfl (stV 2 (.slice A21 (d.loose++[c_]).length c22) #[ii d.room,.map (some m1_3),.map (some m2_3),.slice A21 (d.loose++[c_]).length c22] sizeOf65 (k:=?_))))
  refine Dz (nxV (bo_ [5] gR h017) λk=>?_)
  refine DH (by kernel_rfl) ?_
  change WC _ _ _ _ _ _
  refine Dx (aV (k:=Dw ?_))
  refine DB ?_
  intro w hw
  obtain⟨row_24,hrow_24,hob_24⟩:∃rw:Rowb,rw=([[(gd,.cells #[ii d.room,.map (some m1_3),.map (some m2_3),.slice A21 (d.loose++[c_]).length c22] ed (0,0))],r1_3,row15,row20]:List Rowb).flatten∧a6.ob ed Γ11 gd rw (⟨d.room,d.safe_,z4,(d.loose++[c_])⟩:a6):=⟨_,rfl,m1_3,r1_3,m2_3,row15,A21,c22,row20,rfl,ho0_3,(ho1_3.mono hl12),hr16,ho23,trivial⟩
  have hw:=hw.fold (is:=[2,2,1,1]) rfl hrow_24
  cases h
  subst hF
  exact aI (is:=[0]) (by kernel_rfl) hw rfl ⟨row_24,rfl,rfl,hob_24,iV,trivial⟩
 refine⟨_,rfl,?_⟩
 refine bsV #[(aj.val c_.do_ Ac_0 cc_0),.string c_.name,.slice Ac_2 c_.tail.length cc_2] 214 λg18=>?_
 refine Dz (nxV (bo_ [5] gR h017) λk=>?_)
 refine wl_ 4 rfl (sV (ldV 2 isAgg65) (k:=?_))
 refine Dz (nxV (bo_ [5] gR h017) λk=>?_)
 refine wl_ 7 rfl ?_
 obtain⟨hk19,h⟩:=af h
 refine apV 4 [c_] xa (ho3_3.mono hl12) (DP hk19) (λw hw=>br (i:=0) rfl (by exact⟨Ac_0,cc_0,Ac_2,cc_2,rfl,(az.fits_mono hc_ hl12)⟩) hw) ?_
 intro row20 A21 c22 ho23
 refine Dz (nxV (bo_ [5] gR h017) λk=>?_)
 refine hV 8 k (q:=nlV) (k:=hV 9 k (q:=q_fl 3 mK) (k:=wl_ 10 rfl (stV 2 (.slice A21 (d.loose++[c_]).length c22) #[ii d.room,.map (some m1_3),.map (some m2_3),.slice A21 (d.loose++[c_]).length c22] sizeOf65 (k:=?_))))
 refine Dz (nxV (bo_ [5] gR h017) λk=>?_)
 refine DH (by kernel_rfl) ?_
 change WC _ _ _ _ _ _
 refine Dx (aV (k:=Dw ?_))
 refine DB ?_
 intro w hw
 obtain⟨row_24,hrow_24,hob_24⟩:∃rw:Rowb,rw=([[(gd,.cells #[ii d.room,.map (some m1_3),.map (some m2_3),.slice A21 (d.loose++[c_]).length c22] ed (0,0))],r1_3,row15,row20]:List Rowb).flatten∧a6.ob ed Γ11 gd rw (⟨d.room,d.safe_,z4,(d.loose++[c_])⟩:a6):=⟨_,rfl,m1_3,r1_3,m2_3,row15,A21,c22,row20,rfl,ho0_3,(ho1_3.mono hl12),hr16,ho23,trivial⟩
 have hw:=hw.fold (is:=[2,2,1,1]) rfl hrow_24
 cases h
 subst hF
 exact aI (is:=[0]) (by kernel_rfl) hw rfl ⟨row_24,rfl,rfl,hob_24,iV,trivial⟩
abbrev qU(gd:Nat)(ed:Nat)(r:a6×Int)(U:List Rowb)(Γ:Gh)(v:Value):Prop := ∃(rowd':Rowb),v = .int .i64 r.2∧U = [rowd']∧a6.ob ed Γ gd rowd' r.1∧I64 r.2∧True
theorem qR{gd ed:Nat}{rowd:Rowb}{d:a6}(hd:a6.ob ed Γ gd rowd d)(name:ByteArray)(hname:name.size≤lim)(n:Int)(hn:I64 n)(hp:Pre [rowd] Γ w0){r:a6×Int}(h:gU d name n=some r):Calls Tryz.prog 105 #[(pq gd),.string name,ii n] w0 (Outc Γ [rowd] w0 (qU gd ed r)):=by
 refine goV [6] func105 ntmps105 results105 hp λF hF=>?_
 refine Dx ?_
 refine bxV (v:=.string name) λg1=>?_
 refine bxV (v:=ii n) λg2=>?_
 refine aV (k:=Dw (Dy (Dx (mV (k:=sV (ldV 1 En) (k:=?_))))))
 obtain⟨z3,hz4,h⟩:=bnd h
 refine vqV (caV call141) (λw hw=>ky (Γ:=Gh.all w) (hd.mono hw.sat.le_all) (hw.ra 2 rfl) name hname (Sat.all w) hz4) (k:=aV (k:=Dw (Dx (mV (k:=sV bj (k:=Dw ?_))))))
 refine ciV h (λhb5 h=>?_) (λhb5 h=>?_)
 ·
  refine Dx (mV (k:=aV (k:=Dw ?_)))
  refine DB ?_
  intro w hw
  obtain⟨hk6,h⟩:=af h
  cases h
  subst hF
  exact aI (is:=[2]) (by kernel_rfl) hw rfl ⟨rowd,rfl,rfl,hd,(cj hk6),trivial⟩
 refine DC (wc_ (Dy (Dy ?_)))
 obtain⟨m1_7,r1_7,m2_7,r2_7,A3_7,c3_7,r3_7,hrow_7,ho0_7,ho1_7,ho2_7,ho3_7,-⟩:=id hd
 refine ufC 2 hrow_7 [_,_,_,_,_,_] ?_
 refine drV ?_
 refine zV (ldV 4 Ez) (k:=zV aw (k:=zV moV (k:=wG0 (h:=λhg8=>ldV 4 Ez) (k:=wG0 (h:=λhg9=>moV) (k:=wG0 (h:=λhg10=>nlV (hv:=grV hg10)) (k:=wG0 (h:=λhg11=>q_fl 2 kp rfl (grV hg11)) (k:=wG0 (h:=λhg12=>ldV 0 isAgg64 (hx:=grV hg12)) (k:=?_))))))))
 refine wG0 (h:=λhg13=>ldV 5 En) (k:=?_)
 obtain⟨v15,⟨A18,c19,hv16,hc20,hs21⟩,hat17⟩:=MapO.look ho2_7 name (z:=.slice none 0 0) (zx:=[]) ⟨none,0,rfl,E7 _,Sl.nil _ _ _⟩
 obtain rfl:v15=_:=List.cons.inj hv16 |>.1
 refine wG0 (h:=λhg14=>hZ (v:=.slice A18 ((mget name d.seen).getD []).length c19) hat17 rfl Ep Er (grV hg14) (grV hg14) (i:=2) rfl) (k:=wG0 (h:=λhg22=>ab rfl Eo (grV hg22)) (k:=wG0 (h:=λhg23=>bx rfl (grV hg23) (grV hg23)) (k:=zV pkO (k:=?_))))
 refine DJ ?_
 change WC _ _ _ _ _ _
 refine ciV h (λhb24 h=>?_) (λhb24 h=>?_)
 ·
  refine Dx (aV (k:=Dw ?_))
  refine DB ?_
  intro w hw
  have hw:=hw.fold (is:=[0,0,0,0]) rfl hrow_7
  exact re_ r [0] h hF hw ⟨rowd,rfl,rfl,hd,iV,trivial⟩
 refine DC (wc_ (Dx (mV (k:=sV (bQ (v:=.func (.func 142) #[] #[(pq g1),(pq g2)]) rfl (by kernel_rfl)) (k:=sV (aA (v:=.agg #[.func (.func 142) #[] #[(pq g1),(pq g2)],.string ByteArray.empty,.slice none 0 0]) rfl (iy rfl) (λw=>by kernel_rfl)) (k:=?_))))))
 refine foR [0,0,0,0] hrow_7 [_,_,_] ?_
 intro w hw; obtain⟨Γ27,hw,hl28,hr29⟩:=hw.seal (i:=2) rfl
 have hg30:=hr29 _ (List.mem_singleton.2 rfl)
 refine WR.here (C:=CC F Γ27 [_,_,_]) ?_ hw
 clear hw
 intro w hw; obtain⟨Γ31,hw,hl32,hr33⟩:=hw.seal (i:=1) rfl
 have hg34:=hr33 _ (List.mem_singleton.2 rfl)
 refine WR.here (C:=CC F Γ31 [_,_,_]) ?_ hw
 clear hw
 have hf35:aj.ok Γ31 (some ⟨g2,0,none⟩) g1 (aj.disk_Disk_Cut_1 name n):=⟨⟨(hl32 _ _ hg30),hname⟩,⟨g2,rfl,hg34,hn⟩,trivial⟩
 obtain⟨z36,hz37,h⟩:=bnd h
 refine ecV [0] (caV call135) (λw hp=>iP (hd.mono (hl28.trans hl32)) (Ac_2:=none) (cc_2:=0) (⟨(aj.disk_Disk_Cut_1 name n),ByteArray.empty,[]⟩:az) ⟨hf35,(show (ByteArray.empty:ByteArray).size≤lim by decide),nilV⟩ hp hz37) ?_
 rintro Γ38 _ _ hl39 ⟨row42,rfl,rfl,hr43,hr44,_⟩
 refine cwV 30 [_,_,_] (aV (k:=Dw ?_))
 exact DB λw hw=>re_ r [0] h hF hw ⟨row42,rfl,rfl,hr43,hr44,trivial⟩
abbrev lu(edk0:Nat)(gp__0:Nat)(r:a6)(U:List Rowb)(Γ:Gh)(v:Value):Prop := ∃(rowdk0':Rowb),v = .tuple #[]∧U = [rowdk0']∧a6.ob edk0 Γ gp__0 rowdk0' r∧True
theorem ie{gp__0:Nat}(p__1:ByteArray)(hp__1:p__1.size≤lim)(p__2:Int)(hp__2:I64 p__2)(f_:ByteArray)(hf_:f_.size≤lim)(n:Int)(hn:I64 n){edk0:Nat}{rowdk0:Rowb}{dk0:a6}(hdk0:a6.ob edk0 Γ gp__0 rowdk0 dk0)(hp:Pre [rowdk0] Γ w0){r:a6}(h:cc p__1 p__2 f_ n dk0=some r):Calls Tryz.prog 69 #[.agg #[(pq gp__0),.string p__1,ii p__2],.string f_,ii n] w0 (Outc Γ [rowdk0] w0 (lu edk0 gp__0 r)):=by
 refine goV [] func69 ntmps69 results69 hp λF hF=>?_
 refine Dx ?_
 refine bxV (v:=.agg #[(pq gp__0),.string p__1,ii p__2]) λg1=>?_
 refine Dw (Dx (sV (q_fl 0 ia) (k:=sV (ldV 0 EB) (k:=mV (k:=?_)))))
 obtain⟨z2,hz3,h⟩:=bnd h
 refine ecV [1] (caV call83) (λw hp=>iS hdk0 f_ hf_ hp hz3) ?_
 rintro Γ4 _ _ hl5 ⟨A8,c9,row10,rfl,rfl,hr11,_⟩
 refine cwV 12 [_,_,_] (mV (k:=sV exV (k:=sV exV (k:=aV (k:=aV (k:=Dw (Dx ?_)))))))
 refine mV (k:=sV (ab rfl Eo) (k:=mV (k:=sV bx (k:=Dw ?_))))
 refine ciV h (λhb12 h=>?_) (λhb12 h=>?_)
 ·
  refine DA ?_
  refine sV (q_fl 0 ia) (k:=sV (ldV 2 EB) (k:=mV (k:=mV (k:=?_))))
  obtain⟨z13,hz14,h⟩:=bnd h
  refine ecV [0] (caV call105) (λw hp=>qR (hdk0.mono hl5) f_ hf_ n hn hp hz14) ?_
  rintro Γ15 _ _ hl16 ⟨row19,rfl,rfl,hr20,hr21,_⟩
  refine cwV 23 [_,_,_] ?_
  refine Dz ?_
  intro w hw
  cases h
  subst hF
  exact aI (is:=[0]) (by kernel_rfl) hw rfl ⟨row19,rfl,rfl,hr20,trivial⟩
 refine DC ?_
 intro w hw
 cases h
 subst hF
 exact aI (is:=[0]) (by kernel_rfl) hw rfl ⟨rowdk0,rfl,rfl,(hdk0.mono hl5),trivial⟩
abbrev pr(gd:Nat)(ed:Nat)(rowd:Rowb)(r:List ByteArray)(U:List Rowb)(Γ:Gh)(v:Value):Prop := ∃(A0:Option Addr), ∃(c0:Nat), ∃(row0:Rowb),v = .slice A0 r.length c0∧U = [rowd,row0]∧Own strT Γ 9 row0 A0 c0 r∧True
theorem pH{gd ed:Nat}{rowd:Rowb}{d:a6}(hd:a6.ob ed Γ gd rowd d)(hp:Pre [rowd] Γ w0){r:List ByteArray}(h:fP d=some r):Calls Tryz.prog 144 #[(pq gd)] w0 (Outc Γ [rowd] w0 (pr gd ed rowd r)):=by
 refine goV [2] func144 ntmps144 results144 hp λF hF=>?_
 refine Dx (aV (k:=Dw (Dx (mV (k:=sV nlV (k:=sV (q_fl 2 kp) (k:=?_)))))))
 obtain⟨m1_1,r1_1,m2_1,r2_1,A3_1,c3_1,r3_1,hrow_1,ho0_1,ho1_1,ho2_1,ho3_1,-⟩:=id hd
 refine ufR 0 hrow_1 [_,_,_,_] ?_
 refine sV (ldV 0 isAgg64) (k:=?_)
 refine wi (ρ:=mI) wR (mb:=some m2_1) rfl rfl (caV call182) ?_
 intro g2
 refine cwV 7 [_,_,_,_,_] ?_
 obtain⟨hk3,h⟩:=af h
 refine ecV [0,2] (caV call92) (λw hp=>zb ho2_1 (DP hk3) hp) ?_
 rintro Γ4 _ _ hl5 ⟨A8,c9,row10,rfl,rfl,ho11⟩
 refine cwV 8 [_,_,_,_,_,_] (aV (k:=Dw ?_))
 refine DB ?_
 intro w hw
 have hw:=hw.fold (is:=[3,3,1,2]) rfl hrow_1
 exact re_ r [0,1] h hF hw ⟨A8,c9,row10,rfl,rfl,ho11,trivial⟩
theorem iu(s_:ByteArray)(hs_:s_.size≤lim)(prefix_:ByteArray)(hprefix_:prefix_.size≤lim)(hs:Sat Γ w0){r:Bool}(h:ck s_ prefix_=some r):CQ Tryz.prog 208 #[.string s_,.string prefix_] w0 (.bool r):=by
 refine goQ [4] func208 ntmps208 results208 hs λF hF=>?_
 refine Dx (aV (k:=Dw (Dx (mV (k:=sV (bg rfl Ek) (k:=mV (k:=sV (bg rfl Ek) (k:=?_))))))))
 refine sV iA (k:=mV (k:=vG1 (h:=λhg1=>moV) (k:=vG1 (h:=λhg2=>moV) (k:=vG1 (h:=λhg3=>bg rfl Ek (grV hg3)) (k:=?_)))))
 obtain⟨hk5,h⟩:=af h
 refine vG1 (h:=λhg4=>tC Ek rfl (grV hg4) (grV hg4) (DP (al hk5 hg4))) (k:=vG1 (h:=λhg6=>moV) (k:=vG1 (h:=λhg7=>oj rfl (grV hg7) (grV hg7)) (k:=sV pkA (k:=aV (k:=Dw ?_)))))
 exact DB λw hw=>rq_ r h hF hw
theorem iB(s_:ByteArray)(hs_:s_.size≤lim)(prefix_:ByteArray)(hprefix_:prefix_.size≤lim)(hs:Sat Γ w0){r:ByteArray×Bool}(h:bY s_ prefix_=some r):CQ Tryz.prog 183 #[.string s_,.string prefix_] w0 (.tuple #[.string r.1,.bool r.2]):=by
 refine goQ [4,5] func183 ntmps183 results183 hs λF hF=>?_
 refine Dx (aV (k:=aV (k:=Dw (Dy (Dx (mV (k:=mV (k:=?_))))))))
 obtain⟨z1,hz2,h⟩:=bnd h
 refine vqV (caV call208) (λw hw=>iu (Γ:=Gh.all w) s_ hs_ prefix_ hprefix_ (Sat.all w) hz2) (k:=sV bb (k:=Dw ?_))
 refine ciV h (λhb3 h=>?_) (λhb3 h=>?_)
 ·
  refine Dx (mV (k:=aV (k:=aV (k:=Dw ?_))))
  exact DB λw hw=>by obtain rfl:=Option.some.inj h; exact⟨by kernel_rfl,fr_ hF hw⟩
 refine DC (wc_ (Dx (mV (k:=mV (k:=sV (bg rfl Ek) (k:=?_))))))
 obtain⟨hk4,h⟩:=af h
 refine sV (th Ek rfl rfl rfl (DP hk4)) (k:=aV (k:=aV (k:=Dw ?_)))
 exact DB λw hw=>by obtain rfl:=Option.some.inj h; exact⟨by kernel_rfl,fr_ hF hw⟩
theorem nE(s_:ByteArray)(hs_:s_.size≤lim)(prefix_:ByteArray)(hprefix_:prefix_.size≤lim)(hs:Sat Γ w0){r:ByteArray×Bool}(h:eB s_ prefix_=some r):CQ Tryz.prog 145 #[.string s_,.string prefix_] w0 (.tuple #[.string r.1,.bool r.2]):=by
 refine goQ [4,5] func145 ntmps145 results145 hs λF hF=>?_
 refine Dx (aV (k:=aV (k:=Dw (Dx (mV (k:=mV (k:=?_)))))))
 obtain⟨z1,hz2,h⟩:=bnd h
 refine vqV (caV call183) (λw hw=>iB (Γ:=Gh.all w) s_ hs_ prefix_ hprefix_ (Sat.all w) hz2) (k:=sV exV (k:=sV exV (k:=aV (k:=aV (k:=Dw ?_)))))
 exact DB λw hw=>by obtain rfl:=Option.some.inj h; exact⟨by kernel_rfl,fr_ hF hw⟩
theorem kf(s_:ByteArray)(hs_:s_.size≤lim)(hs:Sat Γ w0){r:ByteArray×ByteArray×Bool}(h:du s_=some r):CQ Tryz.prog 184 #[.string s_,.string (⟨#[46]⟩:ByteArray)] w0 (.tuple #[.string r.1,.string r.2.1,.bool r.2.2]):=by
 refine goQ [4,5,6] func184 ntmps184 results184 hs λF hF=>?_
 refine Dx (aV (k:=aV (k:=aV (k:=Dw (Dy (Dx (mV (k:=?_))))))))
 refine mV (k:=?_)
 obtain⟨z1,hz2,h⟩:=bnd h
 refine vqV (caV call139) (λw hw=>fx (Γ:=Gh.all w) s_ hs_ (Sat.all w) hz2) (k:=aV (k:=Dw (Dx (mV (k:=sV iA (k:=Dw ?_))))))
 refine ciV h (λhb3 h=>?_) (λhb3 h=>?_)
 ·
  refine Dy ?_
  refine drV ?_
  refine zV moV (k:=zV moV (k:=?_))
  obtain⟨hk4,h⟩:=af h
  refine zV (tC Ek rfl rfl (kz rfl hk4) (ey hk4)) (k:=zV moV (k:=zV moV (k:=zV moV (k:=zV (show QV _ _ _ _ (ii 1) from (show QV _ _ _ _ (ii (((⟨#[46]⟩:ByteArray).size:Nat):Int)) from bg rfl Ek)) (k:=zV bN (k:=?_))))))
  obtain⟨hk5,h⟩:=af h
  refine zV (th Ek rfl rfl (kz rfl hk5) (ey hk5)) (k:=zV aoV (k:=zV aoV (k:=zV aoV (k:=?_))))
  refine DJ ?_
  change WC _ _ _ _ _ _
  exact DB λw hw=>by obtain rfl:=Option.some.inj h; exact⟨by kernel_rfl,fr_ hF hw⟩
 refine DC (wc_ (Dx (mV (k:=aV (k:=aV (k:=aV (k:=Dw ?_)))))))
 exact DB λw hw=>by obtain rfl:=Option.some.inj h; exact⟨by kernel_rfl,fr_ hF hw⟩
theorem sR(s_:ByteArray)(hs_:s_.size≤lim)(hs:Sat Γ w0){r:ByteArray×ByteArray×Bool}(h:jh s_=some r):CQ Tryz.prog 146 #[.string s_,.string (⟨#[46]⟩:ByteArray)] w0 (.tuple #[.string r.1,.string r.2.1,.bool r.2.2]):=by
 refine goQ [4,5,6] func146 ntmps146 results146 hs λF hF=>?_
 refine Dx (aV (k:=aV (k:=aV (k:=Dw (Dx (mV (k:=mV (k:=?_))))))))
 obtain⟨z1,hz2,h⟩:=bnd h
 refine vqV (caV call184) (λw hw=>kf (Γ:=Gh.all w) s_ hs_ (Sat.all w) hz2) (k:=sV exV (k:=sV exV (k:=sV exV (k:=aV (k:=aV (k:=aV (k:=Dw ?_)))))))
 exact DB λw hw=>by obtain rfl:=Option.some.inj h; exact⟨by kernel_rfl,fr_ hF hw⟩
theorem sA(s_:ByteArray)(hs_:s_.size≤lim)(hs:Sat Γ w0){r:Int×Int}(h:fU s_=some r):CQ Tryz.prog 147 #[.string s_] w0 (.tuple #[ii r.1,ii r.2]):=by
 refine goQ [2,3] func147 ntmps147 results147 hs λF hF=>?_
 refine Dx (aV (k:=aV (k:=Dw (Dy (Dx (mV (k:=sV oj (k:=?_))))))))
 refine mV (k:=vG0 (h:=λhg1=>moV) (k:=vG0 (h:=λhg2=>bg rfl Ek (grV hg2)) (k:=vG0 (h:=λhg3=>bx rfl (grV hg3)) (k:=vG0 (h:=λhg4=>b4 (v:=.bool (decide (1<(s_.size:Int)))) rfl (grV hg4)) (k:=vh1 (c0:=(!(s_==ByteArray.empty))) (g:=(decide (1<(s_.size:Int)))) rfl rfl rfl rfl rfl (λ_=>QV.qo moV) ?_)))))
 obtain⟨hk7,h⟩:=af h
 refine vh1 (c0:=(!(s_==ByteArray.empty))) (g:=(decide (1<(s_.size:Int)))) rfl rfl rfl rfl rfl (λhg6=>QV.qo (yV (i:=0) Ek rfl (grV hg6) rfl (DP (al hk7 hg6)))) (vh1 (c0:=(!(s_==ByteArray.empty))) (g:=(decide (1<(s_.size:Int)))) rfl rfl rfl rfl rfl (λhg8=>QV.qo (cW rfl (grV hg8))) (vG0 (h:=λhg9=>eV rfl (grV hg9) (kM (c:=(!(s_==ByteArray.empty))) (g:=(decide (1<(s_.size:Int)))) (y:=((((gt s_.data.toList 0).toNat:Nat):Int)==48)) hg9)) (k:=sV pkO (k:=mV (k:=vG0 (h:=λhg10=>moV) (k:=vG0 (h:=λhg11=>bg rfl Ek (grV hg11)) (k:=vG0 (h:=λhg12=>bx rfl (grV hg12)) (k:=?_))))))))
 refine sV pkO (k:=Dw ?_)
 refine ciV h (λhb13 h=>?_) (λhb13 h=>?_)
 ·
  refine Dx (aV (k:=aV (k:=Dw ?_)))
  exact DB λw hw=>by obtain rfl:=Option.some.inj h; exact⟨by kernel_rfl,fr_ hF hw⟩
 refine DC (wc_ (Dx (aV (k:=Dw (Dy (Dx (mV (k:=?_))))))))
 refine xn (src:=9) (dst:=89) (s:=s_) Ek Eo Eu hs_ rfl rfl rfl rfl rfl ?_
 intro Γ14 A15 c16 hl17 hs18 hc19
 refine sV (ab rfl Eo) (k:=mV (k:=Dw (DD ?_)))
 refine DF h (λ(i23:Nat) (n_20:Int) σ w=>slots σ [(4,.int .u64 n_20),(25,.slice A15 (s_.data.toList).length c16),(26,ii (((s_.data.toList).length:Nat):Int)),(27,ii (i23:Int))]∧CC F Γ14 [] w∧U64 n_20∧True) ?_ ?_
 ·
  intro w hw
  exact⟨slK,(hw.on []),(show U64 0 by decide),trivial⟩
 rintro f22 i23 n_20 σ w hi24 hlt25 hge26 ⟨hsl,hw,hr21,-⟩
 refine slV hsl hw [] ?_; clear hw hsl
 refine Dx (sV aw (k:=Dw (Dy ?_)))
 refine coV (λhb27=>?_) (λhb27=>?_)
 ·
  have hl28:=ilt hb27
  have h:=hlt25 hl28
  refine DC (wc_ (Dy (DD (Dx (sV (ar (i:=i23) Eo Es rfl rfl rfl hl28 (hs18.some_ hl28)) (k:=sV (q_ld (c:=0) (v:=.int .u8 (((gt (s_.data.toList) i23).toNat:Nat):Int)) (hs18.byteT_at hl28).2 rfl isAgg5 rfl rfl) (k:=aV (k:=?_))))))))
  refine Dw (Dy (Dx (mV (k:=sV aw (k:=mV (k:=vG0 (h:=λhg29=>moV) (k:=vG0 (h:=λhg30=>bx rfl (grV hg30)) (k:=?_))))))))
  refine sV pkO (k:=Dw ?_)
  refine ciV h (λhb31 h=>?_) (λhb31 h=>?_)
  ·
   refine Dx (aV (k:=aV (k:=Dw ?_)))
   exact DB λw hw=>by obtain rfl:=Option.some.inj h; exact⟨by kernel_rfl,fr_ hF hw⟩
  refine DC (wc_ ?_)
  refine DA ?_
  refine mV (k:=sV qF (k:=mV (k:=sV iK (k:=sV (gZ Et Eu) (k:=sV bN (k:=aV (k:=?_)))))))
  refine Dz ?_
  change WC _ _ _ _ _ _
  refine DA ?_
  refine sV (am rfl rfl rfl (ax hl28 hs18.le)) (k:=mV (k:=?_))
  exact Dz λw hw=>⟨hl28,(wu64 ((wu64 (10*n_20))+(wu64 (wu8 ((((gt (s_.data.toList) i23).toNat:Nat):Int) - 48))))),h,slK,hw,(rI _),trivial⟩
 have h:=hge26 (ige hb27)
 refine DE ?_
 change WC _ _ _ _ _ _
 refine Dy (Dx (mV (k:=sV iA (k:=Dw ?_))))
 refine ciV h (λhb32 h=>?_) (λhb32 h=>?_)
 ·
  refine Dx (aV (k:=aV (k:=Dw ?_)))
  exact DB λw hw=>by obtain rfl:=Option.some.inj h; exact⟨by kernel_rfl,fr_ hF hw⟩
 refine DC (wc_ (Dx (mV (k:=sV (gZ underlying2 Et) (k:=aV (k:=aV (k:=Dw ?_)))))))
 exact DB λw hw=>by obtain rfl:=Option.some.inj h; exact⟨by kernel_rfl,fr_ hF hw⟩
abbrev lD(J:Gh→Rowb→ag→Prop)(lY:Nat)(gb0:Nat)(gb0v0:Nat)(eb0v0:Nat)(b0v0:a6)(rowb0v0:Rowb)(b0v1:ByteArray)(b0v2:Int)(r:ag)(U:List Rowb)(Γ:Gh)(v:Value):Prop := ∃(rowsY':Rowb),v = .tuple #[]∧U = [rowsY',[(gb0,.cells #[.pointer (some ⟨gb0v0,0,none⟩),.string b0v1,.int .i64 b0v2] 124 (0,0))],rowb0v0]∧ag.ob J Γ lY rowsY' r∧True
theorem lA{J:Gh→Rowb→ag→Prop}{Y:ag→ByteArray→Int→Int→Option ag}{lY:Nat}(hY:∀{Γ:Gh} {w:World} {row:Rowb} {s s':ag} (y0_:ByteArray) (hy0_:y0_.size≤lim) (y1_0:Int) (hy1_0:I64 y1_0) (y1_1:Int) (hy1_1:I64 y1_1) (hs:ag.ob J Γ lY row s) (hp:Pre [row] Γ w) (h:Y s y0_ y1_0 y1_1=some s'),YieldAt (FR none) 0 Tryz.prog lY #[.string y0_,.agg #[ii y1_0,ii y1_1]] w (Outc Γ [row] w λU Δ v => ∃row':Rowb,v = .bool true∧U = [row']∧ag.ob J Δ lY row' s')){rowsY:Rowb}{sY:ag}(hsY:ag.ob J Γ lY rowsY sY){gb0:Nat}{gb0v0:Nat}{eb0v0:Nat}{rowb0v0:Rowb}{b0v0:a6}(hb0v0:a6.ob eb0v0 Γ gb0v0 rowb0v0 b0v0)(b0v1:ByteArray)(hb0v1:b0v1.size≤lim)(b0v2:Int)(hb0v2:I64 b0v2)(hp:Pre [rowsY,[(gb0,.cells #[(pq gb0v0),.string b0v1,ii b0v2] 124 (0,0))],rowb0v0] Γ w0){r:ag}(h:fe Y sY b0v0 b0v1 b0v2=some r):Calls Tryz.prog 143 #[.func (.yield lY) #[] #[],(pq gb0)] w0 (Outc Γ [rowsY,[(gb0,.cells #[(pq gb0v0),.string b0v1,ii b0v2] 124 (0,0))],rowb0v0] w0 (lD J lY gb0 gb0v0 eb0v0 b0v0 rowb0v0 b0v1 b0v2 r)):=by
 refine goV [] func143 ntmps143 results143 hp λF hF=>?_
 refine Dx (sV (q_fl 0 ia) (k:=sV (ldV 1 EB) (k:=?_)))
 obtain⟨z1,hz2,h⟩:=bnd h
 refine ecV [2] (caV call144) (λw hp=>pH hb0v0 hp hz2) ?_
 rintro Γ3 _ _ hl4 ⟨A7,c8,row9,rfl,rfl,hr10,_⟩
 refine cwV 16 [_,_,_,_] (sV (ab rfl EE) (k:=mV (k:=Dw (DD ?_))))
 refine DF h (λ(i17:Nat) (o13:ag) σ w => ∃(Γ11:Gh), ∃(row14:Rowb),slots σ [(0,.func (.yield lY) #[] #[]),(1,(pq gb0)),(16,.slice A7 z1.length c8),(17,ii (z1.length:Int)),(18,ii (i17:Int))]∧CC F Γ11 [rowb0v0,row9,row14,[(gb0,.cells #[(pq gb0v0),.string b0v1,ii b0v2] 124 (0,0))]] w∧Gh.le Γ3 Γ11∧ag.ob J Γ11 lY row14 o13∧True) ?_ ?_
 ·
  intro w hw
  exact⟨Γ3,rowsY,slK,hw,gR,(hsY.mono hl4),trivial⟩
 rintro f16 i17 o13 σ w hi18 hlt19 hge20 ⟨Γ11,row14,hsl,hw,hl12,ho15,-⟩
 refine slV hsl hw [_,_,_,_] ?_; clear hw hsl
 refine Dx (sV aw (k:=Dw (Dy ?_)))
 refine coV (λhb21=>?_) (λhb21=>?_)
 ·
  have hl22:=ilt hb21
  have h:=hlt19 hl22
  refine DC (wc_ (Dy (DD (Dx (sV (ar (i:=i17) EE EF rfl rfl rfl hl22 ((hr10.mono hl12).some_ hl22)) (k:=sV (nR (c:=0) (v:=.string (gt z1 i17)) (i:=1) rfl ((hr10.mono hl12).strT_at hl22).2 rfl En rfl rfl) (k:=aV (k:=?_))))))))
  refine Dw (Dx (mV (k:=sV (q_fl 1 qh) (k:=sV (ldV 3 En) (k:=sV (og rfl rfl rfl hb0v1 (show (⟨#[46]⟩:ByteArray).size≤lim by decide)) (k:=?_))))))
  obtain⟨hk23,h⟩:=af h
  obtain⟨z24,hz25,h⟩:=bnd h
  refine vqV (caV call145) (λw hw=>nE (Γ:=Gh.all w) (gt z1 i17) ((hr10.mono hl12).strT_at hl22).1 (b0v1++(⟨#[46]⟩:ByteArray)) (DP hk23) (Sat.all w) hz25) (k:=mV (k:=sV exV (k:=sV exV (k:=aV (k:=aV (k:=Dw (Dx ?_)))))))
  refine mV (k:=?_)
  obtain⟨hk26,h⟩:=af h
  obtain⟨z27,hz28,h⟩:=bnd h
  refine vqV (caV call146) (λw hw=>sR (Γ:=Gh.all w) z24.1 (DP hk26) (Sat.all w) hz28) (k:=mV (k:=sV exV (k:=sV exV (k:=sV exV (k:=aV (k:=aV (k:=aV (k:=?_))))))))
  refine Dw (Dx (mV (k:=?_)))
  obtain⟨hk29,h⟩:=af h
  obtain⟨z30,hz31,h⟩:=bnd h
  refine vqV (caV call147) (λw hw=>sA (Γ:=Gh.all w) z27.1 (DP hk29) (Sat.all w) hz31) (k:=mV (k:=sV exV (k:=sV exV (k:=aV (k:=aV (k:=Dw (Dx ?_)))))))
  refine mV (k:=?_)
  obtain⟨hk32,h⟩:=af h
  obtain⟨z33,hz34,h⟩:=bnd h
  refine vqV (caV call147) (λw hw=>sA (Γ:=Gh.all w) z27.2.1 (DP hk32) (Sat.all w) hz34) (k:=mV (k:=sV exV (k:=sV exV (k:=aV (k:=aV (k:=Dw (Dy ?_)))))))
  refine WC.ofI (WCI.region ?_)
  refine WI.op (λ_ h=>nomatch h) ?_
  refine mV (k:=?_)
  refine DG ?_
  refine WI.op (λ_ h=>nomatch h) ?_
  refine mV (k:=?_)
  refine DG ?_
  refine WI.op (λ_ h=>nomatch h) ?_
  refine vG1 (h:=λhg35=>moV) (k:=?_)
  refine DG ?_
  refine WI.op (λ_ h=>nomatch h) ?_
  refine sV pkA (k:=?_)
  refine DG ?_
  refine WI.op (λ_ h=>nomatch h) ?_
  refine mV (k:=?_)
  refine DG ?_
  refine WI.op (λ_ h=>nomatch h) ?_
  refine vG1 (h:=λhg36=>moV) (k:=?_)
  refine DG ?_
  refine WI.op (λ_ h=>nomatch h) ?_
  refine vG1 (h:=λhg37=>cW rfl (grV hg37)) (k:=?_)
  refine DG ?_
  refine WI.op (λ_ h=>nomatch h) ?_
  refine sV pkA (k:=?_)
  refine DG ?_
  refine WI.op (λ_ h=>nomatch h) ?_
  refine mV (k:=?_)
  refine DG ?_
  refine WI.op (λ_ h=>nomatch h) ?_
  refine vG1 (h:=λhg38=>moV) (k:=?_)
  refine DG ?_
  refine WI.op (λ_ h=>nomatch h) ?_
  refine vG1 (h:=λhg39=>cW rfl (grV hg39)) (k:=?_)
  refine DG ?_
  refine WI.op (λ_ h=>nomatch h) ?_
  refine sV pkA (k:=?_)
  refine DG ?_
  refine WI.op (λ_ h=>nomatch h) ?_
  refine mV (k:=?_)
  refine DG ?_
  refine WI.op (λ_ h=>nomatch h) ?_
  refine vG1 (h:=λhg40=>moV) (k:=?_)
  refine DG ?_
  refine WI.op (λ_ h=>nomatch h) ?_
  refine vG1 (h:=λhg41=>dh rfl (grV hg41)) (k:=?_)
  refine DG ?_
  refine WI.op (λ_ h=>nomatch h) ?_
  refine sV pkA (k:=?_)
  refine DG ?_
  refine WI.op (λ_ h=>nomatch h) ?_
  refine mV (k:=?_)
  refine DG ?_
  refine WI.op (λ_ h=>nomatch h) ?_
  refine vG1 (h:=λhg42=>moV) (k:=?_)
  refine DG ?_
  refine WI.op (λ_ h=>nomatch h) ?_
  refine vG1 (h:=λhg43=>iA rfl (grV hg43)) (k:=?_)
  refine DG ?_
  refine WI.op (λ_ h=>nomatch h) ?_
  refine sV pkA (k:=?_)
  refine DG ?_
  refine WI.op (λ_ h=>nomatch h) ?_
  refine mV (k:=?_)
  refine DG ?_
  refine WI.op (λ_ h=>nomatch h) ?_
  refine vG1 (h:=λhg44=>moV) (k:=?_)
  refine DG ?_
  refine WI.op (λ_ h=>nomatch h) ?_
  refine vG1 (h:=λhg45=>dh rfl (grV hg45)) (k:=?_)
  refine DG ?_
  refine WI.op (λ_ h=>nomatch h) ?_
  refine sV pkA (k:=?_)
  refine DG ?_
  refine WI.op (λ_ h=>nomatch h) ?_
  refine mV (k:=?_)
  refine DG ?_
  refine WI.op (λ_ h=>nomatch h) ?_
  refine vG1 (h:=λhg46=>b4 (v:=.func (.yield lY) #[] #[]) rfl (by kernel_rfl)) (k:=?_)
  refine DG ?_
  refine WI.op (λ_ h=>nomatch h) ?_
  refine vG1 (h:=λhg47=>moV) (k:=?_)
  refine DG ?_
  refine WI.op (λ_ h=>nomatch h) ?_
  refine vG1 (h:=λhg48=>moV) (k:=?_)
  refine DG ?_
  refine WI.op (λ_ h=>nomatch h) ?_
  refine vG1 (h:=λhg49=>moV) (k:=?_)
  refine DG ?_
  refine WI.op (λ_ h=>nomatch h) ?_
  refine vG1 (h:=λhg50=>aA (v:=.agg #[ii z30.1,ii z33.1]) rfl (dJ (grV hg50) (grV hg50)) (λw=>by kernel_rfl)) (k:=?_)
  refine DG ?_
  refine(Bool.eq_false_or_eq_true ((((((z24.2&&z27.2.2)&&(z30.2==0))&&(z33.2==0))&&(decide (z30.1≤999999)))&&(decide (1≤z33.1)))&&(decide (z33.1≤999999)))).elim (λhb51=>?_) (λhb51=>?_)
  ·
   have h:=bt hb51 h
   refine WI.sat (c0:=true) (g:=((((((z24.2&&z27.2.2)&&(z30.2==0))&&(z33.2==0))&&(decide (z30.1≤999999)))&&(decide (1≤z33.1)))&&(decide (z33.1≤999999)))) rfl rfl rfl hb51 ?_
   obtain⟨hk52,h⟩:=af h
   obtain⟨hk53,h⟩:=af h
   obtain⟨z54,hz55,h⟩:=bnd h
   refine WI.yield (is:=[2]) rfl rfl (λ_ h=>nomatch h) (tm rfl (grV hb51) (dX (grV hb51) (grV hb51))) rfl (λw hp=>hY (gt z1 i17) ((hr10.mono hl12).strT_at hl22).1 z30.1 (cj hk52) z33.1 (cj hk53) ho15 hp hz55) ?_
   rintro Γ56 _ _ hl57 ⟨row60,rfl,rfl,hr61⟩
   change WI _ _ _ _ (CC F Γ56 [row60,rowb0v0,row9,[(gb0,.cells #[(pq gb0v0),.string b0v1,ii b0v2] 124 (0,0))]]) _ _ (upd _ 76 (.bool true))
   refine WI.sat (c0:=true) (g:=((((((z24.2&&z27.2.2)&&(z30.2==0))&&(z33.2==0))&&(decide (z30.1≤999999)))&&(decide (1≤z33.1)))&&(decide (z33.1≤999999)))) rfl rfl rfl hb51 ?_
   refine WI.op (λ_ h=>nomatch h) ?_
   refine sV bb (k:=?_)
   refine DG ?_
   refine WI.op (λ_ h=>nomatch h) ?_
   refine sV (ke (v:=.bool (!true)) rfl rfl hb51 (by kernel_rfl)) (k:=?_)
   refine DG ?_
   refine WI.nil ?_
   change WC _ _ _ _ _ _
   refine WC.cfk (b:=(!true)) (by kernel_rfl) (nott rfl) ?_
   refine DC (wc_ ?_)
   refine DA ?_
   refine sV (am rfl rfl rfl (ax hl22 (hr10.mono hl12).le)) (k:=mV (k:=?_))
   exact Dz λw hw=>⟨hl22,z54,h,Γ56,row60,slK,(hw.on [1,1,0,0]),(hl12.trans hl57),hr61,trivial⟩
  have h:=bf hb51 h
  refine WI.op (λ_ h=>nomatch h) ?_
  refine WR.unsat (c0:=true) (g:=((((((z24.2&&z27.2.2)&&(z30.2==0))&&(z33.2==0))&&(decide (z30.1≤999999)))&&(decide (1≤z33.1)))&&(decide (z33.1≤999999)))) rfl rfl rfl hb51 rfl ?_
  refine DG ?_
  refine WI.op (λ_ h=>nomatch h) ?_
  refine WR.unsat (c0:=true) (g:=((((((z24.2&&z27.2.2)&&(z30.2==0))&&(z33.2==0))&&(decide (z30.1≤999999)))&&(decide (1≤z33.1)))&&(decide (z33.1≤999999)))) rfl rfl rfl hb51 rfl ?_
  refine DG ?_
  refine WI.op (λ_ h=>nomatch h) ?_
  refine sV (jv (v:=.bool false) rfl rfl hb51 (by kernel_rfl)) (k:=?_)
  refine DG ?_
  refine WI.nil ?_
  change WC _ _ _ _ _ _
  refine WC.cfk (b:=false) (by kernel_rfl) rfl ?_
  refine DC (wc_ ?_)
  refine DA ?_
  refine sV (am rfl rfl rfl (ax hl22 (hr10.mono hl12).le)) (k:=mV (k:=?_))
  exact Dz λw hw=>⟨hl22,o13,h,Γ11,row14,slK,hw,hl12,ho15,trivial⟩
 have h:=hge20 (ige hb21)
 refine DE ?_
 intro w hw
 cases h
 subst hF
 exact aI (is:=[2,2,0]) (by kernel_rfl) hw rfl ⟨row14,rfl,rfl,ho15,trivial⟩
abbrev nX(gd:Nat)(ed:Nat)(r:a6×Int)(U:List Rowb)(Γ:Gh)(v:Value):Prop := ∃(rowd':Rowb),v = .int .i64 r.2∧U = [rowd']∧a6.ob ed Γ gd rowd' r.1∧I64 r.2∧True
theorem ov{gd ed:Nat}{rowd:Rowb}{d:a6}(hd:a6.ob ed Γ gd rowd d)(name:ByteArray)(hname:name.size≤lim)(hp:Pre [rowd] Γ w0){r:a6×Int}(h:dm d name=some r):Calls Tryz.prog 107 #[(pq gd),.string name] w0 (Outc Γ [rowd] w0 (nX gd ed r)):=by
 refine goV [4] func107 ntmps107 results107 hp λF hF=>?_
 refine Dx ?_
 refine bxV (v:=.string name) λg1=>?_
 refine aV (k:=Dw (Dy (Dx (mV (k:=sV (ldV 0 En) (k:=?_))))))
 obtain⟨z2,hz3,h⟩:=bnd h
 refine vqV (caV call141) (λw hw=>ky (Γ:=Gh.all w) (hd.mono hw.sat.le_all) (hw.ra 1 rfl) name hname (Sat.all w) hz3) (k:=aV (k:=Dw (Dx (mV (k:=sV bj (k:=Dw ?_))))))
 refine ciV h (λhb4 h=>?_) (λhb4 h=>?_)
 ·
  refine Dx (mV (k:=aV (k:=Dw ?_)))
  refine DB ?_
  intro w hw
  obtain⟨hk5,h⟩:=af h
  cases h
  subst hF
  exact aI (is:=[1]) (by kernel_rfl) hw rfl ⟨rowd,rfl,rfl,hd,(cj hk5),trivial⟩
 refine DC (wc_ (Dx (mV (k:=sV (bQ (v:=.func (.func 148) #[] #[(pq g1)]) rfl (by kernel_rfl)) (k:=sV (aA (v:=.agg #[.func (.func 148) #[] #[(pq g1)],.string ByteArray.empty,.slice none 0 0]) rfl (iy rfl) (λw=>by kernel_rfl)) (k:=?_))))))
 intro w hw; obtain⟨Γ6,hw,hl7,hr8⟩:=hw.seal (i:=0) rfl
 have hg9:=hr8 _ (List.mem_singleton.2 rfl)
 refine WR.here (C:=CC F Γ6 [_,_]) ?_ hw
 clear hw
 have hf10:aj.ok Γ6 none g1 (aj.disk_Disk_Remove_1 name):=⟨⟨hg9,hname⟩,trivial⟩
 obtain⟨z11,hz12,h⟩:=bnd h
 refine ecV [1] (caV call135) (λw hp=>iP (hd.mono hl7) (Ac_2:=none) (cc_2:=0) (⟨(aj.disk_Disk_Remove_1 name),ByteArray.empty,[]⟩:az) ⟨hf10,(show (ByteArray.empty:ByteArray).size≤lim by decide),nilV⟩ hp hz12) ?_
 rintro Γ13 _ _ hl14 ⟨row17,rfl,rfl,hr18,hr19,_⟩
 refine cwV 15 [_,_] (aV (k:=Dw ?_))
 exact DB λw hw=>re_ r [0] h hF hw ⟨row17,rfl,rfl,hr18,hr19,trivial⟩
def JRem(Γb:Gh)(l gl g3 fT:Nat)(caps:Array Value)(rowT:Rowb)(rec:Loop)(Γ:Gh)(row:Rowb)(s:ag):Prop := ∃(A:Option Addr) (c:Nat) (rowo:Rowb),Γb.le Γ∧row=([[(l,.loop rec)],[(gl,.cells #[.slice A s.length c] 116 (0,0))],rowo,[(g3,.cells #[.func (.func fT) #[] caps] 131 (0,0))],rowT]:List Rowb).flatten∧Own strT Γ 9 rowo A c s
theorem mO{gd:Nat}{name:ByteArray}{gen:Int}(hp:Pre [] Γ w0):Calls Tryz.prog 106 #[.agg #[(pq gd),.string name,ii gen]] w0 (Outc Γ [] w0 (λU Δ v => ∃g1:Nat,v = .func (.func 143) #[] #[(pq g1)]∧U = [[(g1,.cells #[(pq gd),.string name,ii gen] 124 (0,0))]])):=by
 refine goV [2] func106 ntmps106 results106 hp λF hF=>?_
 refine Dx ?_
 refine bxV (v:=.agg #[(pq gd),.string name,ii gen]) λg1=>?_
 refine aU (v:=.nilFunc) (k:=?_)
 refine Dz ?_
 change WC _ _ _ _ _ _
 refine Dx (sV (bQ (v:=.func (.func 143) #[] #[(pq g1)]) rfl (by kernel_rfl)) (k:=aU (v:=.func (.func 143) #[] #[(pq g1)]) (k:=?_)))
 refine Dz ?_
 change WC _ _ _ _ _ _
 refine DB ?_
 intro w hw
 subst hF
 exact aI (is:=[0]) (by kernel_rfl) hw rfl ⟨g1,rfl,rfl⟩
set_option maxRecDepth 100000 in
set_option maxHeartbeats 800000 in
theorem iN{Γ:Gh}{w0:World}{gd ed:Nat}{rowd:Rowb}{d:a6}(hd:a6.ob ed Γ gd rowd d)(name:ByteArray)(hname:name.size≤lim)(gen:Int)(hgen:I64 gen){fT:Nat}{caps:Array Value}{rowT:Rowb}(pred:Int→Int→Option Bool)
  (hT:∀{Γ2:Gh} {w:World} (x:Int) (hx:I64 x) (y:Int) (hy:I64 y),Γ.le Γ2→Pre [rowT] Γ2 w→∀{q:Bool},pred x y=some q→Calls Tryz.prog fT (#[ii x,ii y]++caps) w (λe w'=>e = .returned (.bool q)∧Fr no w w'))
  (eT:∀(args:Array Value) (w:World),(callFunc fT args).run Tryz.prog w = .ok (.enter fT args) w) (hp:Pre [rowd,rowT] Γ w0) {r:a6} (h:bH d name gen pred=some r) :
  Calls Tryz.prog 71 #[.agg #[(pq gd),.string name,ii gen],.func (.func fT) #[] caps] w0 (Outc Γ [rowd,rowT] w0 (λU Δ v => ∃rowd',v = .tuple #[]∧U = [rowd',rowT]∧a6.ob ed Δ gd rowd' r)):=by
 obtain⟨z,hz,h⟩:=bnd h
 refine tz (n:=34) (rs:=[]) (args:=[.agg #[(pq gd),.string name,ii gen],.func (.func fT) #[] caps]) func71 rfl ntmps71 results71 rfl ?_
 obtain⟨F,hF⟩:∃F:Fm,F=⟨ids [rowd,rowT],w0,Γ⟩:=⟨_,rfl⟩
 refine WC2.here (C:=CC F Γ [rowd,rowT]) ?_ (hF▸hp.start)
 refine WC2.seq ?_
 refine DA ?_
 refine bxV (v:=.agg #[(pq gd),.string name,ii gen]) λg2=>?_
 refine bxV (v:=.func (.func fT) #[] caps) λg3=>?_
 refine Dz ?_
 change WC2 _ _ _ _ _ _
 refine WC2.seq ?_
 refine DA ?_
 refine alV zeroValue116 λgl=>?_
 refine Dz ?_
 change WC2 _ _ _ _ _ _
 refine WC2.seq3 ?_
 refine DA ?_
 refine sV (ldaV 2 [(pq gd),.string name,ii gen] EC ED) (k:=?_)
 refine ecV [] (caV call106) (λw hp=>mO (gd:=gd) (name:=name) (gen:=gen) hp) ?_
 rintro Γ1 _ _ hl1 ⟨g1,rfl,rfl⟩
 refine cwV 10 [_,_,_,_,_,_] ?_
 refine Dz ?_
 change WC3 _ _ _ _ _ _ _
 refine WC3.rangeF (n:=34) (gf:=143) (lb:=#[(pq g1)]) (by kernel_rfl) call143 ?_
 intro l D rec w hst hpe hps has hbo hagr hw
 have hY:∀{Γa:Gh} {w:World} {row:Rowb} {s s':ag} (y0_:ByteArray) (hy0_:y0_.size≤lim) (y1_0:Int) (hy1_0:I64 y1_0) (y1_1:Int) (hy1_1:I64 y1_1) (hs:ag.ob (JRem Γ l gl g3 fT caps rowT rec) Γa l row s) (hp:Pre [row] Γa w) (h:cF pred s y0_ y1_0 y1_1=some s'),
   YieldAt (FR none) 0 Tryz.prog l #[.string y0_,.agg #[ii y1_0,ii y1_1]] w (Outc Γa [row] w λU Δ v => ∃row':Rowb,v = .bool true∧U = [row']∧ag.ob (JRem Γ l gl g3 fT caps rowT rec) Δ l row' s'):=by
  intro Γa w row s s' f hf x hx y hy hs hp h
  obtain⟨q,hq,h⟩:=bnd h
  obtain⟨Γ',hle,Ao,co,rowo,hgb,rfl,ho⟩:=hs
  have hgb:=hgb.trans hle
  have ho:=ho.mono hle
  refine YieldAt.mono (R:=Outc Γa [[(l,.loop rec)],[(gl,.cells #[.slice Ao s.length co] 116 (0,0))],rowo,[(g3,.cells #[.func (.func fT) #[] caps] 131 (0,0))],rowT] w λU Δ v => ∃A2 c2 row2,v = .bool true∧U = [[(l,.loop rec)],[(gl,.cells #[.slice A2 s'.length c2] 116 (0,0))],row2,[(g3,.cells #[.func (.func fT) #[] caps] 131 (0,0))],rowT]∧Own strT Δ 9 row2 A2 c2 s') ?_ ?_
  ·
   refine uJ has hbo hp.parts hst hpe (by rw [hps]; rfl) (N:=⟨34,[]⟩) (σ1:=_) (by rw [hps]; exact hagr.par2 rfl rfl) ?_
   intro F hF
   refine WCI.rs ?_
   refine WI.op (λ_ h=>nomatch h) ?_
   refine aV (k:=?_)
   refine DG ?_
   refine WI.done ?_
   refine WCI.region ?_
   refine WI.op (λ_ h=>nomatch h) ?_
   refine alV zeroValue174 λg6=>?_
   refine DG ?_
   refine WI.op (λ_ h=>nomatch h) ?_
   refine stV 0 (.agg #[ii x,ii y]) #[ii x,ii y] sizeOf174 (k:=?_)
   refine DG ?_
   refine WI.nil ?_
   intro w hw
   have hw:Cur F Γa ([(l,.loop rec)]::[[(g6,.cells #[ii x,ii y] 174 (0,0))],[(gl,.cells #[.slice Ao s.length co] 116 (0,0))],rowo,[(g3,.cells #[.func (.func fT) #[] caps] 131 (0,0))],rowT]) w:=hw.permL (List.Perm.swap _ _ _)
   refine⟨Γa,_,hw,?_⟩
   refine WCI.block ?_
   refine WCI.rs ?_
   refine WI.op (λ_ h=>nomatch h) ?_
   refine sV (ldV 4 isAgg131) (k:=?_)
   refine DG ?_
   refine WI.op (λ_ h=>nomatch h) ?_
   refine sV (yO (0) underlying174 EG rfl rfl rfl rfl rfl) (k:=?_)
   refine DG ?_
   refine WI.op (λ_ h=>nomatch h) ?_
   refine sV (ldV 1 EH) (k:=?_)
   refine DG ?_
   refine WI.op (λ_ h=>nomatch h) ?_
   refine sV (yO (1) underlying174 EG rfl rfl rfl rfl rfl) (k:=?_)
   refine DG ?_
   refine WI.op (λ_ h=>nomatch h) ?_
   refine sV (ldV 1 EH) (k:=?_)
   refine DG ?_
   refine WI.op (λ_ h=>nomatch h) ?_
   refine vc rfl rfl rfl (aH (v:=.bool q) (aT (caps:=caps) (args:=#[ii x,ii y]++caps) eT rfl (by kernel_rfl) (by kernel_rfl)) (λw hw=>(by exact hT x hx y hy hgb (hw.on [5]).pre hq))) ?_
   refine DG ?_
   refine WI.done ?_
   refine WCI.cond (b:=q) (by kernel_rfl) (λhb=>?_) (λhb=>?_)
   ·
    have h:=bt hb h
    obtain⟨hk,h⟩:=af h
    cases h
    refine WCI.region ?_
    refine WI.op (λ_ h=>nomatch h) ?_
    refine sV (ldV 2 isAgg116) (k:=?_)
    refine DG ?_
    refine WI.op (λ_ h=>nomatch h) ?_
    refine mV (k:=?_)
    refine DG ?_
    refine WI.op (λ_ h=>nomatch h) ?_
    refine bsV #[.string f] 9 λgb=>?_
    refine DG ?_
    refine WI.op (λ_ h=>nomatch h) ?_
    refine apV 4 [f] zA ho (DP hk) (λw hw=>br (i:=0) rfl (by exact⟨rfl,hf⟩) hw) ?_
    intro row2 A2 c2 ho2
    refine DG ?_
    refine WI.op (λ_ h=>nomatch h) ?_
    refine stV 3 (.slice A2 (s++[f]).length c2) #[.slice A2 (s++[f]).length c2] sizeOf116 (k:=?_)
    refine DG ?_
    exact WI.nil λw hw=>⟨Γa,_,hw.on [1,2,2,2,2],A2,c2,row2,rfl,rfl,ho2⟩
   have h:=bf hb h
   cases h
   exact WCI.skip λw hw=>⟨Γa,_,hw.on [0,1,1,1,1],Ao,co,rowo,rfl,rfl,ho⟩
  rintro e w2 ⟨v,rfl,Δ,U,he,A2,c2,row2,rfl,rfl,ho2⟩
  exact⟨_,rfl,Δ,_,he.glue,_,rfl,rfl,YS.of ⟨A2,c2,row2,hgb.trans he.le,rfl,ho2⟩⟩
 have hw:=hw.pad
 have h2:=hw.fold (is:=[1,3,0,2,4]) rfl rfl
 have h3:Cur F Γ1 ([([[(l,.loop rec)],[(gl,.cells #[.slice none 0 0] 116 (0,0))],[],[(g3,.cells #[.func (.func fT) #[] caps] 131 (0,0))],rowT]:List Rowb).flatten,[(g1,.cells #[(pq gd),.string name,ii gen] 124 (0,0))],rowd]++[[(D,.deferred (some []))],[(g2,.cells #[(pq gd),.string name,ii gen] 124 (0,0))]]) w:=h2.pick (is:=[0,1,2]) rfl
 refine(lA (J:=JRem Γ l gl g3 fT caps rowT rec) (Y:=cF pred) (lY:=l) (sY:=[]) hY (YS.of ⟨none,0,[],hl1,rfl,Own.nil _ _ _⟩) (hd.mono hl1) name hname gen hgen (h2.only (is:=[0,1,2]) rfl).pre hz).mono ?_
 rintro e w' ⟨v,rfl,Δ,U',he,rowY',rfl,rfl,hJ',-⟩
 have h4:=h3.eff he
 obtain⟨Γ',hle,A',c',rowo', -,hrow,ho'⟩:=hJ'
 have ho':=ho'.mono hle
 have h5:=h4.unfold (i:=0) rfl hrow
 have hd':=(hd.mono hl1).mono he.le
 refine⟨_,rfl,Δ,[[(gl,.cells #[.slice A' z.length c'] 116 (0,0))],rowo',rowT,rowd,[(g2,.cells #[(pq gd),.string name,ii gen] 124 (0,0))]],h5.only (is:=[0,6,0,0,1,2,2]) rfl,?_⟩
 refine WC2.of ?_
 refine Dx (sV (ldV 1 isAgg116) (k:=sV (ab rfl EE) (k:=mV (k:=?_))))
 refine Dz ?_
 change WC _ _ _ _ _ _
 refine DD ?_
 refine DF h (λ(i:Nat) (x:a6) σ w => ∃(Γ2:Gh) (rowd2:Rowb),slots σ [(2,(pq g2)),(23,.slice A' z.length c'),(24,ii (z.length:Int)),(25,ii (i:Int))]∧CC F Γ2 [[(D,.deferred (some []))],[(gl,.cells #[.slice A' z.length c'] 116 (0,0))],rowo',rowT,rowd2,[(g2,.cells #[(pq gd),.string name,ii gen] 124 (0,0))]] w∧Gh.le Δ Γ2∧a6.ob ed Γ2 gd rowd2 x∧True) ?_ ?_
 ·
  intro w hw
  exact⟨Δ,rowd,slK,hw,gR,hd',trivial⟩
 rintro f11 i x σ w hi13 hlt14 hge15 ⟨Γ2,rowd2,hsl,hw,hl5,hd2,-⟩
 refine slV hsl hw [_,_,_,_,_,_] ?_; clear hw hsl
 refine Dx (sV aw (k:=?_))
 refine Dz ?_
 change WC _ _ _ _ _ _
 refine Dy ?_
 refine coV (λhb16=>?_) (λhb16=>?_)
 ·
  have hl17:=ilt hb16
  have h:=hlt14 hl17
  refine DC (wc_ (Dy (DD (Dx (sV (ar (i:=i) EE EF rfl rfl rfl hl17 ((ho'.mono hl5).some_ hl17)) (k:=sV (nR (c:=0) (v:=.string (gt z i)) (i:=2) rfl ((ho'.mono hl5).strT_at hl17).2 rfl En rfl rfl) (k:=aV (k:=?_))))))))
  refine Dz ?_
  change WC _ _ _ _ _ _
  refine DA ?_
  refine sV (q_fl 0 ia) (k:=sV (ldV 5 EB) (k:=mV (k:=?_)))
  obtain⟨y,hy,h⟩:=bnd h
  refine ecV [4] (caV call107) (λw hp=>ov hd2 (gt z i) ((ho'.mono hl5).strT_at hl17).1 hp hy) ?_
  rintro Γ3 _ _ hl3 ⟨rowd3,rfl,rfl,hd3,hr3,-⟩
  refine cwV 32 [_,_,_,_,_,_] ?_
  refine Dz ?_
  change WC _ _ _ _ _ _
  refine DA ?_
  refine sV (am rfl rfl rfl (ax hl17 ho'.le)) (k:=mV (k:=?_))
  exact Dz λw hw=>⟨hl17,y.1,h,Γ3,rowd3,slK,hw.on [1,1,1,1,0,0],hl5.trans hl3,hd3,trivial⟩
 have h:=hge15 (ige hb16)
 cases h
 refine DE ?_
 intro w hw
 subst hF
 exact BV (N:=⟨34,[]⟩) (is:=[3,2]) (by kernel_rfl) hw rfl ⟨rowd2,rfl,rfl,hd2⟩
abbrev qW(gb0:Nat)(b0v:Int)(r:Bool)(U:List Rowb)(Γ:Gh)(v:Value):Prop:=v = .bool r∧U = [[(gb0,.cells #[.int .i64 b0v] 2 (0,0))]]∧True
theorem qO(g_:Int)(hg_:I64 g_)(a1:Int)(ha1:I64 a1){gb0:Nat}(b0v:Int)(hb0v:I64 b0v)(hp:Pre [[(gb0,.cells #[ii b0v] 2 (0,0))]] Γ w0){r:Bool}(h:fB g_ a1 b0v=some r):Calls Tryz.prog 72 #[ii g_,ii a1,(pq gb0)] w0 (Outc Γ [[(gb0,.cells #[ii b0v] 2 (0,0))]] w0 (qW gb0 b0v r)):=by
 refine goV [5] func72 ntmps72 results72 hp λF hF=>?_
 refine Dx (aV (k:=Dw (Dx (mV (k:=sV (ldV 0 EH) (k:=sV bj (k:=aV (k:=?_))))))))
 refine Dw ?_
 exact DB λw hw=>re_ r [0] h hF hw ⟨rfl,rfl,trivial⟩
theorem lw(n:Int)(hn:I64 n)(hs:Sat Γ w0){r:ByteArray}(h:gp n=some r):CQ Tryz.prog 22 #[ii n] w0 (.string r):=by
 refine goQ [2] func22 ntmps22 results22 hs λF hF=>?_
 refine Dx (aV (k:=Dw (Dx ?_)))
 refine alV zeroValue93 λg1=>?_
 have ho2:Own au Γ 93 [(g1,.cells #[.int .u8 0,.int .u8 0,.int .u8 0,.int .u8 0,.int .u8 0,.int .u8 0,.int .u8 0,.int .u8 0,.int .u8 0,.int .u8 0,.int .u8 0,.int .u8 0,.int .u8 0,.int .u8 0,.int .u8 0,.int .u8 0,.int .u8 0,.int .u8 0,.int .u8 0,.int .u8 0] 93 (0,0))] (some ⟨g1,0,none⟩) 20 (List.replicate 20 (b8 0)):=zp (T:=au) 20 [.int .u8 0] (b8 0) rfl (by show [Value.int .u8 0] = [Value.int .u8 _]; rw [qq (by decide)]) (by decide)
 refine Dw (Dx (aV (k:=Dw (Dx (mV (k:=sV (gZ Et underlying2) (k:=aV (k:=?_))))))))
 refine Dw ?_
 refine DL (λσ w => ∃(u_3:Int),gM n u_3=some r∧slots σ [(0,ii n),(3,(pq g1)),(4,ii 20),(5,.int .u64 u_3)]∧CC F Γ [[(g1,.cells #[.int .u8 0,.int .u8 0,.int .u8 0,.int .u8 0,.int .u8 0,.int .u8 0,.int .u8 0,.int .u8 0,.int .u8 0,.int .u8 0,.int .u8 0,.int .u8 0,.int .u8 0,.int .u8 0,.int .u8 0,.int .u8 0,.int .u8 0,.int .u8 0,.int .u8 0,.int .u8 0] 93 (0,0))]] w∧U64 u_3∧True) ?_ ?_
 ·
  refine Dx (mV (k:=sV aw (k:=Dw ?_)))
  refine ciV h (λhb5 h=>?_) (λhb5 h=>?_)
  ·
   refine DA ?_
   refine mV (k:=sV BG (k:=aV (k:=?_)))
   exact Dz λw hw=>⟨(wu64 (0 - (wu64 n))),h,slK,hw,(rI _),trivial⟩
  exact DC λw hw=>⟨(wu64 n),h,slK,hw,(rI _),trivial⟩
 rintro σ w ⟨u_3,h,hsl,hw,hr4,-⟩
 refine slV hsl hw [_] ?_; clear hw hsl
 refine Dy (DD ?_)
 refine DO h (λ(s:Int×Int×(List UInt8)) σ w=>match s with | (at_6,u_8,x10) => ∃(row11:Rowb),slots σ [(0,ii n),(3,(pq g1)),(4,ii at_6),(5,.int .u64 u_8)]∧CC F Γ [row11] w∧I64 at_6∧U64 u_8∧x10.length=20∧Own au Γ 93 row11 (some ⟨g1,0,none⟩) 20 x10∧True) ?_ ?_
 ·
  intro w hw
  exact⟨[(g1,.cells #[.int .u8 0,.int .u8 0,.int .u8 0,.int .u8 0,.int .u8 0,.int .u8 0,.int .u8 0,.int .u8 0,.int .u8 0,.int .u8 0,.int .u8 0,.int .u8 0,.int .u8 0,.int .u8 0,.int .u8 0,.int .u8 0,.int .u8 0,.int .u8 0,.int .u8 0,.int .u8 0] 93 (0,0))],slK,hw,iV,hr4,List.length_replicate,ho2,trivial⟩
 rintro f14 ⟨at_6,u_8,x10⟩ σ w h ⟨row11,hsl,hw,hr7,hr9,hn13,ho12,-⟩
 refine slV hsl hw [_] ?_; clear hw hsl
 refine Dy (Dx (mV (k:=sV cW (k:=mV (k:=vG0 (h:=λhg18=>moV) (k:=vG0 (h:=λhg19=>bx rfl (grV hg19)) (k:=sV pkO (k:=?_))))))))
 refine Dw ?_
 refine ciV h (λhb20 h=>?_) (λhb20 h=>?_)
 ·
  refine DC (wc_ (DD (Dx (mV (k:=sV iK (k:=aV (k:=Dw ?_)))))))
  refine Dx (mV (k:=mV (k:=sV (BO rfl rfl rfl (by decide)) (k:=sV bN (k:=sV (gZ Eu Et) (k:=?_))))))
  obtain⟨hk21,h⟩:=af h
  refine sV (yB underlying93 Es rfl rfl rfl hk21) (k:=?_)
  refine qA (T:=au) (q:=(w64 (at_6 - 1)).toNat) (v:=.int .u8 (wu8 (wu64 (48+(u_8.tmod 10))))) (y:=(b8 (wu8 (wu64 (48+(u_8.tmod 10)))))) rfl rfl rfl rfl (by kernel_rfl) Es (by exact(by show [Value.int .u8 (wu8 (wu64 (48+(u_8.tmod 10))))] = [Value.int .u8 _]; rw [qq (zB _)])) (i:=0) rfl ho12 (ltq (aq hk21) hn13.symm) ?_
  intro row22 ho23
  refine Dw ?_
  refine DA ?_
  refine mV (k:=sV (Dn rfl rfl rfl (by decide)) (k:=aV (k:=?_)))
  exact Dz λw hw=>⟨((w64 (at_6 - 1)),(wu64 (u_8.tdiv 10)),(List.set x10 ((w64 (at_6 - 1)).toNat) (b8 (wu8 (wu64 (48+(u_8.tmod 10))))))),h,row22,slK,hw,(ep _),(rI _),(List.length_set.trans hn13),ho23,trivial⟩
 refine DE ?_
 change WC _ _ _ _ _ _
 refine DL (λσ w => ∃(at_24:Int), ∃(x26:List UInt8), ∃(row27:Rowb),fy at_24 x26=some r∧slots σ [(3,(pq g1)),(4,ii at_24)]∧CC F Γ [row27] w∧I64 at_24∧x26.length=20∧Own au Γ 93 row27 (some ⟨g1,0,none⟩) 20 x26∧True) ?_ ?_
 ·
  refine Dx (mV (k:=sV aw (k:=Dw ?_)))
  refine ciV h (λhb30 h=>?_) (λhb30 h=>?_)
  ·
   refine Dx (mV (k:=sV iK (k:=aV (k:=Dw ?_))))
   refine DA ?_
   refine mV (k:=?_)
   obtain⟨hk31,h⟩:=af h
   refine sV (yB underlying93 Es rfl rfl rfl hk31) (k:=?_)
   refine qA (T:=au) (q:=(w64 (at_6 - 1)).toNat) (v:=.int .u8 45) (y:=(b8 45)) rfl rfl rfl rfl (by kernel_rfl) Es (by exact(by show [Value.int .u8 45] = [Value.int .u8 _]; rw [qq (by decide)])) (i:=0) rfl ho12 (ltq (aq hk31) hn13.symm) ?_
   intro row32 ho33
   exact Dz λw hw=>⟨(w64 (at_6 - 1)),(List.set x10 ((w64 (at_6 - 1)).toNat) (b8 45)),row32,h,slK,hw,(ep _),(List.length_set.trans hn13),ho33,trivial⟩
  exact DC λw hw=>⟨at_6,x10,row11,h,slK,hw,hr7,hn13,ho12,trivial⟩
 rintro σ w ⟨at_24,x26,row27,h,hsl,hw,hr25,hn29,ho28,-⟩
 refine slV hsl hw [_] ?_; clear hw hsl
 refine Dx (mV (k:=?_))
 obtain⟨hk34,h⟩:=af h
 refine sV (tX (lo:=at_24.toNat) (xs:=x26) underlying93 Es rfl rfl (kz rfl hk34) hn29 (ey hk34)) (k:=sV (AK (i:=0) (lo:=at_24.toNat) rfl (ho28) Eo Eu Ek rfl rfl (Nat.le_of_eq hn29)) (k:=aV (k:=Dw ?_)))
 exact DB λw hw=>rq_ r h hF hw
theorem jH{gp__0:Nat}(p__1:ByteArray)(hp__1:p__1.size≤lim)(p__2:Int)(hp__2:I64 p__2)(gen:Int)(hgen:I64 gen)(part:Int)(hpart:I64 part)(hs:Sat Γ w0){r:ByteArray}(h:cn p__1 p__2 gen part=some r):CQ Tryz.prog 108 #[.agg #[(pq gp__0),.string p__1,ii p__2],ii gen,ii part] w0 (.string r):=by
 refine goQ [6] func108 ntmps108 results108 hs λF hF=>?_
 refine Dx ?_
 refine bxV (v:=.agg #[(pq gp__0),.string p__1,ii p__2]) λg1=>?_
 refine aV (k:=Dw (Dy ?_))
 refine drV ?_
 refine zV (q_fl 1 qh) (k:=zV (ldV 0 En) (k:=zV (og rfl rfl rfl hp__1 (show (⟨#[46]⟩:ByteArray).size≤lim by decide)) (k:=zV moV (k:=?_))))
 obtain⟨z2,hz3,h⟩:=bnd h
 refine wc rfl rfl rfl (aH (caV call22) (λw hw=>lw (Γ:=Gh.all w) gen hgen (Sat.all w) hz3)) ?_
 obtain⟨hk4,h⟩:=af h
 obtain⟨hk5,h⟩:=af h
 refine zV (og rfl rfl rfl (DP hk4) (DP hk5)) (k:=?_)
 obtain⟨hk6,h⟩:=af h
 refine zV (og rfl rfl rfl (DP hk6) (show (⟨#[46]⟩:ByteArray).size≤lim by decide)) (k:=zV moV (k:=?_))
 obtain⟨z7,hz8,h⟩:=bnd h
 refine wc rfl rfl rfl (aH (caV call22) (λw hw=>lw (Γ:=Gh.all w) part hpart (Sat.all w) hz8)) ?_
 obtain⟨hk9,h⟩:=af h
 obtain⟨hk10,h⟩:=af h
 refine zV (og rfl rfl rfl (DP hk9) (DP hk10)) (k:=zV aoV (k:=?_))
 refine DJ ?_
 change WC _ _ _ _ _ _
 exact DB λw hw=>rq_ r h hF hw
abbrev ph(gl:Nat)(el:Nat×Nat)(edk0:Nat)(r:ai×a6×(List (List UInt8)))(U:List Rowb)(Γ:Gh)(v:Value):Prop := ∃(rowl':Rowb), ∃(rowdk0':Rowb), ∃(A0:Option Addr), ∃(c0:Nat), ∃(row0:Rowb),v = .slice A0 r.2.2.length c0∧U = [rowl',rowdk0',row0]∧ai.ob el Γ gl rowl' r.1∧a6.ob edk0 Γ el.2 rowdk0' r.2.1∧Own (slT au) Γ 89 row0 A0 c0 r.2.2∧True
theorem pG{gl:Nat}{el:Nat×Nat}{rowl:Rowb}{l:ai}(hl:ai.ob el Γ gl rowl l){edk0:Nat}{rowdk0:Rowb}{dk0:a6}(hdk0:a6.ob edk0 Γ el.2 rowdk0 dk0)(hp:Pre [rowl,rowdk0] Γ w0){r:ai×a6×(List (List UInt8))}(h:fN l dk0=some r):Calls Tryz.prog 73 #[(pq gl)] w0 (Outc Γ [rowl,rowdk0] w0 (ph gl el edk0 r)):=by
 refine goV [2] func73 ntmps73 results73 hp λF hF=>?_
 refine Dx (aV (k:=Dw (Dx (aV (k:=Dw ?_)))))
 refine DL (λσ w => ∃(out_3:List (List UInt8)), ∃(o8:ai), ∃(o11:a6), ∃(Γ1:Gh), ∃(A4:Option Addr), ∃(c5:Nat), ∃(row6:Rowb), ∃(row9:Rowb), ∃(row12:Rowb),cM out_3 o8 o11=some r∧slots σ [(0,(pq gl)),(3,.slice A4 out_3.length c5)]∧CC F Γ1 [row6,row9,row12] w∧Gh.le Γ Γ1∧Own (slT au) Γ1 89 row6 A4 c5 out_3∧ai.ob el Γ1 gl row9 o8∧a6.ob edk0 Γ1 el.2 row12 o11∧True) ?_ ?_
 ·
  refine Dx (aV (k:=Dw (DD ?_)))
  refine DO h (λ(s:(List (List UInt8))×Bool×ai×a6) σ w=>match s with | (out_16,whole_21,o22,o25) => ∃(Γ14:Gh), ∃(A17:Option Addr), ∃(c18:Nat), ∃(row19:Rowb), ∃(row23:Rowb), ∃(row26:Rowb),slots σ [(0,(pq gl)),(3,.slice A17 out_16.length c18),(4,.bool whole_21)]∧CC F Γ14 [row19,row23,row26] w∧Gh.le Γ Γ14∧Own (slT au) Γ14 89 row19 A17 c18 out_16∧ai.ob el Γ14 gl row23 o22∧a6.ob edk0 Γ14 el.2 row26 o25∧True) ?_ ?_
  ·
   intro w hw
   have hw:=hw.pad
   exact⟨Γ,none,0,[],rowl,rowdk0,slK,hw,gR,(Own.nil (slT au) _ 89),hl,hdk0,trivial⟩
  rintro f28 ⟨out_16,whole_21,o22,o25⟩ σ w h ⟨Γ14,A17,c18,row19,row23,row26,hsl,hw,hl15,ho20,ho24,ho27,-⟩
  refine slV hsl hw [_,_,_] ?_; clear hw hsl
  refine Dy (Dx (mV (k:=mV (k:=vG1 (h:=λhg32=>moV) (k:=vG1 (h:=λhg33=>nlV (hv:=grV hg33)) (k:=vG1 (h:=λhg34=>q_fl 4 iQ rfl (grV hg34)) (k:=?_)))))))
  obtain⟨hrow_36,ho0_36,ho1_36,ho2_36,ho3_36,ho4_36,ho5_36,ho6_36,-⟩:=id ho24
  refine ufR 1 hrow_36 [_,_,_] ?_
  refine vG1 (h:=λhg37=>ldV 0 EH (hx:=grV hg37)) (k:=vG1 (h:=λhg38=>aw rfl (grV hg38)) (k:=sV pkA (k:=Dw ?_)))
  refine ciV h (λhb39 h=>?_) (λhb39 h=>?_)
  ·
   refine DC (wc_ (DD (Dy ?_)))
   refine drV ?_
   refine zV moV (k:=zV nlV (k:=zV (q_fl 0 i6) (k:=zV (ldaV 0 [.pointer (some ⟨el.2,0,none⟩),.string o22.place_name,ii o22.place_gen] EC ED) (k:=zV moV (k:=zV nlV (k:=zV (q_fl 0 i6) (k:=zV (q_fl 2 pY) (k:=?_))))))))
   refine zV (ldV 0 EH) (k:=zV moV (k:=zV nlV (k:=zV (q_fl 4 iQ) (k:=zV (ldV 0 EH) (k:=zV bN (k:=?_))))))
   obtain⟨z40,hz41,h⟩:=bnd h
   refine wc rfl rfl rfl (aH (caV call108) (λw hw=>jH (Γ:=Gh.all w) (gp__0:=el.2) o22.place_name ho0_36 o22.place_gen ho1_36 o22.place_gen ho1_36 (w64 (o22.last+1)) (ep _) (Sat.all w) hz41)) (zV aoV (k:=?_))
   refine DJ ?_
   change WC _ _ _ _ _ _
   refine Dx (mV (k:=sV nlV (k:=sV (q_fl 0 i6) (k:=sV (q_fl 0 ia) (k:=sV (ldV 0 EB) (k:=mV (k:=?_)))))))
   obtain⟨hk42,h⟩:=af h
   obtain⟨z43,hz44,h⟩:=bnd h
   refine ecV [2] (caV call83) (λw hp=>iS ho27 z40 (DP hk42) hp hz44) ?_
   rintro Γ45 _ _ hl46 ⟨A49,c50,row51,rfl,rfl,hr52,_⟩
   refine cwV 41 [_,_,_,_] (mV (k:=sV exV (k:=sV exV (k:=aV (k:=aV (k:=Dw (Dy ?_)))))))
   refine Dx (mV (k:=sV bb (k:=Dw ?_)))
   refine ciV h (λhb53 h=>?_) (λhb53 h=>?_)
   ·
    refine DE ?_
    intro w hw
    have hw:=hw.fold (is:=[2]) rfl hrow_36
    exact⟨out_16,o22,o25,Γ45,A17,c18,row19,row23,row26,h,slK,(hw.on [3,0,0]),(hl15.trans hl46),(ho20.mono hl46),(ho24.mono hl46),(ho27.mono hl46),trivial⟩
   refine DC (wc_ (Dx (mV (k:=?_))))
   have hc59:=hr52.capz
   refine seR 1 [_,_,_,_] λΓ55 hl56 hr57=>?_
   have hs58:=hr52.sl hl56 hr57
   obtain⟨z60,hz61,h⟩:=bnd h
   refine ecV [] (caV call103) (λw hp=>qt hs58 hc59 hp hz61) ?_
   rintro Γ62 _ _ hl63 ⟨A66,c67,row68,rfl,rfl,hr69,hr70,hr71,_⟩
   refine cwV 48 [_,_,_,_,_] (mV (k:=sV exV (k:=sV exV (k:=sV exV (k:=aV (k:=aV (k:=aV (k:=?_))))))))
   refine Dw (Dx (mV (k:=mV (k:=sV (ab rfl Eo) (k:=sV cW (k:=aV (k:=Dw ?_)))))))
   refine Dx (mV (k:=sV nlV (k:=sV (q_fl 0 i6) (k:=sV (ldaV 3 [.pointer (some ⟨el.2,0,none⟩),.string o22.place_name,ii o22.place_gen] EC ED) (k:=mV (k:=mV (k:=?_)))))))
   obtain⟨z72,hz73,h⟩:=bnd h
   refine ecV [1] (caV call69) (λw hp=>ie (gp__0:=el.2) o22.place_name ho0_36 o22.place_gen ho1_36 z40 (DP hk42) z60.2.1 hr70 (ho27.mono ((hl46.trans hl56).trans hl63)) hp hz73) ?_
   rintro Γ74 _ _ hl75 ⟨row78,rfl,rfl,hr79,_⟩
   refine cwV 62 [_,_,_,_,_] (Dw (Dx (mV (k:=mV (k:=?_)))))
   obtain⟨hk80,h⟩:=af h
   refine apV 4 z60.1 xi (ho20.mono (((hl46.trans hl56).trans hl63).trans hl75)) (DP hk80) (λw hw=>pu (i:=1) rfl (hr69.mono hl75) hw) ?_
   intro row81 A82 c83 ho84
   refine aV (k:=Dw (Dx (mV (k:=mV (k:=mV (k:=sV nlV (k:=sV (q_fl 4 iQ) (k:=?_))))))))
   refine sV (ldV 3 EH) (k:=sV bN (k:=mV (k:=sV nlV (k:=sV (q_fl 4 iQ) (k:=stV 3 (ii (w64 (o22.last+1))) #[.pointer (some ⟨el.2,0,none⟩),.string o22.place_name,ii o22.place_gen,ii o22.size,ii (w64 (o22.last+1)),ii o22.tail,ii o22.count,ii o22.bytes] EG (k:=sV nlV (k:=sV (q_fl 5 qn) (k:=?_))))))))
   refine stV 3 (ii z60.2.1) #[.pointer (some ⟨el.2,0,none⟩),.string o22.place_name,ii o22.place_gen,ii o22.size,ii (w64 (o22.last+1)),ii z60.2.1,ii o22.count,ii o22.bytes] Ey (k:=Dw ?_)
   refine DA ?_
   refine mV (k:=sV nlV (k:=sV (q_fl 7 np) (k:=sV (ldV 3 Ez) (k:=mV (k:=sV bN (k:=sV nlV (k:=sV (q_fl 7 np) (k:=?_))))))))
   refine stV 3 (ii (w64 (o22.bytes+z60.2.1))) #[.pointer (some ⟨el.2,0,none⟩),.string o22.place_name,ii o22.place_gen,ii o22.size,ii (w64 (o22.last+1)),ii z60.2.1,ii o22.count,ii (w64 (o22.bytes+z60.2.1))] Ey (k:=?_)
   refine Dz ?_
   intro w hw
   obtain⟨row_85,hrow_85,hob_85⟩:∃rw:Rowb,rw=([[(gl,.cells #[.pointer (some ⟨el.2,0,none⟩),.string o22.place_name,ii o22.place_gen,ii o22.size,ii (w64 (o22.last+1)),ii z60.2.1,ii o22.count,ii (w64 (o22.bytes+z60.2.1))] el.1 (0,0))]]:List Rowb).flatten∧ai.ob el Γ74 gl rw (⟨o22.place_name,o22.place_gen,o22.size,(w64 (o22.last+1)),z60.2.1,o22.count,(w64 (o22.bytes+z60.2.1))⟩:ai):=⟨_,rfl,rfl,ho0_36,ho1_36,ho2_36,(ep _),hr70,ho5_36,(ep _),trivial⟩
   have hw:=hw.fold (is:=[3]) rfl hrow_85
   exact⟨((out_16++z60.1),(z60.2.1==(z43.1.length:Int)),(⟨o22.place_name,o22.place_gen,o22.size,(w64 (o22.last+1)),z60.2.1,o22.count,(w64 (o22.bytes+z60.2.1))⟩:ai),z72),h,Γ74,A82,c83,row81,row_85,row78,slK,(hw.on [4,0,0]),((((hl15.trans hl46).trans hl56).trans hl63).trans hl75),ho84,hob_85,hr79,trivial⟩
  refine DE ?_
  intro w hw
  have hw:=hw.fold (is:=[0]) rfl hrow_36
  exact⟨out_16,o22,o25,Γ14,A17,c18,row19,row23,row26,h,slK,(hw.on [1,0,0]),hl15,ho20,ho24,ho27,trivial⟩
 rintro σ w ⟨out_3,o8,o11,Γ1,A4,c5,row6,row9,row12,h,hsl,hw,hl2,ho7,ho10,ho13,-⟩
 refine slV hsl hw [_,_,_] ?_; clear hw hsl
 refine Dx (mV (k:=mV (k:=sV (ab rfl Ev) (k:=sV nlV (k:=sV (q_fl 6 qb) (k:=?_))))))
 obtain⟨hrow_87,ho0_87,ho1_87,ho2_87,ho3_87,ho4_87,ho5_87,ho6_87,-⟩:=id ho10
 refine ufR 1 hrow_87 [_,_,_] ?_
 refine stV 0 (ii (out_3.length:Int)) #[.pointer (some ⟨el.2,0,none⟩),.string o8.place_name,ii o8.place_gen,ii o8.size,ii o8.last,ii o8.tail,ii (out_3.length:Int),ii o8.bytes] Ey (k:=Dw (Dx (mV (k:=aV (k:=Dw ?_)))))
 refine DB ?_
 intro w hw
 obtain⟨row_88,hrow_88,hob_88⟩:∃rw:Rowb,rw=([[(gl,.cells #[.pointer (some ⟨el.2,0,none⟩),.string o8.place_name,ii o8.place_gen,ii o8.size,ii o8.last,ii o8.tail,ii (out_3.length:Int),ii o8.bytes] el.1 (0,0))]]:List Rowb).flatten∧ai.ob el Γ1 gl rw (⟨o8.place_name,o8.place_gen,o8.size,o8.last,o8.tail,(out_3.length:Int),o8.bytes⟩:ai):=⟨_,rfl,rfl,ho0_87,ho1_87,ho2_87,ho3_87,ho4_87,(lS ho7.le),ho6_87,trivial⟩
 have hw:=hw.fold (is:=[0]) rfl hrow_88
 cases h
 subst hF
 exact aI (is:=[0,1,0]) (by kernel_rfl) hw rfl ⟨row_88,row12,A4,c5,row6,rfl,rfl,hob_88,ho13,ho7,trivial⟩
abbrev qX(gb0:Nat)(gb0v:Nat)(eb0v:Nat×Nat)(b0v:ai)(rowb0v:Rowb)(r:Bool)(U:List Rowb)(Γ:Gh)(v:Value):Prop:=v = .bool r∧U = [[(gb0,.cells #[.pointer (some ⟨gb0v,0,none⟩)] 83 (0,0))],rowb0v]∧True
theorem qS(a0:Int)(ha0:I64 a0)(n:Int)(hn:I64 n){gb0:Nat}{gb0v:Nat}{eb0v:Nat×Nat}{rowb0v:Rowb}{b0v:ai}(hb0v:ai.ob eb0v Γ gb0v rowb0v b0v)(hp:Pre [[(gb0,.cells #[(pq gb0v)] 83 (0,0))],rowb0v] Γ w0){r:Bool}(h:gS a0 n b0v=some r):Calls Tryz.prog 74 #[ii a0,ii n,(pq gb0)] w0 (Outc Γ [[(gb0,.cells #[(pq gb0v)] 83 (0,0))],rowb0v] w0 (qX gb0 gb0v eb0v b0v rowb0v r)):=by
 refine goV [5] func74 ntmps74 results74 hp λF hF=>?_
 refine Dx (aV (k:=Dw (Dx (mV (k:=sV (ldV 0 isAgg83) (k:=sV nlV (k:=sV (q_fl 4 iQ) (k:=?_))))))))
 obtain⟨hrow_1,ho0_1,ho1_1,ho2_1,ho3_1,ho4_1,ho5_1,ho6_1,-⟩:=id hb0v
 refine ufR 1 hrow_1 [_,_] ?_
 refine sV (ldV 0 EH) (k:=sV bx (k:=aV (k:=Dw ?_)))
 refine DB ?_
 intro w hw
 have hw:=hw.fold (is:=[0]) rfl hrow_1
 exact re_ r [1,0] h hF hw ⟨rfl,rfl,trivial⟩
abbrev qd(gd:Nat)(ed:Nat)(r:a6)(U:List Rowb)(Γ:Gh)(v:Value):Prop := ∃(rowd':Rowb),v = .tuple #[]∧U = [rowd']∧a6.ob ed Γ gd rowd' r∧True
theorem l4{gd ed:Nat}{rowd:Rowb}{d:a6}(hd:a6.ob ed Γ gd rowd d)(hp:Pre [rowd] Γ w0){r:a6}(h:ga d=some r):Calls Tryz.prog 75 #[(pq gd)] w0 (Outc Γ [rowd] w0 (qd gd ed r)):=by
 refine goV [] func75 ntmps75 results75 hp λF hF=>?_
 refine Dx (mV (k:=mV (k:=sV nlV (k:=sV (q_fl 2 kp) (k:=?_)))))
 obtain⟨m1_1,r1_1,m2_1,r2_1,A3_1,c3_1,r3_1,hrow_1,ho0_1,ho1_1,ho2_1,ho3_1,-⟩:=id hd
 refine ufR 0 hrow_1 [_,_,_,_] ?_
 refine sV (ldV 0 isAgg64) (k:=?_)
 refine AR zk (i:=2) rfl ho2_1 rfl rfl (caV call109) ?_
 intro g2 row3 hm4
 refine cwV 7 [_,_,_,_,_] (sV nlV (k:=sV (q_fl 1 zn) (k:=stV 1 (.map (some g2)) #[ii d.room,.map (some g2),.map (some m2_1),.slice A3_1 d.loose.length c3_1] sizeOf64 (k:=Dw ?_))))
 refine DA ?_
 refine mV (k:=sV nlV (k:=sV (q_fl 3 mK) (k:=stV 1 (.slice none 0 0) #[ii d.room,.map (some g2),.map (some m2_1),.slice none 0 0] sizeOf65 (k:=?_))))
 refine Dz ?_
 intro w hw
 have hw:=hw.pad
 obtain⟨row_5,hrow_5,hob_5⟩:∃rw:Rowb,rw=([[(gd,.cells #[ii d.room,.map (some g2),.map (some m2_1),.slice none 0 0] ed (0,0))],row3,r2_1,[]]:List Rowb).flatten∧a6.ob ed Γ gd rw (⟨d.room,d.seen,d.seen,[]⟩:a6):=⟨_,rfl,g2,row3,m2_1,r2_1,none,0,[],rfl,ho0_1,hm4,ho2_1,(Own.nil jb Γ 214),trivial⟩
 have hw:=hw.fold (is:=[2,1,2,0]) rfl hrow_5
 cases h
 subst hF
 exact aI (is:=[0]) (by kernel_rfl) hw rfl ⟨row_5,rfl,rfl,hob_5,trivial⟩
abbrev sK(gd:Nat)(ed:Nat)(r:a6×(Option ai)×(List (List UInt8))×Int)(U:List Rowb)(Γ:Gh)(v:Value):Prop := ∃(rowd':Rowb), ∃(g0:Nat), ∃(row0:Rowb), ∃(A1:Option Addr), ∃(c1:Nat), ∃(row1:Rowb),v = .tuple #[optp r.2.1 g0,.slice A1 r.2.2.1.length c1,.int .i64 r.2.2.2]∧U = [rowd',row0,row1]∧a6.ob ed Γ gd rowd' r.1∧xd (ai.ob (133,gd) Γ g0) row0 r.2.1∧Own (slT au) Γ 89 row1 A1 c1 r.2.2.1∧I64 r.2.2.2∧True
theorem sH{gd ed:Nat}{rowd:Rowb}{d:a6}(hd:a6.ob ed Γ gd rowd d)(name:ByteArray)(hname:name.size≤lim)(size:Int)(hsize:I64 size)(hp:Pre [rowd] Γ w0){r:a6×(Option ai)×(List (List UInt8))×Int}(h:gG d name size=some r):Calls Tryz.prog 39 #[(pq gd),.string name,ii size] w0 (Outc Γ [rowd] w0 (sK gd ed r)):=by
 refine goV [6,7,8] func39 ntmps39 results39 hp λF hF=>?_
 refine Dx (aV (k:=aV (k:=aV (k:=Dw (Dy (Dx (mV (k:=?_))))))))
 refine sV (bg rfl Ek) (k:=sV aw (k:=mV (k:=vG0 (h:=λhg1=>moV) (k:=vG0 (h:=λhg2=>bg rfl Ek (grV hg2)) (k:=vG0 (h:=λhg3=>bx rfl (grV hg3)) (k:=sV pkO (k:=mV (k:=?_))))))))
 refine vG0 (h:=λhg4=>moV) (k:=?_)
 obtain⟨z6,hz7,h⟩:=bnd h
 refine vC0 (h:=λhg5=>aH (aC call66 rfl rfl (dX (grV hg5) rfl)) (λw hw=>om (Γ:=Gh.all w) name hname (Sat.all w) (bU hz7 hg5))) (k:=sV pkO (k:=Dw ?_))
 refine ciV h (λhb8 h=>?_) (λhb8 h=>?_)
 ·
  refine Dx (aV (k:=aV (k:=aV (k:=Dw ?_))))
  refine DB ?_
  intro w hw
  have hw:=hw.pad
  have hw:=hw.pad
  exact re_ r [2,1,0] h hF hw ⟨rowd,0,[],none,0,[],rfl,rfl,hd,rfl,(Own.nil (slT au) _ 89),iV,trivial⟩
 refine DC (wc_ (Dx (mV (k:=mV (k:=sV (aA (v:=.agg #[(pq gd),.string name,ii 0]) rfl (dJ rfl rfl) (λw=>by kernel_rfl)) (k:=?_))))))
 refine alV zeroValue124 λg9=>?_
 refine stV 0 (.agg #[(pq gd),.string name,ii 0]) #[(pq gd),.string name,ii 0] ED (k:=Dw (Dx (sV (ldaV 0 [(pq gd),.string name,ii 0] EC ED) (k:=?_))))
 obtain⟨z10,hz11,h⟩:=bnd h
 refine ecV [1] (caV call67) (λw hp=>t_seglog_place_holds (gp__0:=gd) name hname 0 iV hd hp hz11) ?_
 rintro Γ12 _ _ hl13 ⟨rfl,rfl,hr16,hr17,hr18,_⟩
 refine cwV 33 [_,_] (mV (k:=sV exV (k:=sV exV (k:=sV exV (k:=?_)))))
 refine alV zeroValue2 λg19=>?_
 refine stV 0 (ii z10.1) #[ii z10.1] EG (k:=aV (k:=aV (k:=Dw (Dy (Dx (mV (k:=sV bj (k:=?_))))))))
 refine Dw ?_
 refine ciV h (λhb20 h=>?_) (λhb20 h=>?_)
 ·
  refine Dx (mV (k:=aV (k:=aV (k:=aV (k:=Dw ?_)))))
  refine DB ?_
  intro w hw
  have hw:=hw.pad
  have hw:=hw.pad
  exact re_ r [3,1,0] h hF hw ⟨rowd,0,[],none,0,[],rfl,rfl,(hd.mono hl13),rfl,(Own.nil (slT au) _ 89),hr18,trivial⟩
 refine DC (wc_ (Dx (sV (ldV 0 EH) (k:=sV (q_fl 2 pY) (k:=stV 2 (ii z10.1) #[(pq gd),.string name,ii z10.1] EG (k:=Dw (Dx ?_)))))))
 refine mV (k:=?_)
 obtain⟨z21,hz22,h⟩:=bnd h
 refine vqV (caV call68) (λw hw=>kB (Γ:=Gh.all w) ((hd.mono hl13).mono hw.sat.le_all) (hw.ra 1 rfl) (Sat.all w) hz22) (k:=aV (k:=Dw (Dy ?_)))
 refine leV λh023=>?_
 refine db (CC F Γ12 [[(g19,.cells #[ii z10.1] 2 (0,0))],[(g9,.cells #[(pq gd),.string name,ii z10.1] 124 (0,0))]]) (bo_ [0,1] gR h023) λk=>?_
 change WH _ _ _ _ (CC F Γ12 [_,_,_]) _ 5 _ _
 refine hV 0 k (q:=ldaV 1 [(pq gd),.string name,ii z10.1] EC ED) (k:=hV 1 k (q:=ldaV 1 [(pq gd),.string name,ii z10.1] EC ED) (k:=hV 3 k (q:=moV) (k:=wl_ 2 rfl ?_)))
 obtain⟨z24,hz25,h⟩:=bnd h
 refine vqV (caV call70) (λw hw=>jG (Γ:=Gh.all w) (gp__0:=gd) name hname z10.1 hr16 (Sat.all w) hz25) (k:=?_)
 refine Dz (nxV (bo_ [0,1] gR h023) λk=>?_)
 refine wl_ 4 rfl ?_
 obtain⟨hk26,h⟩:=af h
 obtain⟨z27,hz28,h⟩:=bnd h
 refine ecV [1] (caV call69) (λw hp=>ie (gp__0:=gd) name hname z10.1 hr16 z24 (DP hk26) z10.2.1 hr17 (hd.mono hl13) hp hz28) ?_
 rintro Γ29 _ _ hl30 ⟨row33,rfl,rfl,hr34,_⟩
 refine cwV 48 [_,_,_] ?_
 refine Dz (nxV (bo_ [1,1] hl30 h023) λk=>?_)
 refine DH (by kernel_rfl) ?_
 change WC _ _ _ _ _ _
 refine Dx (sV (ldaV 2 [(pq gd),.string name,ii z10.1] EC ED) (k:=sV (bQ (v:=.func (.func 72) #[] #[(pq g19)]) rfl (by kernel_rfl)) (k:=?_)))
 obtain⟨rowT35,hT36⟩:∃r:Rowb,r=([[(g19,.cells #[ii z10.1] 2 (0,0))]]:List Rowb).flatten:=⟨_,rfl⟩
 refine WR.sub (λw hw=>hw.fold (is:=[1]) rfl hT36) ?_
 obtain⟨z37,hz38,h⟩:=bnd h
 refine ecV [1,0] (caV call71) (λw hp=>iN (caps:=#[(pq g19)]) hr34 name hname z10.1 hr16 (λx y=>fB x y z10.1) (λ{Γq_ wq_} x hx y hy hle hp2 {_} hq=>Calls.mono (qO (Γ:=Γq_) x hx y hy z10.1 hr16 (by subst hT36; exact hp2.parts) hq) (λe w2 ho=>Outc.quiet (by subst hT36; exact hp2.parts) ho (λ_ _ _ hr=>⟨hr.1,hr.2.1⟩))) call72 hp hz38) ?_
 rintro Γ39 _ _ hl40 ⟨row43,rfl,rfl,hd44⟩
 refine cwV 51 [_,_,_] ?_
 refine WR.sub (λw hw=>hw.unfold (i:=1) rfl hT36) ?_
 change WR _ _ _ (CC F Γ39 [_,_,_]) _ _ _
 refine Dw (Dx (sV (ldaV 2 [(pq gd),.string name,ii z10.1] EC ED) (k:=mV (k:=sV vz (k:=sV (aA (v:=.agg #[(pq gd),.string name,ii z10.1,ii (max size 16),ii 0,ii 0,ii 0,ii 0]) rfl (dJ rfl rfl) (λw=>by kernel_rfl)) (k:=?_))))))
 refine bxV (v:=.agg #[(pq gd),.string name,ii z10.1,ii (max size 16),ii 0,ii 0,ii 0,ii 0]) λg45=>?_
 refine alV zeroValue83 λg46=>?_
 refine stV 0 ((pq g45)) #[(pq g45)] sizeOf83 (k:=Dw (Dx (sV (ldV 0 isAgg83) (k:=?_))))
 obtain⟨row_47,hrow_47,hob_47⟩:∃rw:Rowb,rw=([[(g45,.cells #[(pq gd),.string name,ii z10.1,ii (max size 16),ii 0,ii 0,ii 0,ii 0] 133 (0,0))]]:List Rowb).flatten∧ai.ob (133,gd) Γ39 g45 rw (⟨name,z10.1,(max size 16),0,0,0,0⟩:ai):=⟨_,rfl,rfl,hname,hr16,(yw hsize iV),iV,iV,iV,iV,trivial⟩
 refine foR [1] hrow_47 [_,_,_,_,_] ?_
 obtain⟨z48,hz49,h⟩:=bnd h
 refine ecV [0,2] (caV call73) (λw hp=>pG hob_47 hd44 hp hz49) ?_
 rintro Γ50 _ _ hl51 ⟨row54,row56,A58,c59,row60,rfl,rfl,hr55,hr57,hr61,_⟩
 refine cwV 58 [_,_,_,_,_,_] (aV (k:=Dw (Dx (sV (ldaV 5 [(pq gd),.string name,ii z10.1] EC ED) (k:=sV (bQ (v:=.func (.func 74) #[] #[(pq g46)]) rfl (by kernel_rfl)) (k:=?_))))))
 obtain⟨rowT62,hT63⟩:∃r:Rowb,r=([[(g46,.cells #[(pq g45)] 83 (0,0))],row54]:List Rowb).flatten:=⟨_,rfl⟩
 refine WR.sub (λw hw=>hw.fold (is:=[3,0]) rfl hT63) ?_
 obtain⟨z64,hz65,h⟩:=bnd h
 refine ecV [1,0] (caV call71) (λw hp=>iN (caps:=#[(pq g46)]) hr57 name hname z10.1 hr16 (λx y=>gS x y z48.1) (λ{Γq_ wq_} x hx y hy hle hp2 {_} hq=>Calls.mono (qS (Γ:=Γq_) x hx y hy (hr55.mono hle) (by subst hT63; exact hp2.parts) hq) (λe w2 ho=>Outc.quiet (by subst hT63; exact hp2.parts) ho (λ_ _ _ hr=>⟨hr.1,hr.2.1⟩))) call74 hp hz65) ?_
 rintro Γ66 _ _ hl67 ⟨row70,rfl,rfl,hd71⟩
 refine cwV 61 [_,_,_,_,_] ?_
 refine WR.sub (λw hw=>hw.unfold (i:=1) rfl hT63) ?_
 change WR _ _ _ (CC F Γ66 [_,_,_,_,_,_]) _ _ _
 refine Dw ?_
 refine DL (λσ w => ∃(o74:a6), ∃(Γ72:Gh), ∃(row75:Rowb),eL z48 o74=some r∧slots σ [(14,(pq g46)),(15,.slice A58 z48.2.2.length c59)]∧CC F Γ72 [[(g46,.cells #[(pq g45)] 83 (0,0))],row54,row75,row60] w∧Gh.le Γ66 Γ72∧a6.ob ed Γ72 gd row75 o74∧True) ?_ ?_
 ·
  refine Dx (mV (k:=?_))
  obtain⟨z77,hz78,h⟩:=bnd h
  refine vqV (caV call68) (λw hw=>kB (Γ:=Gh.all w) (hd71.mono hw.sat.le_all) (hw.ra 2 rfl) (Sat.all w) hz78) (k:=mV (k:=sV bj (k:=Dw ?_)))
  refine ciV h (λhb79 h=>?_) (λhb79 h=>?_)
  ·
   refine DA ?_
   refine mV (k:=?_)
   obtain⟨z80,hz81,h⟩:=bnd h
   refine ecV [2] (caV call75) (λw hp=>l4 hd71 hp hz81) ?_
   rintro Γ82 _ _ hl83 ⟨row86,rfl,rfl,hr87,_⟩
   refine cwV 67 [_,_,_,_,_,_] ?_
   exact Dz λw hw=>⟨z80,Γ82,row86,h,slK,(hw.on [1,1,0,0]),hl83,hr87,trivial⟩
  exact DC λw hw=>⟨z64,Γ66,row70,h,slK,(hw.on [0,0,0,0]),gR,hd71,trivial⟩
 rintro σ w ⟨o74,Γ72,row75,h,hsl,hw,hl73,ho76,-⟩
 refine slV hsl hw [_,_,_,_] ?_; clear hw hsl
 refine Dx (sV (ldV 0 isAgg83) (k:=mV (k:=aV (k:=aV (k:=aV (k:=Dw ?_))))))
 exact DB λw hw=>re_ r [2,1,1] h hF hw ⟨row75,g45,row54,A58,c59,row60,rfl,rfl,ho76,(hr55.mono (hl67.trans hl73)),(hr61.mono (hl67.trans hl73)),iV,trivial⟩
theorem sC{Ab:Option Addr}{cb:Nat}{b:List UInt8}(hb:Sl au Γ Ab b)(hbc:b.length≤cb)(at_:Int)(hat_:I64 at_)(most:Int)(hmost:I64 most)(hs:Sat Γ w0){r:ByteArray×Int×Int}(h:ou b at_ most=some r):CQ Tryz.prog 150 #[.slice Ab b.length cb,ii at_,ii most] w0 (.tuple #[.string r.1,ii r.2.1,ii r.2.2]):=by
 refine goQ [6,7,8] func150 ntmps150 results150 hs λF hF=>?_
 refine Dx (aV (k:=aV (k:=aV (k:=Dw (Dx (mV (k:=mV (k:=?_))))))))
 obtain⟨z1,hz2,h⟩:=bnd h
 refine vqV (caV call104) (λw hw=>kY (Γ:=Gh.all w) (hb.mono hw.sat.le_all) hbc at_ hat_ (Sat.all w) hz2) (k:=mV (k:=sV exV (k:=sV exV (k:=sV exV (k:=aV (k:=aV (k:=aV (k:=?_))))))))
 refine Dw (Dy (DD (Dx (mV (k:=sV bj (k:=aV (k:=Dw ?_)))))))
 refine ciV h (λhb3 h=>?_) (λhb3 h=>?_)
 ·
  refine Dx (mV (k:=aV (k:=aV (k:=aV (k:=Dw ?_)))))
  exact DB λw hw=>by obtain rfl:=Option.some.inj h; exact⟨by kernel_rfl,fr_ hF hw⟩
 refine Dx (mV (k:=mV (k:=sV vz (k:=sV bx (k:=aV (k:=Dw ?_))))))
 refine ciV h (λhb4 h=>?_) (λhb4 h=>?_)
 ·
  refine Dx (aV (k:=aV (k:=aV (k:=Dw ?_))))
  exact DB λw hw=>by obtain rfl:=Option.some.inj h; exact⟨by kernel_rfl,fr_ hF hw⟩
 refine Dx (mV (k:=mV (k:=sV (ab rfl Eo) (k:=mV (k:=sV iK (k:=sV bx (k:=aV (k:=?_))))))))
 refine Dw ?_
 refine ciV h (λhb5 h=>?_) (λhb5 h=>?_)
 ·
  refine Dx (aV (k:=aV (k:=aV (k:=Dw ?_))))
  exact DB λw hw=>by obtain rfl:=Option.some.inj h; exact⟨by kernel_rfl,fr_ hF hw⟩
 refine DC (wc_ (Dx (mV (k:=mV (k:=mV (k:=mV (k:=sV bN (k:=?_))))))))
 obtain⟨hk6,h⟩:=af h
 obtain⟨hk7,h⟩:=af h
 obtain⟨hk8,h⟩:=af h
 refine sV (vp (c:=cb) (lo:=z1.2.1.toNat) (hi:=(w64 (z1.2.1+z1.1)).toNat) (xs:=b) Eo Es rfl rfl (yt rfl hk7) (kz rfl hk6) (DP hk8) (ey hk6) hbc) (k:=sV (Co (hb.cut (cap:=cb) (lo:=z1.2.1.toNat) (hi:=(w64 (z1.2.1+z1.1)).toNat) (DP hk8) (ey hk6) hbc) Eo Eu Ek rfl rfl) (k:=mV (k:=mV (k:=sV bN (k:=aV (k:=aV (k:=aV (k:=?_))))))))
 refine Dw ?_
 exact DB λw hw=>by obtain rfl:=Option.some.inj h; exact⟨by kernel_rfl,fr_ hF hw⟩
abbrev nT(gr_:Nat)(er_:Nat)(r:a7×ByteArray)(U:List Rowb)(Γ:Gh)(v:Value):Prop := ∃(rowr_':Rowb),v = .string r.2∧U = [rowr_']∧a7.ob er_ Γ gr_ rowr_' r.1∧r.2.size≤lim∧True
theorem eS{gr_ er_:Nat}{rowr_:Rowb}{r_:a7}(hr_:a7.ob er_ Γ gr_ rowr_ r_)(hp:Pre [rowr_] Γ w0){r:Option (a7×ByteArray)}(h:cC r_=some r):Calls Tryz.prog 111 #[(pq gr_)] w0 (jK [{ v:=(.iface 179 (.agg #[])),recovered:=false }] Γ [rowr_] w0 (λr=>nT gr_ er_ r) r):=by
 refine goV [2] func111 ntmps111 results111 hp λF hF=>?_
 refine Dx (aV (k:=Dw (Dy ?_)))
 obtain⟨A0_1,c0_1,hrow_1,ho0_1,ho1_1,ho2_1,-⟩:=id hr_
 refine ufC 0 hrow_1 [_] ?_
 refine drV ?_
 refine zV moV (k:=zV nlV (k:=zV (q_fl 0 fC) (k:=zV (ldV 0 Ex) (k:=zV moV (k:=zV nlV (k:=zV (q_fl 1 cU) (k:=zV (ldV 0 Ez) (k:=?_))))))))
 refine zV moV (k:=zV nlV (k:=zV (q_fl 0 fC) (k:=zV (ldV 0 Ex) (k:=zV (ab rfl Eo) (k:=?_)))))
 obtain⟨z2,hz3,h⟩:=bnd h
 refine wc rfl rfl rfl (aH (caV call150) (λw hw=>sC (Γ:=Gh.all w) (ho1_1.mono hw.sat.le_all) ho0_1 r_.at_ ho2_1 (r_.b.length:Int) (lS ho1_1.le) (Sat.all w) hz3)) (zV moV (k:=zV exV (k:=zV exV (k:=zV exV (k:=zV aoV (k:=zV aoV (k:=zV aoV (k:=?_))))))))
 refine DJ ?_
 change WC _ _ _ _ _ _
 refine foC [0] hrow_1 [_] ?_
 refine DL (λσ w=>dD r_ z2  = some r∧slots σ [(0,(pq gr_)),(3,.string z2.1),(4,ii z2.2.1)]∧CC F Γ [rowr_] w∧True) ?_ ?_
 ·
  refine Dx (mV (k:=sV bj (k:=Dw ?_)))
  refine ciV h (λhb5 h=>?_) (λhb5 h=>?_)
  ·
   refine DA ?_
   refine sV (dH (v:=.agg #[]) rfl (λw=>by kernel_rfl)) (k:=sV (fQ rfl rfl (λw=>mkif EI w)) (k:=?_))
   refine fK (v:=.iface 179 (.agg #[])) rfl (bC rfl rfl) ?_
   intro w hw
   cases h
   subst hF
   first | exact aE hw | exact λ_=>aE hw
  exact DC λw hw=>⟨h,slK,hw,trivial⟩
 rintro σ w ⟨h,hsl,hw,-⟩
 refine slV hsl hw [_] ?_; clear hw hsl
 refine Dx (mV (k:=mV (k:=sV nlV (k:=sV (q_fl 1 cU) (k:=?_)))))
 obtain⟨A0_8,c0_8,hrow_8,ho0_8,ho1_8,ho2_8,-⟩:=id hr_
 refine ufR 0 hrow_8 [_] ?_
 refine stV 0 (ii z2.2.1) #[.slice A0_8 r_.b.length c0_8,ii z2.2.1] Ey (k:=Dw (Dx (mV (k:=aV (k:=Dw ?_)))))
 refine DB ?_
 intro w hw
 obtain⟨hk10,h⟩:=af h
 obtain⟨row_9,hrow_9,hob_9⟩:∃rw:Rowb,rw=([[(gr_,.cells #[.slice A0_8 r_.b.length c0_8,ii z2.2.1] er_ (0,0))]]:List Rowb).flatten∧a7.ob er_ Γ gr_ rw (⟨r_.b,z2.2.1⟩:a7):=⟨_,rfl,A0_8,c0_8,rfl,ho0_8,ho1_8,(cj hk10),trivial⟩
 have hw:=hw.fold (is:=[0]) rfl hrow_9
 obtain⟨hk11,h⟩:=af h
 cases h
 subst hF
 exact aI (is:=[0]) (by kernel_rfl) hw rfl ⟨row_9,rfl,rfl,hob_9,(DP hk11),trivial⟩
abbrev oN(gr_:Nat)(er_:Nat)(r:a7×Int)(U:List Rowb)(Γ:Gh)(v:Value):Prop := ∃(rowr_':Rowb),v = .int .i64 r.2∧U = [rowr_']∧a7.ob er_ Γ gr_ rowr_' r.1∧I64 r.2∧True
theorem aF{gr_ er_:Nat}{rowr_:Rowb}{r_:a7}(hr_:a7.ob er_ Γ gr_ rowr_ r_)(hp:Pre [rowr_] Γ w0){r:Option (a7×Int)}(h:aW r_=some r):Calls Tryz.prog 151 #[(pq gr_)] w0 (jK [{ v:=(.iface 179 (.agg #[])),recovered:=false }] Γ [rowr_] w0 (λr=>oN gr_ er_ r) r):=by
 refine goV [2] func151 ntmps151 results151 hp λF hF=>?_
 refine Dx (aV (k:=Dw (Dy ?_)))
 obtain⟨A0_1,c0_1,hrow_1,ho0_1,ho1_1,ho2_1,-⟩:=id hr_
 refine ufC 0 hrow_1 [_] ?_
 refine drV ?_
 refine zV moV (k:=zV nlV (k:=zV (q_fl 0 fC) (k:=zV (ldV 0 Ex) (k:=zV moV (k:=zV nlV (k:=zV (q_fl 1 cU) (k:=zV (ldV 0 Ez) (k:=?_))))))))
 obtain⟨z2,hz3,h⟩:=bnd h
 refine wc rfl rfl rfl (aH (caV call104) (λw hw=>kY (Γ:=Gh.all w) (ho1_1.mono hw.sat.le_all) ho0_1 r_.at_ ho2_1 (Sat.all w) hz3)) (zV moV (k:=zV exV (k:=zV exV (k:=zV exV (k:=zV aoV (k:=zV aoV (k:=zV aoV (k:=?_))))))))
 refine DJ ?_
 change WC _ _ _ _ _ _
 refine foC [0] hrow_1 [_] ?_
 refine DL (λσ w=>ea r_ z2  = some r∧slots σ [(0,(pq gr_)),(3,ii z2.1),(4,ii z2.2.1)]∧CC F Γ [rowr_] w∧True) ?_ ?_
 ·
  refine Dx (mV (k:=sV bj (k:=Dw ?_)))
  refine ciV h (λhb5 h=>?_) (λhb5 h=>?_)
  ·
   refine DA ?_
   refine sV (dH (v:=.agg #[]) rfl (λw=>by kernel_rfl)) (k:=sV (fQ rfl rfl (λw=>mkif EI w)) (k:=?_))
   refine fK (v:=.iface 179 (.agg #[])) rfl (bC rfl rfl) ?_
   intro w hw
   cases h
   subst hF
   first | exact aE hw | exact λ_=>aE hw
  exact DC λw hw=>⟨h,slK,hw,trivial⟩
 rintro σ w ⟨h,hsl,hw,-⟩
 refine slV hsl hw [_] ?_; clear hw hsl
 refine Dx (mV (k:=mV (k:=sV nlV (k:=sV (q_fl 1 cU) (k:=?_)))))
 obtain⟨A0_8,c0_8,hrow_8,ho0_8,ho1_8,ho2_8,-⟩:=id hr_
 refine ufR 0 hrow_8 [_] ?_
 refine stV 0 (ii z2.2.1) #[.slice A0_8 r_.b.length c0_8,ii z2.2.1] Ey (k:=Dw (Dx (mV (k:=aV (k:=Dw ?_)))))
 refine DB ?_
 intro w hw
 obtain⟨hk10,h⟩:=af h
 obtain⟨row_9,hrow_9,hob_9⟩:∃rw:Rowb,rw=([[(gr_,.cells #[.slice A0_8 r_.b.length c0_8,ii z2.2.1] er_ (0,0))]]:List Rowb).flatten∧a7.ob er_ Γ gr_ rw (⟨r_.b,z2.2.1⟩:a7):=⟨_,rfl,A0_8,c0_8,rfl,ho0_8,ho1_8,(cj hk10),trivial⟩
 have hw:=hw.fold (is:=[0]) rfl hrow_9
 obtain⟨hk11,h⟩:=af h
 cases h
 subst hF
 exact aI (is:=[0]) (by kernel_rfl) hw rfl ⟨row_9,rfl,rfl,hob_9,(cj hk11),trivial⟩
abbrev pc(gr_:Nat)(er_:Nat)(r:a7×Int)(U:List Rowb)(Γ:Gh)(v:Value):Prop := ∃(rowr_':Rowb),v = .int .i64 r.2∧U = [rowr_']∧a7.ob er_ Γ gr_ rowr_' r.1∧I64 r.2∧True
theorem fL{gr_ er_:Nat}{rowr_:Rowb}{r_:a7}(hr_:a7.ob er_ Γ gr_ rowr_ r_)(hp:Pre [rowr_] Γ w0){r:Option (a7×Int)}(h:cR r_=some r):Calls Tryz.prog 152 #[(pq gr_)] w0 (jK [{ v:=(.iface 179 (.agg #[])),recovered:=false }] Γ [rowr_] w0 (λr=>pc gr_ er_ r) r):=by
 refine goV [2] func152 ntmps152 results152 hp λF hF=>?_
 refine Dx (aV (k:=Dw (Dx (mV (k:=?_)))))
 obtain⟨z1,hz2,h⟩:=bnd h
 rcases z1 with _ | o3
 ·
  have h:=bi rfl h
  refine dY (is:=[0]) rfl (caV EJ) rfl (λw hp=>aF hr_ hp hz2) ?_
  intro Γ4 hl5
  intro w hw
  cases h
  subst hF
  first | exact aE hw | exact λ_=>aE hw
 have h:=bh rfl h
 refine ecV [0] (caV EJ) (λw hp=>aF hr_ hp hz2) ?_
 rintro Γ6 _ _ hl7 ⟨row10,rfl,rfl,hr11,hr12,_⟩
 refine cwV 4 [_] (aV (k:=Dw ?_))
 refine DB ?_
 intro w hw
 cases h
 subst hF
 exact aI (is:=[0]) (by kernel_rfl) hw rfl ⟨row10,rfl,rfl,hr11,hr12,trivial⟩
abbrev oc(gr_:Nat)(er_:Nat)(r:a7×Span)(U:List Rowb)(Γ:Gh)(v:Value):Prop := ∃(rowr_':Rowb),v = .agg #[.int .i64 r.2.s,.int .i64 r.2.f,.int .i64 r.2.t]∧U = [rowr_']∧a7.ob er_ Γ gr_ rowr_' r.1∧Span.fits Γ  r.2∧True
theorem kb{gr_ er_:Nat}{rowr_:Rowb}{r_:a7}(hr_:a7.ob er_ Γ gr_ rowr_ r_)(hp:Pre [rowr_] Γ w0){r:Option (a7×Span)}(h:dt r_=some r):Calls Tryz.prog 154 #[(pq gr_)] w0 (jK [{ v:=(.iface 179 (.agg #[])),recovered:=false }] Γ [rowr_] w0 (λr=>oc gr_ er_ r) r):=by
 refine cH (N:=24) (rs:=[.cell 2 78]) (args:=[(pq gr_)]) func154 rfl ntmps154 results154 rfl ?_
 obtain⟨F,hF⟩:∃F:Fm,F=⟨ids [rowr_],w0,Γ⟩:=⟨_,rfl⟩
 refine DN (C:=CC F Γ [rowr_]) ?_ (hF▸hp.start)
 refine Dx ?_
 refine alV EK λg1=>?_
 refine Dw (Dx (mV (k:=?_)))
 obtain⟨z2,hz3,h⟩:=bnd h
 rcases z2 with _ | o4
 ·
  have h:=bi rfl h
  refine dY (is:=[1]) rfl (caV EL) rfl (λw hp=>fL hr_ hp hz3) ?_
  intro Γ5 hl6
  intro w hw
  cases h
  subst hF
  first | exact aE hw | exact λ_=>aE hw
 have h:=bh rfl h
 refine ecV [1] (caV EL) (λw hp=>fL hr_ hp hz3) ?_
 rintro Γ7 _ _ hl8 ⟨row11,rfl,rfl,hr12,hr13,_⟩
 refine cwV 5 [_,_] (sV (aA (v:=.agg #[ii o4.2,ii 0,ii 0]) rfl (iy rfl) (λw=>by kernel_rfl)) (k:=?_))
 refine alV EK λg14=>?_
 refine stV 0 (.agg #[ii o4.2,ii 0,ii 0]) #[ii o4.2,ii 0,ii 0] EM (k:=Dw (Dx (mV (k:=?_))))
 obtain⟨z15,hz16,h⟩:=bnd h
 rcases z15 with _ | o17
 ·
  have h:=bi rfl h
  refine dY (is:=[1]) rfl (caV EJ) rfl (λw hp=>aF hr12 hp hz16) ?_
  intro Γ18 hl19
  intro w hw
  cases h
  subst hF
  first | exact aE hw | exact λ_=>aE hw
 have h:=bh rfl h
 refine ecV [1] (caV EJ) (λw hp=>aF hr12 hp hz16) ?_
 rintro Γ20 _ _ hl21 ⟨row24,rfl,rfl,hr25,hr26,_⟩
 refine cwV 8 [_,_,_] (sV (q_fl 1 cB) (k:=stV 1 (ii o17.2) #[ii o4.2,ii o17.2,ii 0] EG (k:=Dw ?_)))
 refine DL (λσ w => ∃(x29:Span), ∃(o31:a7), ∃(Γ27:Gh), ∃(row32:Rowb),dG x29 o31=some r∧slots σ [(2,(pq g1)),(3,(pq g14))]∧CC F Γ27 [row32,[(g14,.cells (Span.cs x29).toArray 78 (0,0))],[(g1,.cells #[ii 0,ii 0,ii 0] 78 (0,0))]] w∧Gh.le Γ20 Γ27∧Span.fits Γ27  x29∧a7.ob er_ Γ27 gr_ row32 o31∧True) ?_ ?_
 ·
  refine leV λh034=>?_
  refine db (CC F Γ20 [[(g1,.cells #[ii 0,ii 0,ii 0] 78 (0,0))]]) (bo_ [2] gR h034) λk=>?_
  change WH _ _ _ _ (CC F Γ20 [_,_,_]) _ 7 _ _
  refine hV 0 k (q:=q_fl 1 cB) (k:=hV 2 k (q:=moV) (k:=?_))
  obtain⟨z35,hz36,h⟩:=bnd h
  refine WH.each (l:=[1,3]) (by kernel_rfl) (by simp) ?_
  intro i hi; simp only [DX,List.not_mem_nil,or_false] at hi
  rcases hi with rfl | rfl
  ·
   refine⟨_,rfl,?_⟩
   refine sV (ldV 1 EH) (k:=?_)
   refine Dz (nxV (bo_ [2] gR h034) λk=>?_)
   refine wl_ 3 rfl ?_
   rcases z35 with _ | o37
   ·
    have h:=bi rfl h
    refine dY (is:=[0]) rfl (caV EJ) rfl (λw hp=>aF hr25 hp hz36) ?_
    intro Γ38 hl39
    intro w hw
    cases h
    subst hF
    first | exact aE hw | exact λ_=>aE hw
   have h:=bh rfl h
   refine ecV [0] (caV EJ) (λw hp=>aF hr25 hp hz36) ?_
   rintro Γ40 _ _ hl41 ⟨row44,rfl,rfl,hr45,hr46,_⟩
   refine cwV 13 [_,_,_] ?_
   refine Dz (nxV (bo_ [2] hl41 h034) λk=>?_)
   refine hV 4 k (q:=bN) (k:=hV 5 k (q:=q_fl 2 bK) (k:=wl_ 6 rfl (stV 1 (ii (w64 (o17.2+o37.2))) #[ii o4.2,ii o17.2,ii (w64 (o17.2+o37.2))] EG (k:=?_))))
   refine Dz (nxV (bo_ [2] hl41 h034) λk=>?_)
   refine DH (by kernel_rfl) ?_
   intro w hw
   exact⟨(⟨o4.2,o17.2,(w64 (o17.2+o37.2))⟩:Span),o37.1,Γ40,row44,h,slK,hw,hl41,⟨hr13,hr26,(ep _)⟩,hr45,trivial⟩
  refine⟨_,rfl,?_⟩
  rcases z35 with _ | o37
  ·
   have h:=bi rfl h
   refine dY (is:=[0]) rfl (caV EJ) rfl (λw hp=>aF hr25 hp hz36) ?_
   intro Γ38 hl39
   intro w hw
   cases h
   subst hF
   first | exact aE hw | exact λ_=>aE hw
  have h:=bh rfl h
  refine ecV [0] (caV EJ) (λw hp=>aF hr25 hp hz36) ?_
  rintro Γ40 _ _ hl41 ⟨row44,rfl,rfl,hr45,hr46,_⟩
  refine cwV 13 [_,_,_] ?_
  refine Dz (nxV (bo_ [2] hl41 h034) λk=>?_)
  refine wl_ 1 rfl (sV (ldV 1 EH) (k:=?_))
  refine Dz (nxV (bo_ [2] hl41 h034) λk=>?_)
  refine hV 4 k (q:=bN) (k:=hV 5 k (q:=q_fl 2 bK) (k:=wl_ 6 rfl (stV 1 (ii (w64 (o17.2+o37.2))) #[ii o4.2,ii o17.2,ii (w64 (o17.2+o37.2))] EG (k:=?_))))
  refine Dz (nxV (bo_ [2] hl41 h034) λk=>?_)
  refine DH (by kernel_rfl) ?_
  intro w hw
  exact⟨(⟨o4.2,o17.2,(w64 (o17.2+o37.2))⟩:Span),o37.1,Γ40,row44,h,slK,hw,hl41,⟨hr13,hr26,(ep _)⟩,hr45,trivial⟩
 rintro σ w ⟨x29,o31,Γ27,row32,h,hsl,hw,hl28,hf30,ho33,-⟩
 refine slV hsl hw [_,_,_] ?_; clear hw hsl
 refine DL (λσ w=>dF x29 o31  = some r∧slots σ [(2,(pq g1)),(3,(pq g14))]∧CC F Γ27 [row32,[(g14,.cells (Span.cs x29).toArray 78 (0,0))],[(g1,.cells #[ii 0,ii 0,ii 0] 78 (0,0))]] w∧True) ?_ ?_
 ·
  refine Dx (sV (q_fl 2 bK) (k:=sV (ldV 1 EH) (k:=sV (q_fl 1 cB) (k:=sV (ldV 1 EH) (k:=sV aw (k:=Dw ?_))))))
  refine ciV h (λhb47 h=>?_) (λhb47 h=>?_)
  ·
   refine DA ?_
   refine sV (dH (v:=.agg #[]) rfl (λw=>by kernel_rfl)) (k:=sV (fQ rfl rfl (λw=>mkif EI w)) (k:=?_))
   refine fK (v:=.iface 179 (.agg #[])) rfl (bC rfl rfl) ?_
   intro w hw
   cases h
   subst hF
   first | exact aE hw | exact λ_=>aE hw
  exact DC λw hw=>⟨h,slK,hw,trivial⟩
 rintro σ w ⟨h,hsl,hw,-⟩
 refine slV hsl hw [_,_,_] ?_; clear hw hsl
 refine Dx (sV (ldaV 1 (Span.cs x29) EN EM) (k:=stV 2 (.agg (Span.cs x29).toArray) (Span.cs x29).toArray EM (k:=Dw ?_)))
 refine DB ?_
 intro w hw
 cases h
 subst hF
 exact⟨[.agg (Span.cs x29).toArray],(dL (i:=2) (us:=(Span.cs x29)) hw rfl EN EM (by kernel_rfl) rfl dK),aI (is:=[0]) (by kernel_rfl) hw rfl ⟨row32,rfl,rfl,ho33,hf30,trivial⟩⟩
abbrev mE(gr_:Nat)(er_:Nat)(r:a7×(List Span))(U:List Rowb)(Γ:Gh)(v:Value):Prop := ∃(rowr_':Rowb), ∃(A0:Option Addr), ∃(c0:Nat), ∃(row0:Rowb),v = .slice A0 r.2.length c0∧U = [rowr_',row0]∧a7.ob er_ Γ gr_ rowr_' r.1∧Own bW Γ 78 row0 A0 c0 r.2∧True
theorem jm{gr_ er_:Nat}{rowr_:Rowb}{r_:a7}(hr_:a7.ob er_ Γ gr_ rowr_ r_)(hp:Pre [rowr_] Γ w0){r:Option (a7×(List Span))}(h:cL r_=some r):Calls Tryz.prog 153 #[(pq gr_),.func (.func 154) #[(pq gr_)] #[]] w0 (jK [{ v:=(.iface 179 (.agg #[])),recovered:=false }] Γ [rowr_] w0 (λr=>mE gr_ er_ r) r):=by
 refine goV [4] func153 ntmps153 results153 hp λF hF=>?_
 refine Dx (aV (k:=Dw (Dx (mV (k:=?_)))))
 obtain⟨z1,hz2,h⟩:=bnd h
 rcases z1 with _ | o3
 ·
  have h:=bi rfl h
  refine dY (is:=[0]) rfl (caV EJ) rfl (λw hp=>aF hr_ hp hz2) ?_
  intro Γ4 hl5
  intro w hw
  cases h
  subst hF
  first | exact aE hw | exact λ_=>aE hw
 have h:=bh rfl h
 refine ecV [0] (caV EJ) (λw hp=>aF hr_ hp hz2) ?_
 rintro Γ6 _ _ hl7 ⟨row10,rfl,rfl,hr11,hr12,_⟩
 refine cwV 8 [_] (aV (k:=Dw ?_))
 refine DL (λσ w=>cV o3  = some r∧slots σ [(1,.func (.func 154) #[(pq gr_)] #[]),(5,ii o3.2)]∧CC F Γ6 [row10] w∧True) ?_ ?_
 ·
  refine Dy ?_
  obtain⟨A0_13,c0_13,hrow_13,ho0_13,ho1_13,ho2_13,-⟩:=id hr11
  refine ufC 0 hrow_13 [_] ?_
  refine drV ?_
  refine zV moV (k:=zV moV (k:=zV nlV (k:=zV (q_fl 0 fC) (k:=zV (ldV 0 Ex) (k:=zV (ab rfl Eo) (k:=zV moV (k:=zV nlV (k:=?_))))))))
  refine zV (q_fl 1 cU) (k:=zV (ldV 0 Ez) (k:=zV iK (k:=zV bx (k:=?_))))
  refine DJ ?_
  change WC _ _ _ _ _ _
  refine ciV h (λhb14 h=>?_) (λhb14 h=>?_)
  ·
   refine DA ?_
   refine sV (dH (v:=.agg #[]) rfl (λw=>by kernel_rfl)) (k:=sV (fQ rfl rfl (λw=>mkif EI w)) (k:=?_))
   refine fK (v:=.iface 179 (.agg #[])) rfl (bC rfl rfl) ?_
   intro w hw
   cases h
   subst hF
   first | exact aE hw | exact λ_=>aE hw
  refine DC ?_
  intro w hw
  have hw:=hw.fold (is:=[0]) rfl hrow_13
  exact⟨h,slK,hw,trivial⟩
 rintro σ w ⟨h,hsl,hw,-⟩
 refine slV hsl hw [_] ?_; clear hw hsl
 refine Dx (aV (k:=Dw (Dy (Dx (mV (k:=mV (k:=Dw ?_)))))))
 refine DD ?_
 refine WC.forU h (λ(i29:Nat) (s:(List Span)×a7) σ w=>match s with | (out_20,o25) => ∃(Γ18:Gh), ∃(A21:Option Addr), ∃(c22:Nat), ∃(row23:Rowb), ∃(row26:Rowb),slots σ [(1,.func (.func 154) #[(pq gr_)] #[]),(6,.slice A21 out_20.length c22),(23,ii o3.2),(24,ii (i29:Int))]∧CC F Γ18 [row23,row26] w∧Gh.le Γ6 Γ18∧Own bW Γ18 78 row23 A21 c22 out_20∧a7.ob er_ Γ18 gr_ row26 o25∧True) ?_ ?_
 ·
  intro w hw
  have hw:=hw.pad
  exact⟨Γ6,none,0,[],row10,slK,hw,gR,(Own.nil bW _ 78),hr11,trivial⟩
 rintro f28 i29 ⟨out_20,o25⟩ σ w hi30 hlt31 hge32 ⟨Γ18,A21,c22,row23,row26,hsl,hw,hl19,ho24,ho27,-⟩
 refine slV hsl hw [_,_] ?_; clear hw hsl
 refine Dx (sV aw (k:=Dw (Dy ?_)))
 refine coV (λhb33=>?_) (λhb33=>?_)
 ·
  have hl34:=ilti hb33
  have h:=hlt31 hl34
  refine DC (wc_ (Dy (DD ?_)))
  refine DA ?_
  refine mV (k:=mU (v:=.func (.func 154) #[(pq gr_)] #[]) (k:=?_))
  obtain⟨z35,hz36,h⟩:=bnd h
  rcases z35 with _ | o37
  ·
   have h:=bi rfl h
   refine dY (is:=[1]) rfl (bp (first:=#[(pq gr_)]) call154 rfl (by kernel_rfl) (by kernel_rfl)) rfl (λw hp=>kb ho27 hp hz36) ?_
   intro Γ38 hl39
   intro w hw
   cases h
   subst hF
   first | exact aE hw | exact λ_=>aE hw
  have h:=bh rfl h
  refine ecV [1] (bp (first:=#[(pq gr_)]) call154 rfl (by kernel_rfl) (by kernel_rfl)) (λw hp=>kb ho27 hp hz36) ?_
  rintro Γ40 _ _ hl41 ⟨row44,rfl,rfl,hr45,hr46,_⟩
  refine cwV 28 [_,_] ?_
  refine bsV (Span.cs o37.2).toArray 78 λg47=>?_
  obtain⟨hk48,h⟩:=af h
  refine apV 2 [o37.2] lx (ho24.mono hl41) (DP hk48) (λw hw=>br (i:=0) rfl (by exact⟨rfl,hr46⟩) hw) ?_
  intro row49 A50 c51 ho52
  refine aV (k:=?_)
  refine Dz ?_
  change WC _ _ _ _ _ _
  refine DA ?_
  refine sV (am rfl rfl rfl (pi hl34 hr12)) (k:=mV (k:=?_))
  exact Dz λw hw=>⟨hl34,((out_20++[o37.2]),o37.1),h,Γ40,A50,c51,row49,row44,slK,(hw.on [2,1]),(hl19.trans hl41),ho52,hr45,trivial⟩
 have h:=hge32 (igei hb33)
 refine DE ?_
 change WC _ _ _ _ _ _
 refine Dx (mV (k:=aV (k:=Dw ?_)))
 refine DB ?_
 intro w hw
 cases h
 subst hF
 exact aI (is:=[1,0]) (by kernel_rfl) hw rfl ⟨row26,A21,c22,row23,rfl,rfl,ho27,ho24,trivial⟩
abbrev pm(gr_:Nat)(er_:Nat)(r:a7×Ver)(U:List Rowb)(Γ:Gh)(v:Value):Prop := ∃(rowr_':Rowb), ∃(A0_2:Option Addr), ∃(c0_2:Nat),v = .agg #[.int .i64 r.2.dot.s,.int .i64 r.2.dot.n,.slice A0_2 r.2.past.length c0_2,.bool r.2.gone,.string r.2.val]∧U = [rowr_']∧a7.ob er_ Γ gr_ rowr_' r.1∧Ver.fits Γ A0_2 c0_2 r.2∧True
theorem kx{gr_ er_:Nat}{rowr_:Rowb}{r_:a7}(hr_:a7.ob er_ Γ gr_ rowr_ r_)(hp:Pre [rowr_] Γ w0){r:Option (a7×Ver)}(h:e7 r_=some r):Calls Tryz.prog 113 #[(pq gr_)] w0 (jK [{ v:=(.iface 179 (.agg #[])),recovered:=false }] Γ [rowr_] w0 (λr=>pm gr_ er_ r) r):=by
 refine cH (N:=30) (rs:=[.cell 2 72]) (args:=[(pq gr_)]) func113 rfl ntmps113 results113 rfl ?_
 obtain⟨F,hF⟩:∃F:Fm,F=⟨ids [rowr_],w0,Γ⟩:=⟨_,rfl⟩
 refine DN (C:=CC F Γ [rowr_]) ?_ (hF▸hp.start)
 refine Dx ?_
 refine alV EO λg1=>?_
 refine Dw (Dx (mV (k:=?_)))
 obtain⟨z2,hz3,h⟩:=bnd h
 rcases z2 with _ | o4
 ·
  have h:=bi rfl h
  refine dY (is:=[1]) rfl (caV EL) rfl (λw hp=>fL hr_ hp hz3) ?_
  intro Γ5 hl6
  intro w hw
  cases h
  subst hF
  first | exact aE hw | exact λ_=>aE hw
 have h:=bh rfl h
 refine ecV [1] (caV EL) (λw hp=>fL hr_ hp hz3) ?_
 rintro Γ7 _ _ hl8 ⟨row11,rfl,rfl,hr12,hr13,_⟩
 refine cwV 5 [_,_] (sV (aA (v:=.agg #[ii o4.2,ii 0]) rfl (iy rfl) (λw=>by kernel_rfl)) (k:=sV (aA (v:=.agg #[ii o4.2,ii 0,.slice none 0 0,.bool false,.string ByteArray.empty]) rfl (iy rfl) (λw=>by kernel_rfl)) (k:=?_)))
 refine alV EO λg14=>?_
 refine stV 0 (.agg #[ii o4.2,ii 0,.slice none 0 0,.bool false,.string ByteArray.empty]) #[ii o4.2,ii 0,.slice none 0 0,.bool false,.string ByteArray.empty] EP (k:=Dw (Dx (mV (k:=?_))))
 obtain⟨z15,hz16,h⟩:=bnd h
 rcases z15 with _ | o17
 ·
  have h:=bi rfl h
  refine dY (is:=[1]) rfl (caV EJ) rfl (λw hp=>aF hr12 hp hz16) ?_
  intro Γ18 hl19
  intro w hw
  cases h
  subst hF
  first | exact aE hw | exact λ_=>aE hw
 have h:=bh rfl h
 refine ecV [1] (caV EJ) (λw hp=>aF hr12 hp hz16) ?_
 rintro Γ20 _ _ hl21 ⟨row24,rfl,rfl,hr25,hr26,_⟩
 refine cwV 9 [_,_,_] (sV (q_fl 0 aG) (k:=sV (q_fl 1 cy) (k:=stV 1 (ii o17.2) #[ii o4.2,ii o17.2,.slice none 0 0,.bool false,.string ByteArray.empty] EG (k:=Dw (Dx (mV (k:=mV (k:=?_))))))))
 refine sV (bQ (v:=.func (.func 154) #[(pq gr_)] #[]) rfl (by kernel_rfl)) (k:=?_)
 obtain⟨z27,hz28,h⟩:=bnd h
 rcases z27 with _ | o29
 ·
  have h:=bi rfl h
  refine dY (is:=[0]) rfl (caV call153) rfl (λw hp=>jm hr25 hp hz28) ?_
  intro Γ30 hl31
  intro w hw
  cases h
  subst hF
  first | exact aE hw | exact λ_=>aE hw
 have h:=bh rfl h
 refine ecV [0] (caV call153) (λw hp=>jm hr25 hp hz28) ?_
 rintro Γ32 _ _ hl33 ⟨row36,A38,c39,row40,rfl,rfl,hr37,hr41,_⟩
 refine cwV 15 [_,_,_,_] (sV (q_fl 2 aN) (k:=stV 2 (.slice A38 o29.2.length c39) #[ii o4.2,ii o17.2,.slice A38 o29.2.length c39,.bool false,.string ByteArray.empty] EQ (k:=Dw ?_)))
 refine DL (λσ w => ∃(x44:Bool), ∃(x45:ByteArray), ∃(o47:a7), ∃(Γ42:Gh), ∃(row48:Rowb),cP o4 o17 o29 x44 x45 o47=some r∧slots σ [(2,(pq g1)),(3,(pq g14))]∧CC F Γ42 [row48,row40,[(g14,.cells #[ii o4.2,ii o17.2,.slice A38 o29.2.length c39,.bool x44,.string x45] 72 (0,0))],[(g1,.cells #[ii 0,ii 0,.slice none 0 0,.bool false,.string ByteArray.empty] 72 (0,0))]] w∧Gh.le Γ32 Γ42∧x45.size≤lim∧a7.ob er_ Γ42 gr_ row48 o47∧True) ?_ ?_
 ·
  refine Dx (mV (k:=?_))
  obtain⟨z50,hz51,h⟩:=bnd h
  rcases z50 with _ | o52
  ·
   have h:=bi rfl h
   refine dY (is:=[0]) rfl (caV EJ) rfl (λw hp=>aF hr37 hp hz51) ?_
   intro Γ53 hl54
   intro w hw
   cases h
   subst hF
   first | exact aE hw | exact λ_=>aE hw
  have h:=bh rfl h
  refine ecV [0] (caV EJ) (λw hp=>aF hr37 hp hz51) ?_
  rintro Γ55 _ _ hl56 ⟨row59,rfl,rfl,hr60,hr61,_⟩
  refine cwV 18 [_,_,_,_] (Dw (DD (Dx (sV cW (k:=aV (k:=Dw ?_))))))
  refine ciV h (λhb62 h=>?_) (λhb62 h=>?_)
  ·
   refine DA ?_
   refine mV (k:=?_)
   obtain⟨z63,hz64,h⟩:=bnd h
   rcases z63 with _ | o65
   ·
    have h:=bi rfl h
    refine dY (is:=[0]) rfl (caV ER) rfl (λw hp=>eS hr60 hp hz64) ?_
    intro Γ66 hl67
    intro w hw
    cases h
    subst hF
    first | exact aE hw | exact λ_=>aE hw
   have h:=bh rfl h
   refine ecV [0] (caV ER) (λw hp=>eS hr60 hp hz64) ?_
   rintro Γ68 _ _ hl69 ⟨row72,rfl,rfl,hr73,hr74,_⟩
   refine cwV 24 [_,_,_,_] (sV (q_fl 4 ec) (k:=stV 2 (.string o65.2) #[ii o4.2,ii o17.2,.slice A38 o29.2.length c39,.bool false,.string o65.2] EF (k:=?_)))
   exact Dz λw hw=>⟨false,o65.2,o65.1,Γ68,row72,h,slK,hw,(hl56.trans hl69),hr74,hr73,trivial⟩
  refine Dx (sV cW (k:=aV (k:=Dw ?_)))
  refine ciV h (λhb75 h=>?_) (λhb75 h=>?_)
  ·
   refine DA ?_
   refine sV (q_fl 3 gF) (k:=stV 2 (.bool true) #[ii o4.2,ii o17.2,.slice A38 o29.2.length c39,.bool true,.string ByteArray.empty] sizeOf4 (k:=?_))
   exact Dz λw hw=>⟨true,ByteArray.empty,o52.1,Γ55,row59,h,slK,hw,hl56,(show (ByteArray.empty:ByteArray).size≤lim by decide),hr60,trivial⟩
  refine DA ?_
  refine sV (dH (v:=.agg #[]) rfl (λw=>by kernel_rfl)) (k:=sV (fQ rfl rfl (λw=>mkif EI w)) (k:=?_))
  refine fK (v:=.iface 179 (.agg #[])) rfl (bC rfl rfl) ?_
  intro w hw
  cases h
  subst hF
  first | exact aE hw | exact λ_=>aE hw
 rintro σ w ⟨x44,x45,o47,Γ42,row48,h,hsl,hw,hl43,hr46,ho49,-⟩
 refine slV hsl hw [_,_,_,_] ?_; clear hw hsl
 refine Dx (sV (ldaV 2 [ii o4.2,ii o17.2,.slice A38 o29.2.length c39,.bool x44,.string x45] ES EP) (k:=stV 3 (.agg #[ii o4.2,ii o17.2,.slice A38 o29.2.length c39,.bool x44,.string x45]) #[ii o4.2,ii o17.2,.slice A38 o29.2.length c39,.bool x44,.string x45] EP (k:=Dw ?_)))
 refine DB ?_
 intro w hw
 have hc82:=(hr41.mono hl43).capz
 obtain⟨Γ78,hw,hl79,hr80⟩:=hw.seal (i:=1) rfl; have hs81:=(hr41.mono hl43).sl hl79 hr80
 cases h
 subst hF
 exact⟨[.agg #[ii o4.2,ii o17.2,.slice A38 o29.2.length c39,.bool x44,.string x45]],(dL (i:=3) (us:=[ii o4.2,ii o17.2,.slice A38 o29.2.length c39,.bool x44,.string x45]) hw rfl ES EP (by kernel_rfl) rfl dK),aI (is:=[0]) (by kernel_rfl) hw rfl ⟨row48,A38,c39,rfl,rfl,(ho49.mono hl79),⟨hr13,hr26,⟨hc82,hs81⟩,hr46⟩,trivial⟩⟩
abbrev nF(gr_:Nat)(er_:Nat)(r:a7×(List Ver))(U:List Rowb)(Γ:Gh)(v:Value):Prop := ∃(rowr_':Rowb), ∃(A0:Option Addr), ∃(c0:Nat), ∃(row0:Rowb),v = .slice A0 r.2.length c0∧U = [rowr_',row0]∧a7.ob er_ Γ gr_ rowr_' r.1∧Own verT Γ 72 row0 A0 c0 r.2∧True
theorem jI{gr_ er_:Nat}{rowr_:Rowb}{r_:a7}(hr_:a7.ob er_ Γ gr_ rowr_ r_)(hp:Pre [rowr_] Γ w0){r:Option (a7×(List Ver))}(h:d4 r_=some r):Calls Tryz.prog 112 #[(pq gr_),.func (.func 113) #[(pq gr_)] #[]] w0 (jK [{ v:=(.iface 179 (.agg #[])),recovered:=false }] Γ [rowr_] w0 (λr=>nF gr_ er_ r) r):=by
 refine goV [4] func112 ntmps112 results112 hp λF hF=>?_
 refine Dx (aV (k:=Dw (Dx (mV (k:=?_)))))
 obtain⟨z1,hz2,h⟩:=bnd h
 rcases z1 with _ | o3
 ·
  have h:=bi rfl h
  refine dY (is:=[0]) rfl (caV EJ) rfl (λw hp=>aF hr_ hp hz2) ?_
  intro Γ4 hl5
  intro w hw
  cases h
  subst hF
  first | exact aE hw | exact λ_=>aE hw
 have h:=bh rfl h
 refine ecV [0] (caV EJ) (λw hp=>aF hr_ hp hz2) ?_
 rintro Γ6 _ _ hl7 ⟨row10,rfl,rfl,hr11,hr12,_⟩
 refine cwV 8 [_] (aV (k:=Dw ?_))
 refine DL (λσ w=>d8 o3  = some r∧slots σ [(1,.func (.func 113) #[(pq gr_)] #[]),(5,ii o3.2)]∧CC F Γ6 [row10] w∧True) ?_ ?_
 ·
  refine Dy ?_
  obtain⟨A0_13,c0_13,hrow_13,ho0_13,ho1_13,ho2_13,-⟩:=id hr11
  refine ufC 0 hrow_13 [_] ?_
  refine drV ?_
  refine zV moV (k:=zV moV (k:=zV nlV (k:=zV (q_fl 0 fC) (k:=zV (ldV 0 Ex) (k:=zV (ab rfl Eo) (k:=zV moV (k:=zV nlV (k:=?_))))))))
  refine zV (q_fl 1 cU) (k:=zV (ldV 0 Ez) (k:=zV iK (k:=zV bx (k:=?_))))
  refine DJ ?_
  change WC _ _ _ _ _ _
  refine ciV h (λhb14 h=>?_) (λhb14 h=>?_)
  ·
   refine DA ?_
   refine sV (dH (v:=.agg #[]) rfl (λw=>by kernel_rfl)) (k:=sV (fQ rfl rfl (λw=>mkif EI w)) (k:=?_))
   refine fK (v:=.iface 179 (.agg #[])) rfl (bC rfl rfl) ?_
   intro w hw
   cases h
   subst hF
   first | exact aE hw | exact λ_=>aE hw
  refine DC ?_
  intro w hw
  have hw:=hw.fold (is:=[0]) rfl hrow_13
  exact⟨h,slK,hw,trivial⟩
 rintro σ w ⟨h,hsl,hw,-⟩
 refine slV hsl hw [_] ?_; clear hw hsl
 refine Dx (aV (k:=Dw (Dy (Dx (mV (k:=mV (k:=Dw ?_)))))))
 refine DD ?_
 refine WC.forU h (λ(i29:Nat) (s:(List Ver)×a7) σ w=>match s with | (out_20,o25) => ∃(Γ18:Gh), ∃(A21:Option Addr), ∃(c22:Nat), ∃(row23:Rowb), ∃(row26:Rowb),slots σ [(1,.func (.func 113) #[(pq gr_)] #[]),(6,.slice A21 out_20.length c22),(23,ii o3.2),(24,ii (i29:Int))]∧CC F Γ18 [row23,row26] w∧Gh.le Γ6 Γ18∧Own verT Γ18 72 row23 A21 c22 out_20∧a7.ob er_ Γ18 gr_ row26 o25∧True) ?_ ?_
 ·
  intro w hw
  have hw:=hw.pad
  exact⟨Γ6,none,0,[],row10,slK,hw,gR,(Own.nil verT _ 72),hr11,trivial⟩
 rintro f28 i29 ⟨out_20,o25⟩ σ w hi30 hlt31 hge32 ⟨Γ18,A21,c22,row23,row26,hsl,hw,hl19,ho24,ho27,-⟩
 refine slV hsl hw [_,_] ?_; clear hw hsl
 refine Dx (sV aw (k:=Dw (Dy ?_)))
 refine coV (λhb33=>?_) (λhb33=>?_)
 ·
  have hl34:=ilti hb33
  have h:=hlt31 hl34
  refine DC (wc_ (Dy (DD ?_)))
  refine DA ?_
  refine mV (k:=mU (v:=.func (.func 113) #[(pq gr_)] #[]) (k:=?_))
  obtain⟨z35,hz36,h⟩:=bnd h
  rcases z35 with _ | o37
  ·
   have h:=bi rfl h
   refine dY (is:=[1]) rfl (bp (first:=#[(pq gr_)]) call113 rfl (by kernel_rfl) (by kernel_rfl)) rfl (λw hp=>kx ho27 hp hz36) ?_
   intro Γ38 hl39
   intro w hw
   cases h
   subst hF
   first | exact aE hw | exact λ_=>aE hw
  have h:=bh rfl h
  refine ecV [1] (bp (first:=#[(pq gr_)]) call113 rfl (by kernel_rfl) (by kernel_rfl)) (λw hp=>kx ho27 hp hz36) ?_
  rintro Γ40 _ _ hl41 ⟨row44,A46,c47,rfl,rfl,hr45,hr48,_⟩
  refine cwV 28 [_,_] ?_
  refine bsV (Ver.cs A46 c47 o37.2).toArray 72 λg49=>?_
  obtain⟨hk50,h⟩:=af h
  refine apV 2 [o37.2] lv (ho24.mono hl41) (DP hk50) (λw hw=>br (i:=0) rfl (by exact⟨A46,c47,rfl,hr48⟩) hw) ?_
  intro row51 A52 c53 ho54
  refine aV (k:=?_)
  refine Dz ?_
  change WC _ _ _ _ _ _
  refine DA ?_
  refine sV (am rfl rfl rfl (pi hl34 hr12)) (k:=mV (k:=?_))
  exact Dz λw hw=>⟨hl34,((out_20++[o37.2]),o37.1),h,Γ40,A52,c53,row51,row44,slK,(hw.on [2,1]),(hl19.trans hl41),ho54,hr45,trivial⟩
 have h:=hge32 (igei hb33)
 refine DE ?_
 change WC _ _ _ _ _ _
 refine Dx (mV (k:=aV (k:=Dw ?_)))
 refine DB ?_
 intro w hw
 cases h
 subst hF
 exact aI (is:=[1,0]) (by kernel_rfl) hw rfl ⟨row26,A21,c22,row23,rfl,rfl,ho27,ho24,trivial⟩
abbrev oS(gr_:Nat)(er_:Nat)(r:a7×Rec)(U:List Rowb)(Γ:Gh)(v:Value):Prop := ∃(rowr_':Rowb), ∃(A0_1:Option Addr), ∃(c0_1:Nat),v = .agg #[.string r.2.key,.slice A0_1 r.2.vers.length c0_1]∧U = [rowr_']∧a7.ob er_ Γ gr_ rowr_' r.1∧Rec.fits Γ A0_1 c0_1 r.2∧True
theorem kA{gr_ er_:Nat}{rowr_:Rowb}{r_:a7}(hr_:a7.ob er_ Γ gr_ rowr_ r_)(hp:Pre [rowr_] Γ w0){r:Option (a7×Rec)}(h:dT r_=some r):Calls Tryz.prog 77 #[(pq gr_)] w0 (jK [{ v:=(.iface 179 (.agg #[])),recovered:=false }] Γ [rowr_] w0 (λr=>oS gr_ er_ r) r):=by
 refine cH (N:=12) (rs:=[.cell 2 36]) (args:=[(pq gr_)]) func77 rfl ntmps77 results77 rfl ?_
 obtain⟨F,hF⟩:∃F:Fm,F=⟨ids [rowr_],w0,Γ⟩:=⟨_,rfl⟩
 refine DN (C:=CC F Γ [rowr_]) ?_ (hF▸hp.start)
 refine Dx ?_
 refine alV ET λg1=>?_
 refine Dw (Dx (mV (k:=?_)))
 obtain⟨z2,hz3,h⟩:=bnd h
 rcases z2 with _ | o4
 ·
  have h:=bi rfl h
  refine dY (is:=[1]) rfl (caV ER) rfl (λw hp=>eS hr_ hp hz3) ?_
  intro Γ5 hl6
  intro w hw
  cases h
  subst hF
  first | exact aE hw | exact λ_=>aE hw
 have h:=bh rfl h
 refine ecV [1] (caV ER) (λw hp=>eS hr_ hp hz3) ?_
 rintro Γ7 _ _ hl8 ⟨row11,rfl,rfl,hr12,hr13,_⟩
 refine cwV 5 [_,_] (aV (k:=Dw (Dx (mV (k:=mV (k:=mV (k:=sV (bQ (v:=.func (.func 113) #[(pq gr_)] #[]) rfl (by kernel_rfl)) (k:=?_))))))))
 obtain⟨z14,hz15,h⟩:=bnd h
 rcases z14 with _ | o16
 ·
  have h:=bi rfl h
  refine dY (is:=[0]) rfl (caV call112) rfl (λw hp=>jI hr12 hp hz15) ?_
  intro Γ17 hl18
  intro w hw
  cases h
  subst hF
  first | exact aE hw | exact λ_=>aE hw
 have h:=bh rfl h
 refine ecV [0] (caV call112) (λw hp=>jI hr12 hp hz15) ?_
 rintro Γ19 _ _ hl20 ⟨row23,A25,c26,row27,rfl,rfl,hr24,hr28,_⟩
 refine cwV 10 [_,_,_] (sV (aA (v:=.agg #[.string o4.2,.slice A25 o16.2.length c26]) rfl (dJ rfl rfl) (λw=>by kernel_rfl)) (k:=stV 2 (.agg #[.string o4.2,.slice A25 o16.2.length c26]) #[.string o4.2,.slice A25 o16.2.length c26] EU (k:=Dw ?_)))
 refine DB ?_
 intro w hw
 have hc33:=hr28.capz
 obtain⟨Γ29,hw,hl30,hr31⟩:=hw.seal (i:=1) rfl; have hs32:=hr28.sl hl30 hr31
 cases h
 subst hF
 exact⟨[.agg #[.string o4.2,.slice A25 o16.2.length c26]],(dL (i:=2) (us:=[.string o4.2,.slice A25 o16.2.length c26]) hw rfl EV EU (by kernel_rfl) rfl dK),aI (is:=[0]) (by kernel_rfl) hw rfl ⟨row23,A25,c26,rfl,rfl,(hr24.mono hl30),⟨hr13,⟨hc33,hs32⟩⟩,trivial⟩⟩
set_option maxRecDepth 100000 in
theorem v7(p0:Value)(p1:Value):idle Tryz.prog 110 #[p0,p1]:=by
  intro w
  refine uT (n:=13) (args:=[p0,p1]) Tryz.func110 rfl Tryz.ntmps110 Tryz.results110 (qy rfl rfl) rfl rfl rfl rfl ?_
  refine DN (C:=λw2=>w2=w) ?_ rfl
  refine DD ?_
  refine Dx ?_
  refine va rfl rfl rfl (Ay rfl rfl (λw=>xY Tryz.underlying20 w)) ?_
  refine Dz ?_
  change WC _ _ _ _ _ _
  refine WC.ctk (b:=true) (by kernel_rfl) rfl ?_
  refine DA ?_
  refine va rfl rfl rfl (ij (v:=.nilIface) rfl (by kernel_rfl)) ?_
  refine Dz ?_
  intro w2 hw
  exact⟨⟨_,rfl⟩,hw⟩
abbrev lz(gb0:Nat)(b0v0:ByteArray)(Ab0v1:Option Addr)(cb0v1:Nat)(b0v1:List Ver)(gb1:Nat)(b1v:Int)(r:ByteArray×(List Ver)×Int)(U:List Rowb)(Γ:Gh)(v:Value):Prop := ∃(Ab0_1:Option Addr), ∃(cb0_1:Nat),v = .tuple #[]∧U = [[(gb0,.cells #[.string r.1,.slice Ab0_1 r.2.1.length cb0_1] 36 (0,0))],[(gb1,.cells #[.int .i64 r.2.2] 26 (0,0))]]∧r.1.size≤lim∧r.2.1.length≤cb0_1∧Sl verT Γ Ab0_1 r.2.1∧I64 r.2.2∧True
theorem d9{gb0:Nat}(b0v0:ByteArray)(hb0v0:b0v0.size≤lim){Ab0v1:Option Addr}{cb0v1:Nat}{b0v1:List Ver}(hb0v1:Sl verT Γ Ab0v1 b0v1)(hb0v1c:b0v1.length≤cb0v1){gb1:Nat}(b1v:Int)(hb1v:I64 b1v)(hp:Pre [[(gb0,.cells #[.string b0v0,.slice Ab0v1 b0v1.length cb0v1] 36 (0,0))],[(gb1,.cells #[ii b1v] 26 (0,0))]] Γ w0){r:ByteArray×(List Ver)×Int}(h:fa b0v0 b0v1 b1v=some r):CallsD Tryz.prog 110 #[(pq gb0),(pq gb1)] (.panicking [{ v:=(.iface 179 (.agg #[])),recovered:=false }]) w0 (λe u' w'=>u' = .panicking [{ v:=(.iface 179 (.agg #[])),recovered:=true }]∧(Outc Γ [[(gb0,.cells #[.string b0v0,.slice Ab0v1 b0v1.length cb0v1] 36 (0,0))],[(gb1,.cells #[ii b1v] 26 (0,0))]] w0 (lz gb0 b0v0 Ab0v1 cb0v1 b0v1 gb1 b1v r)) e w'):=by
 refine vU (n:=13) (args:=[(pq gb0),(pq gb1)]) func110 rfl ntmps110 results110 (qy rfl rfl) rfl rfl rfl rfl ?_
 obtain⟨F,hF⟩:∃F:Fm,F=⟨ids [[(gb0,.cells #[.string b0v0,.slice Ab0v1 b0v1.length cb0v1] 36 (0,0))],[(gb1,.cells #[ii b1v] 26 (0,0))]],w0,Γ⟩:=⟨_,rfl⟩
 refine DN (C:=CC F Γ [[(gb0,.cells #[.string b0v0,.slice Ab0v1 b0v1.length cb0v1] 36 (0,0))],[(gb1,.cells #[ii b1v] 26 (0,0))]]) ?_ (hF▸hp.start)
 refine DD (Dx (sV (zO rfl rfl rfl (λw=>B6 underlying20 w)) (k:=Dw ?_)))
 refine WC.cfk (b:=false) (by kernel_rfl) rfl ?_
 refine Dx (sV (yc EI rfl rfl) (k:=sV exV (k:=sV exV (k:=Dw ?_))))
 refine WC.ctk (b:=true) (by kernel_rfl) rfl ?_
 refine Dx ?_
 refine alV zeroValue179 λg1=>?_
 refine stV 0 (.agg #[]) #[] sizeOf179 (k:=Dw (Dx ?_))
 refine alV ET λg2=>?_
 refine Dw ?_
 refine DA ?_
 refine sV (ldaV 0 [.string ByteArray.empty,.slice none 0 0] EV EU) (k:=stV 2 (.agg #[.string ByteArray.empty,.slice none 0 0]) #[.string ByteArray.empty,.slice none 0 0] EU (k:=stV 3 (ii 2) #[ii 2] sizeOf26 (k:=?_)))
 refine Dz ?_
 intro w hw
 cases h
 subst hF
 exact aI (is:=[2,2]) (by kernel_rfl) hw rfl ⟨none,0,rfl,rfl,(show (ByteArray.empty:ByteArray).size≤lim by decide),(E7 0),(Sl.nil verT _ none),iV,trivial⟩
theorem pB{Al:Option Addr}{cl:Nat}{l:List Span}(hl:Sl bW Γ Al l)(hlc:l.length≤cl)(hs:Sat Γ w0){r:Bool}(h:fj l=some r):CQ Tryz.prog 174 #[.slice Al l.length cl] w0 (.bool r):=by
 refine goQ [2] func174 ntmps174 results174 hs λF hF=>?_
 refine Dx (aV (k:=Dw (Dx (sV (dH (v:=.agg #[ii 0,ii 0,ii 0]) rfl (λw=>by kernel_rfl)) (k:=?_)))))
 refine alV EK λg1=>?_
 refine stV 0 (.agg #[ii 0,ii 0,ii 0]) #[ii 0,ii 0,ii 0] EM (k:=Dw (Dy (Dx (mV (k:=sV (ab rfl EW) (k:=mV (k:=Dw ?_)))))))
 refine DD ?_
 refine DF h (λ(i5:Nat) (x2:Span) σ w=>slots σ [(0,.slice Al l.length cl),(3,(pq g1)),(7,.slice Al l.length cl),(8,ii (l.length:Int)),(9,ii (i5:Int))]∧CC F Γ [[(g1,.cells (Span.cs x2).toArray 78 (0,0))]] w∧Span.fits Γ  x2∧True) ?_ ?_
 ·
  intro w hw
  exact⟨slK,hw,⟨iV,iV,iV⟩,trivial⟩
 rintro f4 i5 x2 σ w hi6 hlt7 hge8 ⟨hsl,hw,hf3,-⟩
 refine slV hsl hw [_] ?_; clear hw hsl
 refine Dx (sV aw (k:=Dw (Dy ?_)))
 refine coV (λhb9=>?_) (λhb9=>?_)
 ·
  have hl10:=ilt hb9
  have h:=hlt7 hl10
  refine DC (wc_ (Dy (DD (Dx (sV (ar (i:=i5) EW EM rfl rfl rfl hl10 (hl.some_ hl10)) (k:=sV (bT (c:=0) (vs:=(Span.cs (gt l i5))) (hl.spanT_at hl10).2 rfl EN EM rfl rfl rfl) (k:=?_)))))))
  refine alV EK λg11=>?_
  refine stV 0 (.agg (Span.cs (gt l i5)).toArray) (Span.cs (gt l i5)).toArray EM (k:=Dw (Dy (Dx (sV (q_fl 0 cg) (k:=sV (ldV 0 Ez) (k:=sV aw (k:=mV (k:=?_))))))))
  refine vG0 (h:=λhg12=>q_fl 0 cg) (k:=vG0 (h:=λhg13=>ldV 0 Ez (hx:=grV hg13)) (k:=vG0 (h:=λhg14=>bx rfl (grV hg14)) (k:=sV pkO (k:=mV (k:=vG0 (h:=λhg15=>q_fl 1 cB) (k:=vG0 (h:=λhg16=>ldV 0 EH (hx:=grV hg16)) (k:=vG0 (h:=λhg17=>aw rfl (grV hg17)) (k:=?_))))))))
  refine sV pkO (k:=mV (k:=vG0 (h:=λhg18=>q_fl 1 cB) (k:=vG0 (h:=λhg19=>ldV 0 EH (hx:=grV hg19)) (k:=vG0 (h:=λhg20=>q_fl 2 bK) (k:=vG0 (h:=λhg21=>ldV 0 EH (hx:=grV hg21)) (k:=vG0 (h:=λhg22=>bx rfl (grV hg22) (grV hg22)) (k:=sV pkO (k:=?_))))))))
  refine mV (k:=vG0 (h:=λhg23=>q_fl 2 bK) (k:=vG0 (h:=λhg24=>ldV 0 EH (hx:=grV hg24)) (k:=vG0 (h:=λhg25=>bx rfl (grV hg25)) (k:=sV pkO (k:=mV (k:=vG0 (h:=λhg26=>q_fl 0 cg) (k:=vG0 (h:=λhg27=>ldV 0 Ez (hx:=grV hg27)) (k:=?_))))))))
  refine vG0 (h:=λhg28=>q_fl 0 cg) (k:=vG0 (h:=λhg29=>ldV 1 Ez (hx:=grV hg29)) (k:=vG0 (h:=λhg30=>aw rfl (grV hg30) (grV hg30)) (k:=sV pkO (k:=mV (k:=vG0 (h:=λhg31=>q_fl 0 cg) (k:=vG0 (h:=λhg32=>ldV 0 Ez (hx:=grV hg32)) (k:=vG0 (h:=λhg33=>q_fl 0 cg) (k:=?_))))))))
  refine vG0 (h:=λhg34=>ldV 1 Ez (hx:=grV hg34)) (k:=vG0 (h:=λhg35=>cW rfl (grV hg35) (grV hg35)) (k:=vG0 (h:=λhg36=>b4 (v:=.bool ((gt l i5).s==x2.s)) rfl (grV hg36)) (k:=vh1 (c0:=(!((((((decide ((gt l i5).s<1))||(decide (16<(gt l i5).s)))||(decide ((gt l i5).f<1)))||(decide ((gt l i5).t<(gt l i5).f)))||(decide (4611686018427387904<(gt l i5).t)))||(decide ((gt l i5).s<x2.s))))) (g:=((gt l i5).s==x2.s)) rfl rfl rfl rfl rfl (λ_=>QV.qo (q_fl 1 cB)) (vh1 (c0:=(!((((((decide ((gt l i5).s<1))||(decide (16<(gt l i5).s)))||(decide ((gt l i5).f<1)))||(decide ((gt l i5).t<(gt l i5).f)))||(decide (4611686018427387904<(gt l i5).t)))||(decide ((gt l i5).s<x2.s))))) (g:=((gt l i5).s==x2.s)) rfl rfl rfl rfl rfl (λhg38=>QV.qo (ldV 0 EH (hx:=grV hg38))) (vh1 (c0:=(!((((((decide ((gt l i5).s<1))||(decide (16<(gt l i5).s)))||(decide ((gt l i5).f<1)))||(decide ((gt l i5).t<(gt l i5).f)))||(decide (4611686018427387904<(gt l i5).t)))||(decide ((gt l i5).s<x2.s))))) (g:=((gt l i5).s==x2.s)) rfl rfl rfl rfl rfl (λ_=>QV.qo (q_fl 2 bK)) ?_)))))
  refine vh1 (c0:=(!((((((decide ((gt l i5).s<1))||(decide (16<(gt l i5).s)))||(decide ((gt l i5).f<1)))||(decide ((gt l i5).t<(gt l i5).f)))||(decide (4611686018427387904<(gt l i5).t)))||(decide ((gt l i5).s<x2.s))))) (g:=((gt l i5).s==x2.s)) rfl rfl rfl rfl rfl (λhg40=>QV.qo (ldV 1 EH (hx:=grV hg40))) (vh1 (c0:=(!((((((decide ((gt l i5).s<1))||(decide (16<(gt l i5).s)))||(decide ((gt l i5).f<1)))||(decide ((gt l i5).t<(gt l i5).f)))||(decide (4611686018427387904<(gt l i5).t)))||(decide ((gt l i5).s<x2.s))))) (g:=((gt l i5).s==x2.s)) rfl rfl rfl rfl rfl (λhg41=>QV.qo (bN rfl (grV hg41))) (vh1 (c0:=(!((((((decide ((gt l i5).s<1))||(decide (16<(gt l i5).s)))||(decide ((gt l i5).f<1)))||(decide ((gt l i5).t<(gt l i5).f)))||(decide (4611686018427387904<(gt l i5).t)))||(decide ((gt l i5).s<x2.s))))) (g:=((gt l i5).s==x2.s)) rfl rfl rfl rfl rfl (λhg42=>QV.qo (dh rfl (grV hg42) (grV hg42))) (vG0 (h:=λhg43=>eV rfl (grV hg43) (kM (c:=(!((((((decide ((gt l i5).s<1))||(decide (16<(gt l i5).s)))||(decide ((gt l i5).f<1)))||(decide ((gt l i5).t<(gt l i5).f)))||(decide (4611686018427387904<(gt l i5).t)))||(decide ((gt l i5).s<x2.s))))) (g:=((gt l i5).s==x2.s)) (y:=(decide ((gt l i5).f≤(w64 (x2.t+1))))) hg43)) (k:=sV pkO (k:=Dw ?_)))))
  refine ciV h (λhb44 h=>?_) (λhb44 h=>?_)
  ·
   refine Dx (aV (k:=Dw ?_))
   exact DB λw hw=>rq_ r h hF hw
  refine DC (wc_ ?_)
  refine DA ?_
  refine sV (ldaV 0 (Span.cs (gt l i5)) EN EM) (k:=stV 1 (.agg (Span.cs (gt l i5)).toArray) (Span.cs (gt l i5)).toArray EM (k:=?_))
  refine Dz ?_
  change WC _ _ _ _ _ _
  refine DA ?_
  refine sV (am rfl rfl rfl (ax hl10 hl.le)) (k:=mV (k:=?_))
  exact Dz λw hw=>⟨hl10,(gt l i5),h,slK,(hw.on [1]),(hl.spanT_at hl10).1,trivial⟩
 have h:=hge8 (ige hb9)
 refine DE ?_
 change WC _ _ _ _ _ _
 refine Dx (mV (k:=sV (ab rfl EW) (k:=sV dh (k:=aV (k:=Dw ?_)))))
 exact DB λw hw=>rq_ r h hF hw
theorem w9{Al:Option Addr}{cl:Nat}{l:List Span}(hl:Sl bW Γ Al l)(hlc:l.length≤cl)(s_:Int)(hs_:I64 s_)(hs:Sat Γ w0){r:Int}(h:iX l s_=some r):CQ Tryz.prog 175 #[.slice Al l.length cl,ii s_] w0 (ii r):=by
 refine goQ [4] func175 ntmps175 results175 hs λF hF=>?_
 refine Dx (aV (k:=Dw (Dx (aV (k:=Dw (Dy (Dx ?_)))))))
 refine mV (k:=sV (ab rfl EW) (k:=mV (k:=Dw (DD ?_))))
 refine DF h (λ(i4:Nat) (top_1:Int) σ w=>slots σ [(1,ii s_),(5,ii top_1),(8,.slice Al l.length cl),(9,ii (l.length:Int)),(10,ii (i4:Int))]∧CC F Γ [] w∧I64 top_1∧True) ?_ ?_
 ·
  intro w hw
  exact⟨slK,hw,iV,trivial⟩
 rintro f3 i4 top_1 σ w hi5 hlt6 hge7 ⟨hsl,hw,hr2,-⟩
 refine slV hsl hw [] ?_; clear hw hsl
 refine Dx (sV aw (k:=Dw (Dy ?_)))
 refine coV (λhb8=>?_) (λhb8=>?_)
 ·
  have hl9:=ilt hb8
  have h:=hlt6 hl9
  refine DC (wc_ ?_)
  refine DL (λσ w => ∃(top_10:Int),gC f3 top_10=some r∧slots σ [(1,ii s_),(5,ii top_10),(8,.slice Al l.length cl),(9,ii (l.length:Int)),(10,ii (i4:Int))]∧CC F Γ [] w∧I64 top_10∧True) ?_ ?_
  ·
   refine DD (Dx (sV (ar (i:=i4) EW EM rfl rfl rfl hl9 (hl.some_ hl9)) (k:=sV (bT (c:=0) (vs:=(Span.cs (gt l i4))) (hl.spanT_at hl9).2 rfl EN EM rfl rfl rfl) (k:=?_))))
   refine alV EK λg12=>?_
   refine stV 0 (.agg (Span.cs (gt l i4)).toArray) (Span.cs (gt l i4)).toArray EM (k:=Dw (Dx (sV (q_fl 0 cg) (k:=sV (ldV 0 Ez) (k:=mV (k:=sV cW (k:=Dw ?_)))))))
   refine ciV h (λhb13 h=>?_) (λhb13 h=>?_)
   ·
    refine DA ?_
    refine mV (k:=sV (q_fl 2 bK) (k:=sV (ldV 0 EH) (k:=sV vz (k:=aV (k:=?_)))))
    exact Dz λw hw=>⟨(max top_1 (gt l i4).t),h,slK,(hw.on []),(yw hr2 (hl.spanT_at hl9).1.2.2),trivial⟩
   exact DC λw hw=>⟨top_1,h,slK,(hw.on []),hr2,trivial⟩
  rintro σ w ⟨top_10,h,hsl,hw,hr11,-⟩
  refine slV hsl hw [] ?_; clear hw hsl
  refine DA ?_
  refine sV (am rfl rfl rfl (ax hl9 hl.le)) (k:=mV (k:=?_))
  exact Dz λw hw=>⟨hl9,top_10,h,slK,hw,hr11,trivial⟩
 have h:=hge7 (ige hb8)
 refine DE ?_
 change WC _ _ _ _ _ _
 refine Dx (mV (k:=aV (k:=Dw ?_)))
 exact DB λw hw=>rq_ r h hF hw
theorem qT{Av_2:Option Addr}{cv_2:Nat}(v_:Ver)(hv_:Ver.fits Γ Av_2 cv_2 v_)(hs:Sat Γ w0){r:Bool}(h:dR v_=some r):CQ Tryz.prog 137 #[.agg (Ver.cs Av_2 cv_2 v_).toArray] w0 (.bool r):=by
 refine goQ [2] func137 ntmps137 results137 hs λF hF=>?_
 refine Dx ?_
 refine bxV (v:=.agg (Ver.cs Av_2 cv_2 v_).toArray) λg1=>?_
 refine aV (k:=Dw (Dx (sV (q_fl 0 aG) (k:=sV (q_fl 0 cN) (k:=sV (ldV 0 Ez) (k:=sV (q_fl 0 aG) (k:=sV (q_fl 1 cy) (k:=?_))))))))
 refine sV (ldV 0 EH) (k:=sV (q_fl 0 aG) (k:=sV (q_fl 1 cy) (k:=sV (ldV 0 EH) (k:=sV (aA (v:=.agg #[ii v_.dot.s,ii v_.dot.n,ii v_.dot.n]) rfl (so rfl rfl rfl) (λw=>by kernel_rfl)) (k:=?_)))))
 refine alV EK λg2=>?_
 refine stV 0 (.agg #[ii v_.dot.s,ii v_.dot.n,ii v_.dot.n]) #[ii v_.dot.s,ii v_.dot.n,ii v_.dot.n] EM (k:=Dw (Dy ?_))
 refine leV λh03=>?_
 refine db (CC F Γ [[(g2,.cells #[ii v_.dot.s,ii v_.dot.n,ii v_.dot.n] 78 (0,0))],[(g1,.cells (Ver.cs Av_2 cv_2 v_).toArray 72 (0,0))]]) (bo_ [0,0] gR h03) λk=>?_
 change WH _ _ _ _ (CC F Γ [_,_]) _ 37 _ _
 refine hV 0 k (q:=ldaV 0 [ii v_.dot.s,ii v_.dot.n,ii v_.dot.n] EN EM) (k:=wl_ 1 rfl ?_)
 refine bsV #[ii v_.dot.s,ii v_.dot.n,ii v_.dot.n] 78 λg4=>?_
 refine Dz (nxV (bo_ [1,1] gR h03) λk=>?_)
 refine wl_ 2 rfl ?_
 have ho5:Own bW Γ 78 [(g4,.cells #[ii v_.dot.s,ii v_.dot.n,ii v_.dot.n] 78 (0,0))] (some ⟨g4,0,none⟩) 1 [(⟨v_.dot.s,v_.dot.n,v_.dot.n⟩:Span)]:=DM (T:=bW) (ys:=[(⟨v_.dot.s,v_.dot.n,v_.dot.n⟩:Span)]) [[ii v_.dot.s,ii v_.dot.n,ii v_.dot.n]] rfl (show 1≤lim by decide) ⟨⟨rfl,⟨hv_.1,hv_.2.1,hv_.2.1⟩⟩,trivial⟩
 obtain⟨z6,hz7,h⟩:=bnd h
 refine vqV (caV call174) (λw hw=>pB (Γ:=Gh.all w) (ho5.sl hw.sat.le_all (hw.ra 0 rfl)) ho5.capz (Sat.all w) hz7) (k:=?_)
 refine Dz (nxV (bo_ [1,1] gR h03) λk=>?_)
 refine hV 3 k (q:=moV) (k:=hV1 4 k (h:=λhg8=>q_fl 2 aN) (k:=hV1 5 k (h:=λhg9=>ldV 1 EX (hx:=grV hg9)) (k:=wl_ 6 rfl ?_)))
 obtain⟨z11,hz12,h⟩:=bnd h
 refine vC1 (h:=λhg10=>aH (aC call174 rfl rfl (kC (grV hg10))) (λw hw=>pB (Γ:=Gh.all w) (hv_.2.2.1.2.mono hw.sat.le_all) hv_.2.2.1.1 (Sat.all w) (bU hz12 hg10))) (k:=?_)
 refine Dz (nxV (bo_ [1,1] gR h03) λk=>?_)
 refine hV 7 k (q:=pkA) (k:=hV 8 k (q:=moV) (k:=hV1 9 k (h:=λhg13=>q_fl 2 aN) (k:=hV1 10 k (h:=λhg14=>ldV 1 EX (hx:=grV hg14)) (k:=hV1 11 k (h:=λhg15=>q_fl 0 aG) (k:=hV1 12 k (h:=λhg16=>q_fl 0 cN rfl (grV hg16)) (k:=hV1 13 k (h:=λhg17=>ldV 1 Ez (hx:=grV hg17)) (k:=hV1 15 k (h:=λhg18=>q_fl 0 aG) (k:=?_))))))))
 refine hV1 16 k (h:=λhg19=>q_fl 1 cy rfl (grV hg19)) (k:=hV1 17 k (h:=λhg20=>ldV 1 EH (hx:=grV hg20)) (k:=wl_ 14 rfl ?_))
 obtain⟨z22,hz23,h⟩:=bnd h
 refine vC1 (h:=λhg21=>aH (aC call175 rfl rfl (dX (grV hg21) (grV hg21))) (λw hw=>w9 (Γ:=Gh.all w) (hv_.2.2.1.2.mono hw.sat.le_all) hv_.2.2.1.1 v_.dot.s hv_.1 (Sat.all w) (bU hz23 hg21))) (k:=?_)
 refine Dz (nxV (bo_ [1,1] gR h03) λk=>?_)
 refine hV1 18 k (h:=λhg24=>aw rfl (grV hg24) (grV hg24)) (k:=hV 19 k (q:=pkA) (k:=hV 20 k (q:=moV) (k:=hV1 21 k (h:=λhg25=>q_fl 4 ec) (k:=hV1 22 k (h:=λhg26=>ldV 1 En (hx:=grV hg26)) (k:=hV1 23 k (h:=λhg27=>bg rfl Ek (grV hg27)) (k:=hV1 24 k (h:=λhg28=>dh rfl (grV hg28)) (k:=hV 25 k (q:=pkA) (k:=?_))))))))
 refine hV 26 k (q:=moV) (k:=hV1 27 k (h:=λhg29=>q_fl 3 gF) (k:=hV1 28 k (h:=λhg30=>ldV 1 isAgg4 (hx:=grV hg30)) (k:=hV1 29 k (h:=λhg31=>bb rfl (grV hg31)) (k:=hV1 30 k (h:=λhg32=>b4 (v:=.bool (!v_.gone)) rfl (grV hg32)) (k:=?_)))))
 refine hh0 (c0:=(((z6&&z11)&&(decide (z22<v_.dot.n)))&&(decide ((v_.val.size:Int)≤256)))) (g:=(!v_.gone)) (i:=31) rfl (by kernel_rfl) rfl rfl rfl rfl rfl k (λ_=>(q_fl 4 ec)) ?_
 refine hh0 (c0:=(((z6&&z11)&&(decide (z22<v_.dot.n)))&&(decide ((v_.val.size:Int)≤256)))) (g:=(!v_.gone)) (i:=32) rfl (by kernel_rfl) rfl rfl rfl rfl rfl k (λhg34=>(ldV 1 En (hx:=grV hg34))) ?_
 refine hh0 (c0:=(((z6&&z11)&&(decide (z22<v_.dot.n)))&&(decide ((v_.val.size:Int)≤256)))) (g:=(!v_.gone)) (i:=33) rfl (by kernel_rfl) rfl rfl rfl rfl rfl k (λhg35=>(oj rfl (grV hg35))) ?_
 refine hV1 34 k (h:=λhg36=>eV rfl (grV hg36) (yN (c:=(((z6&&z11)&&(decide (z22<v_.dot.n)))&&(decide ((v_.val.size:Int)≤256)))) (g:=(!v_.gone)) (y:=(v_.val==ByteArray.empty)) hg36)) (k:=hV 35 k (q:=pkA) (k:=hV 36 k (q:=aoV) (k:=?_)))
 refine DH (by kernel_rfl) ?_
 change WC _ _ _ _ _ _
 exact DB λw hw=>rq_ r h hF hw
theorem kV(a:Dot)(ha:Dot.fits Γ  a)(b:Dot)(hb:Dot.fits Γ  b)(hs:Sat Γ w0){r:Bool}(h:gI a b=some r):CQ Tryz.prog 117 #[.agg (Dot.cs a).toArray,.agg (Dot.cs b).toArray] w0 (.bool r):=by
 refine goQ [4] func117 ntmps117 results117 hs λF hF=>?_
 refine Dx ?_
 refine bxV (v:=.agg (Dot.cs a).toArray) λg1=>?_
 refine bxV (v:=.agg (Dot.cs b).toArray) λg2=>?_
 refine aV (k:=Dw (Dx (sV (q_fl 0 cN) (k:=sV (ldV 1 Ez) (k:=sV (q_fl 0 cN) (k:=sV (ldV 0 Ez) (k:=sV aw (k:=?_))))))))
 refine mV (k:=vG0 (h:=λhg3=>q_fl 0 cN) (k:=vG0 (h:=λhg4=>ldV 1 Ez (hx:=grV hg4)) (k:=vG0 (h:=λhg5=>q_fl 0 cN) (k:=vG0 (h:=λhg6=>ldV 0 Ez (hx:=grV hg6)) (k:=vG0 (h:=λhg7=>cW rfl (grV hg7) (grV hg7)) (k:=vG0 (h:=λhg8=>b4 (v:=.bool (a.s==b.s)) rfl (grV hg8)) (k:=vh1 (c0:=(!(decide (a.s<b.s)))) (g:=(a.s==b.s)) rfl rfl rfl rfl rfl (λ_=>QV.qo (q_fl 1 cy)) ?_)))))))
 refine vh1 (c0:=(!(decide (a.s<b.s)))) (g:=(a.s==b.s)) rfl rfl rfl rfl rfl (λhg10=>QV.qo (ldV 1 EH (hx:=grV hg10))) (vh1 (c0:=(!(decide (a.s<b.s)))) (g:=(a.s==b.s)) rfl rfl rfl rfl rfl (λ_=>QV.qo (q_fl 1 cy)) (vh1 (c0:=(!(decide (a.s<b.s)))) (g:=(a.s==b.s)) rfl rfl rfl rfl rfl (λhg12=>QV.qo (ldV 0 EH (hx:=grV hg12))) (vh1 (c0:=(!(decide (a.s<b.s)))) (g:=(a.s==b.s)) rfl rfl rfl rfl rfl (λhg13=>QV.qo (aw rfl (grV hg13) (grV hg13))) (vG0 (h:=λhg14=>eV rfl (grV hg14) (kM (c:=(!(decide (a.s<b.s)))) (g:=(a.s==b.s)) (y:=(decide (a.n<b.n))) hg14)) (k:=sV pkO (k:=aV (k:=Dw ?_)))))))
 exact DB λw hw=>rq_ r h hF hw
theorem wo{Al:Option Addr}{cl:Nat}{l:List Span}(hl:Sl bW Γ Al l)(hlc:l.length≤cl)(d:Dot)(hd:Dot.fits Γ  d)(hs:Sat Γ w0){r:Bool}(h:kr l d=some r):CQ Tryz.prog 155 #[.slice Al l.length cl,.agg (Dot.cs d).toArray] w0 (.bool r):=by
 refine goQ [4] func155 ntmps155 results155 hs λF hF=>?_
 refine Dx ?_
 refine bxV (v:=.agg (Dot.cs d).toArray) λg1=>?_
 refine aV (k:=Dw (Dy (Dx (mV (k:=sV (ab rfl EW) (k:=mV (k:=Dw ?_)))))))
 refine DD ?_
 refine DF h (λ(i3:Nat) (s:Unit) σ w=>match s with | ()=>slots σ [(3,(pq g1)),(7,.slice Al l.length cl),(8,ii (l.length:Int)),(9,ii (i3:Int))]∧CC F Γ [[(g1,.cells (Dot.cs d).toArray 69 (0,0))]] w∧True) ?_ ?_
 ·
  intro w hw
  exact⟨slK,hw,trivial⟩
 rintro f2 i3 ⟨⟩ σ w hi4 hlt5 hge6 ⟨hsl,hw,-⟩
 refine slV hsl hw [_] ?_; clear hw hsl
 refine Dx (sV aw (k:=Dw (Dy ?_)))
 refine coV (λhb7=>?_) (λhb7=>?_)
 ·
  have hl8:=ilt hb7
  have h:=hlt5 hl8
  refine DC (wc_ (Dy (DD (Dx (sV (ar (i:=i3) EW EM rfl rfl rfl hl8 (hl.some_ hl8)) (k:=sV (bT (c:=0) (vs:=(Span.cs (gt l i3))) (hl.spanT_at hl8).2 rfl EN EM rfl rfl rfl) (k:=?_)))))))
  refine alV EK λg9=>?_
  refine stV 0 (.agg (Span.cs (gt l i3)).toArray) (Span.cs (gt l i3)).toArray EM (k:=Dw (Dx (sV (q_fl 0 cg) (k:=sV (ldV 0 Ez) (k:=sV (q_fl 0 cN) (k:=sV (ldV 1 Ez) (k:=sV cW (k:=?_))))))))
  refine mV (k:=vG1 (h:=λhg10=>q_fl 1 cB) (k:=vG1 (h:=λhg11=>ldV 0 EH (hx:=grV hg11)) (k:=vG1 (h:=λhg12=>q_fl 1 cy) (k:=vG1 (h:=λhg13=>ldV 1 EH (hx:=grV hg13)) (k:=vG1 (h:=λhg14=>dh rfl (grV hg14) (grV hg14)) (k:=sV pkA (k:=mV (k:=?_))))))))
  refine vG1 (h:=λhg15=>q_fl 1 cy) (k:=vG1 (h:=λhg16=>ldV 1 EH (hx:=grV hg16)) (k:=vG1 (h:=λhg17=>q_fl 2 bK) (k:=vG1 (h:=λhg18=>ldV 0 EH (hx:=grV hg18)) (k:=vG1 (h:=λhg19=>dh rfl (grV hg19) (grV hg19)) (k:=sV pkA (k:=Dw ?_))))))
  refine ciV h (λhb20 h=>?_) (λhb20 h=>?_)
  ·
   refine Dx (aV (k:=Dw ?_))
   exact DB λw hw=>rq_ r h hF hw
  refine DC (wc_ ?_)
  refine DA ?_
  refine sV (am rfl rfl rfl (ax hl8 hl.le)) (k:=mV (k:=?_))
  exact Dz λw hw=>⟨hl8,(),h,slK,(hw.on [1]),trivial⟩
 have h:=hge6 (ige hb7)
 refine DE ?_
 change WC _ _ _ _ _ _
 refine Dx (aV (k:=Dw ?_))
 exact DB λw hw=>rq_ r h hF hw
theorem gJ(d:Dot)(hd:Dot.fits Γ  d){Al:Option Addr}{cl:Nat}{l:List Ver}(hl:Sl verT Γ Al l)(hlc:l.length≤cl)(hs:Sat Γ w0){r:Bool}(h:dc d l=some r):CQ Tryz.prog 115 #[.agg (Dot.cs d).toArray,.slice Al l.length cl] w0 (.bool r):=by
 refine goQ [4] func115 ntmps115 results115 hs λF hF=>?_
 refine Dx ?_
 refine bxV (v:=.agg (Dot.cs d).toArray) λg1=>?_
 refine aV (k:=Dw (Dy (Dx (mV (k:=sV (ab rfl EY) (k:=mV (k:=Dw ?_)))))))
 refine DD ?_
 refine DF h (λ(i3:Nat) (s:Unit) σ w=>match s with | ()=>slots σ [(2,(pq g1)),(7,.slice Al l.length cl),(8,ii (l.length:Int)),(9,ii (i3:Int))]∧CC F Γ [[(g1,.cells (Dot.cs d).toArray 69 (0,0))]] w∧True) ?_ ?_
 ·
  intro w hw
  exact⟨slK,hw,trivial⟩
 rintro f2 i3 ⟨⟩ σ w hi4 hlt5 hge6 ⟨hsl,hw,-⟩
 refine slV hsl hw [_] ?_; clear hw hsl
 refine Dx (sV aw (k:=Dw (Dy ?_)))
 refine coV (λhb7=>?_) (λhb7=>?_)
 ·
  have hl8:=ilt hb7
  have h:=hlt5 hl8
  refine DC (wc_ (Dy (DD (Dx (sV (ar (i:=i3) EY EP rfl rfl rfl hl8 (hl.some_ hl8)) (k:=?_))))))
  obtain⟨A9,c10,hx11⟩:=hl.verT_at i3
  refine sV (bT (c:=0) (vs:=(Ver.cs A9 c10 (gt l i3))) (hx11 hl8).2 rfl ES EP rfl rfl rfl) (k:=?_)
  refine alV EO λg12=>?_
  refine stV 0 (.agg (Ver.cs A9 c10 (gt l i3)).toArray) (Ver.cs A9 c10 (gt l i3)).toArray EP (k:=Dw (Dx (sV (q_fl 2 aN) (k:=sV (ldV 0 EX) (k:=sV (ldaV 1 (Dot.cs d) EZ F0) (k:=?_))))))
  obtain⟨z13,hz14,h⟩:=bnd h
  refine vqV (caV call155) (λw hw=>wo (Γ:=Gh.all w) ((hx11 hl8).1.2.2.1.2.mono hw.sat.le_all) (hx11 hl8).1.2.2.1.1 d hd (Sat.all w) hz14) (k:=Dw ?_)
  refine ciV h (λhb15 h=>?_) (λhb15 h=>?_)
  ·
   refine Dx (aV (k:=Dw ?_))
   exact DB λw hw=>rq_ r h hF hw
  refine DC (wc_ ?_)
  refine DA ?_
  refine sV (am rfl rfl rfl (ax hl8 hl.le)) (k:=mV (k:=?_))
  exact Dz λw hw=>⟨hl8,(),h,slK,(hw.on [1]),trivial⟩
 have h:=hge6 (ige hb7)
 refine DE ?_
 change WC _ _ _ _ _ _
 refine Dx (aV (k:=Dw ?_))
 exact DB λw hw=>rq_ r h hF hw
theorem ig{Al:Option Addr}{cl:Nat}{l:List Ver}(hl:Sl verT Γ Al l)(hlc:l.length≤cl)(hs:Sat Γ w0){r:Bool}(h:dV l=some r):CQ Tryz.prog 95 #[.slice Al l.length cl] w0 (.bool r):=by
 refine goQ [2] func95 ntmps95 results95 hs λF hF=>?_
 refine Dx (aV (k:=Dw (Dy (Dx (mV (k:=sV (ab rfl EY) (k:=mV (k:=?_))))))))
 refine Dw (DD ?_)
 refine DF h (λ(i2:Nat) (s:Unit) σ w=>match s with | ()=>slots σ [(0,.slice Al l.length cl),(5,.slice Al l.length cl),(6,ii (l.length:Int)),(7,ii (i2:Int))]∧CC F Γ [] w∧True) ?_ ?_
 ·
  intro w hw
  exact⟨slK,hw,trivial⟩
 rintro f1 i2 ⟨⟩ σ w hi3 hlt4 hge5 ⟨hsl,hw,-⟩
 refine slV hsl hw [] ?_; clear hw hsl
 refine Dx (sV aw (k:=Dw (Dy ?_)))
 refine coV (λhb6=>?_) (λhb6=>?_)
 ·
  have hl7:=ilt hb6
  have h:=hlt4 hl7
  refine DC (wc_ (Dy (DD (Dx (mV (k:=sV (ar (i:=i2) EY EP rfl rfl rfl hl7 (hl.some_ hl7)) (k:=?_)))))))
  obtain⟨A8,c9,hx10⟩:=hl.verT_at i2
  refine sV (bT (c:=0) (vs:=(Ver.cs A8 c9 (gt l i2))) (hx10 hl7).2 rfl ES EP rfl rfl rfl) (k:=?_)
  refine alV EO λg11=>?_
  refine aV (k:=stV 0 (.agg (Ver.cs A8 c9 (gt l i2)).toArray) (Ver.cs A8 c9 (gt l i2)).toArray EP (k:=Dw (Dy ?_)))
  refine drV ?_
  refine zV (ldaV 0 (Ver.cs A8 c9 (gt l i2)) ES EP) (k:=?_)
  obtain⟨z12,hz13,h⟩:=bnd h
  refine wc rfl rfl rfl (aH (caV call137) (λw hw=>qT (Γ:=Gh.all w) (gt l i2) (Ver.fits_mono (hx10 hl7).1 hw.sat.le_all) (Sat.all w) hz13)) (zV bb (k:=zV moV (k:=wG0 (h:=λhg14=>moV) (k:=wG0 (h:=λhg15=>bx rfl (grV hg15)) (k:=wG0 (h:=λhg16=>b4 (v:=.bool (decide (0<(i2:Int)))) rfl (grV hg16)) (k:=wh1 (c0:=(!(!z12))) (g:=(decide (0<(i2:Int)))) rfl rfl rfl rfl rfl (λ_=>QV.qo moV) (wh1 (c0:=(!(!z12))) (g:=(decide (0<(i2:Int)))) rfl rfl rfl rfl rfl (λ_=>QV.qo moV) ?_)))))))
  refine wh1 (c0:=(!(!z12))) (g:=(decide (0<(i2:Int)))) rfl rfl rfl rfl rfl (λhg19=>QV.qo (iK rfl (grV hg19))) ?_
  obtain⟨hk21,h⟩:=af h
  refine wh1 (c0:=(!(!z12))) (g:=(decide (0<(i2:Int)))) rfl rfl rfl rfl rfl (λhg20=>QV.qo (q_ix EY EP rfl (grV hg20) (grV hg20) (al hk21 hg20) (hl.some_ (aq (al hk21 hg20))))) (wh1 (c0:=(!(!z12))) (g:=(decide (0<(i2:Int)))) rfl rfl rfl rfl rfl (λhg22=>QV.qo (ah (((w64 ((i2:Int) - 1)).toNat)*5) aG rfl (grV hg22) (hl.some_ (aq (al hk21 hg22))) rfl)) ?_)
  obtain⟨A24,c25,hx26⟩:=hl.verT_at ((w64 ((i2:Int) - 1)).toNat)
  refine wh1 (c0:=(!(!z12))) (g:=(decide (0<(i2:Int)))) rfl rfl rfl rfl rfl (λhg23=>QV.qo (bT (c:=0) (vs:=[ii (gt l ((w64 ((i2:Int) - 1)).toNat)).dot.s,ii (gt l ((w64 ((i2:Int) - 1)).toNat)).dot.n]) (hx26 (aq (al hk21 hg23))).2 rfl EZ F0 (grV hg23) rfl rfl)) (wh1 (c0:=(!(!z12))) (g:=(decide (0<(i2:Int)))) rfl rfl rfl rfl rfl (λ_=>QV.qo (q_fl 0 aG)) (wh1 (c0:=(!(!z12))) (g:=(decide (0<(i2:Int)))) rfl rfl rfl rfl rfl (λhg28=>QV.qo (ldaV 0 [ii (gt l i2).dot.s,ii (gt l i2).dot.n] EZ F0 (hx:=grV hg28))) ?_))
  obtain⟨z30,hz31,h⟩:=bnd h
  refine wh1 (c0:=(!(!z12))) (g:=(decide (0<(i2:Int)))) rfl rfl rfl rfl rfl (λhg29=>(aH (aC call117 rfl rfl (dX (grV hg29) (grV hg29))) (λw hw=>kV (Γ:=Gh.all w) ((gt l ((w64 ((i2:Int) - 1)).toNat)).dot) ⟨(hx26 (aq (al hk21 hg29))).1.1,(hx26 (aq (al hk21 hg29))).1.2.1⟩ ((gt l i2).dot) ⟨(hx10 hl7).1.1,(hx10 hl7).1.2.1⟩ (Sat.all w) (bU hz31 hg29)))) (wh1 (c0:=(!(!z12))) (g:=(decide (0<(i2:Int)))) rfl rfl rfl rfl rfl (λhg32=>QV.qo (bb rfl (grV hg32))) (wG0 (h:=λhg33=>eV rfl (grV hg33) (kM (c:=(!(!z12))) (g:=(decide (0<(i2:Int)))) (y:=(!z30)) hg33)) (k:=zV pkO (k:=zV moV (k:=wG0 (h:=λhg34=>q_fl 0 aG) (k:=wG0 (h:=λhg35=>ldaV 0 [ii (gt l i2).dot.s,ii (gt l i2).dot.n] EZ F0 (hx:=grV hg35)) (k:=wG0 (h:=λhg36=>moV) (k:=?_))))))))
  obtain⟨z38,hz39,h⟩:=bnd h
  refine wC0 (h:=λhg37=>aH (aC call115 rfl rfl (dX (grV hg37) (grV hg37))) (λw hw=>gJ (Γ:=Gh.all w) ((gt l i2).dot) ⟨(hx10 hl7).1.1,(hx10 hl7).1.2.1⟩ (hl.mono hw.sat.le_all) hlc (Sat.all w) (bU hz39 hg37))) (k:=zV pkO (k:=?_))
  refine DJ ?_
  change WC _ _ _ _ _ _
  refine ciV h (λhb40 h=>?_) (λhb40 h=>?_)
  ·
   refine Dx (aV (k:=Dw ?_))
   exact DB λw hw=>rq_ r h hF hw
  refine DC (wc_ ?_)
  refine DA ?_
  refine sV (am rfl rfl rfl (ax hl7 hl.le)) (k:=mV (k:=?_))
  exact Dz λw hw=>⟨hl7,(),h,slK,(hw.on []),trivial⟩
 have h:=hge5 (ige hb6)
 refine DE ?_
 change WC _ _ _ _ _ _
 refine Dx (mV (k:=sV (ab rfl EY) (k:=sV dh (k:=aV (k:=Dw ?_)))))
 exact DB λw hw=>rq_ r h hF hw
theorem fw{Ar_1:Option Addr}{cr_1:Nat}(r_:Rec)(hr_:Rec.fits Γ Ar_1 cr_1 r_)(hs:Sat Γ w0){r:Bool}(h:bc r_=some r):CQ Tryz.prog 55 #[.agg (Rec.cs Ar_1 cr_1 r_).toArray] w0 (.bool r):=by
 refine goQ [2] func55 ntmps55 results55 hs λF hF=>?_
 refine Dx ?_
 refine bxV (v:=.agg (Rec.cs Ar_1 cr_1 r_).toArray) λg1=>?_
 refine aV (k:=Dw (Dx (sV (q_fl 0 b6) (k:=sV (ldV 0 En) (k:=sV (bg rfl Ek) (k:=sV iA (k:=mV (k:=?_))))))))
 refine vG1 (h:=λhg2=>q_fl 0 b6) (k:=vG1 (h:=λhg3=>ldV 0 En (hx:=grV hg3)) (k:=vG1 (h:=λhg4=>bg rfl Ek (grV hg4)) (k:=vG1 (h:=λhg5=>dh rfl (grV hg5)) (k:=sV pkA (k:=mV (k:=vG1 (h:=λhg6=>q_fl 1 aM) (k:=vG1 (h:=λhg7=>ldV 0 F1 (hx:=grV hg7)) (k:=?_))))))))
 obtain⟨z9,hz10,h⟩:=bnd h
 refine vC1 (h:=λhg8=>aH (aC call95 rfl rfl (kC (grV hg8))) (λw hw=>ig (Γ:=Gh.all w) (hr_.2.2.mono hw.sat.le_all) hr_.2.1 (Sat.all w) (bU hz10 hg8))) (k:=sV pkA (k:=aV (k:=Dw ?_)))
 exact DB λw hw=>rq_ r h hF hw
abbrev ni(r:Rec×Int)(U:List Rowb)(Γ:Gh)(v:Value):Prop := ∃(A0_1:Option Addr), ∃(c0_1:Nat),v = .tuple #[.agg #[.string r.1.key,.slice A0_1 r.1.vers.length c0_1],.int .i64 r.2]∧U = []∧Rec.fits Γ A0_1 c0_1 r.1∧I64 r.2∧True
theorem mZ{Ab:Option Addr}{cb:Nat}{b:List UInt8}(hb:Sl au Γ Ab b)(hbc:b.length≤cb)(hp:Pre [] Γ w0){r:Rec×Int}(h:dW b=some r):Calls Tryz.prog 76 #[.slice Ab b.length cb,.func (.func 77) #[] #[],.func (.func 55) #[] #[]] w0 (Outc Γ [] w0 (ni r)):=by
 refine rR (n:=32) (args:=[.slice Ab b.length cb,.func (.func 77) #[] #[],.func (.func 55) #[] #[]]) func76 rfl ntmps76 rfl ?_
 obtain⟨F,hF⟩:∃F:Fm,F=⟨ids [],w0,Γ⟩:=⟨_,rfl⟩
 refine WX.here (C:=CC F Γ []) ?_ (hF▸hp.start)
 refine WX.seq ?_
 refine DA ?_
 refine alV ET λg1=>?_
 refine alV zeroValue26 λg2=>?_
 refine Dz ?_
 change WX _ _ _ _ _ _ _
 refine WX.defer (v:=.func (.func 110) #[] #[(pq g1),(pq g2)]) (d:=⟨.fn (.func 110) #[(pq g1),(pq g2)], #[]⟩) rfl rfl rfl rfl (bQ (v:=.func (.func 110) #[] #[(pq g1),(pq g2)]) rfl (by kernel_rfl)) (tB rfl rfl) ?_
 refine WX.last ?_
 change WC _ _ _ _ _ _
 refine Dx (mV (k:=sV (aA (v:=.agg #[.slice Ab b.length cb,ii 0]) rfl (iy rfl) (λw=>by kernel_rfl)) (k:=?_)))
 refine bxV (v:=.agg #[.slice Ab b.length cb,ii 0]) λg3=>?_
 refine aV (k:=Dw (Dx (mU (v:=.func (.func 77) #[] #[]) (k:=mV (k:=?_)))))
 obtain⟨row_4,hrow_4,hob_4⟩:∃rw:Rowb,rw=([[(g3,.cells #[.slice Ab b.length cb,ii 0] 181 (0,0))]]:List Rowb).flatten∧a7.ob 181 Γ g3 rw (⟨b,0⟩:a7):=⟨_,rfl,Ab,cb,rfl,hbc,hb,iV,trivial⟩
 refine foR [0] hrow_4 [_,_,_] ?_
 obtain⟨z5,hz6,h⟩:=bnd h
 rcases z5 with _ | o7
 ·
  have h:=bi rfl h
  refine dY (is:=[0]) rfl (aT (caps:=#[]) call77 rfl (by kernel_rfl) (by kernel_rfl)) rfl (λw hp=>kA hob_4 hp hz6) ?_
  intro Γ8 hl9
  change ∀w,CC F Γ8 [[(g2,.cells #[ii 0] 26 (0,0))],[(g1,.cells #[.string ByteArray.empty,.slice none 0 0] 36 (0,0))]] w→_
  obtain⟨z10,hz11,h⟩:=bnd h
  refine lB (rs:=[.cell 6 36,.cell 7 26]) (is:=[1,0]) F2 (jW call110) rfl rfl (λw hp=>d9 ByteArray.empty (show (ByteArray.empty:ByteArray).size≤lim by decide) (Sl.nil verT _ none) (E7 0) 0 iV hp hz11) ?_
  rintro Γ12 _ _ hl13 ⟨A17,c18,rfl,rfl,hr16,hc20,hr19,hr21,_⟩
  change WRt _ _ _ (CC F Γ12 [_,_]) _
  unfold WRt
  intro w hw
  cases h
  subst hF
  exact⟨[.agg #[.string z10.1,.slice A17 z10.2.1.length c18],ii z10.2.2],(dL (i:=0) (us:=[.string z10.1,.slice A17 z10.2.1.length c18]) hw rfl EV EU (by kernel_rfl) rfl (ns (i:=1) hw rfl EA (by kernel_rfl) rfl dK)),aI (is:=[]) (by kernel_rfl) hw rfl ⟨A17,c18,rfl,rfl,⟨hr16,⟨hc20,hr19⟩⟩,hr21,trivial⟩⟩
 have h:=bh rfl h
 refine ecV [0] (aT (caps:=#[]) call77 rfl (by kernel_rfl) (by kernel_rfl)) (λw hp=>kA hob_4 hp hz6) ?_
 rintro Γ22 _ _ hl23 ⟨row26,A28,c29,rfl,rfl,hr27,hr30,_⟩
 refine cwV 15 [_,_,_] (stV 2 (.agg (Rec.cs A28 c29 o7.2).toArray) (Rec.cs A28 c29 o7.2).toArray EU (k:=Dw ?_))
 refine DL (λσ w=>cS o7  = some r∧slots σ [(6,(pq g1)),(7,(pq g2))]∧CC F Γ22 [row26,[(g2,.cells #[ii 0] 26 (0,0))],[(g1,.cells (Rec.cs A28 c29 o7.2).toArray 36 (0,0))]] w∧True) ?_ ?_
 ·
  refine Dx (mV (k:=sV nlV (k:=sV (q_fl 1 cU) (k:=?_))))
  obtain⟨A0_31,c0_31,hrow_31,ho0_31,ho1_31,ho2_31,-⟩:=id hr27
  refine ufR 0 hrow_31 [_,_,_] ?_
  refine sV (ldV 0 Ez) (k:=mV (k:=sV (ab rfl Eo) (k:=sV bj (k:=mV (k:=vG0 (h:=λhg32=>b4 (v:=.func (.func 55) #[] #[]) rfl (by kernel_rfl)) (k:=vG0 (h:=λhg33=>ldaV 2 (Rec.cs A28 c29 o7.2) EV EU) (k:=?_)))))))
  obtain⟨z35,hz36,h⟩:=bnd h
  refine vC0 (h:=λhg34=>aH (aT (caps:=#[]) (args:=#[.agg (Rec.cs A28 c29 o7.2).toArray]) call55 rfl (grV hg34) ((congrArg (· ++ #[]) (kC (grV hg34))).trans (by kernel_rfl))) (λw hw=>fw (Γ:=Gh.all w) o7.2 (Rec.fits_mono hr30 hw.sat.le_all) (Sat.all w) (bU hz36 hg34))) (k:=vG0 (h:=λhg37=>bb rfl (grV hg37)) (k:=sV pkO (k:=Dw ?_)))
  refine ciV h (λhb38 h=>?_) (λhb38 h=>?_)
  ·
   refine DA ?_
   refine sV (dH (v:=.agg #[]) rfl (λw=>by kernel_rfl)) (k:=sV (fQ rfl rfl (λw=>mkif EI w)) (k:=?_))
   refine fK (v:=.iface 179 (.agg #[])) rfl (bC rfl rfl) ?_
   change ∀w,CC F Γ22 [[(g3,.cells #[.slice A0_31 o7.1.b.length c0_31,ii o7.1.at_] 181 (0,0))],[(g2,.cells #[ii 0] 26 (0,0))],[(g1,.cells (Rec.cs A28 c29 o7.2).toArray 36 (0,0))]] w→_
   obtain⟨z41,hz42,h⟩:=bnd h
   refine lB (rs:=[.cell 6 36,.cell 7 26]) (is:=[2,1]) F2 (jW call110) rfl rfl (λw hp=>d9 o7.2.key hr30.1 hr30.2.2 hr30.2.1 0 iV hp hz42) ?_
   rintro Γ43 _ _ hl44 ⟨A48,c49,rfl,rfl,hr47,hc51,hr50,hr52,_⟩
   change WRt _ _ _ (CC F Γ43 [_,_,_]) _
   unfold WRt
   intro w hw
   cases h
   subst hF
   exact⟨[.agg #[.string z41.1,.slice A48 z41.2.1.length c49],ii z41.2.2],(dL (i:=0) (us:=[.string z41.1,.slice A48 z41.2.1.length c49]) hw rfl EV EU (by kernel_rfl) rfl (ns (i:=1) hw rfl EA (by kernel_rfl) rfl dK)),aI (is:=[]) (by kernel_rfl) hw rfl ⟨A48,c49,rfl,rfl,⟨hr47,⟨hc51,hr50⟩⟩,hr52,trivial⟩⟩
  refine DC ?_
  intro w hw
  have hw:=hw.fold (is:=[0]) rfl hrow_31
  exact⟨h,slK,hw,trivial⟩
 rintro σ w ⟨h,hsl,hw,-⟩
 refine slV hsl hw [_,_,_] ?_; clear hw hsl
 refine Dx (sV (ldaV 2 (Rec.cs A28 c29 o7.2) EV EU) (k:=stV 2 (.agg (Rec.cs A28 c29 o7.2).toArray) (Rec.cs A28 c29 o7.2).toArray EU (k:=stV 1 (ii 0) #[ii 0] sizeOf26 (k:=Dw ?_))))
 refine DB ?_
 refine ux (rs:=[.cell 6 36,.cell 7 26]) F2 (jW call110) (v7 ((pq g1)) ((pq g2))) ?_
 unfold WRt
 intro w hw
 cases h
 subst hF
 exact⟨[.agg (Rec.cs A28 c29 o7.2).toArray,ii 0],(dL (i:=2) (us:=(Rec.cs A28 c29 o7.2)) hw rfl EV EU (by kernel_rfl) rfl (ns (i:=1) hw rfl EA (by kernel_rfl) rfl dK)),aI (is:=[]) (by kernel_rfl) hw rfl ⟨A28,c29,rfl,rfl,hr30,iV,trivial⟩⟩
abbrev lV(Bo:Gh)(gr_:Nat)(er_:Nat)(r:a7×ByteArray)(U:List Rowb)(Γ:Gh)(v:Value):Prop := ∃(rowr_':Rowb),v = .string r.2∧U = [rowr_']∧a7.ob er_ Bo gr_ rowr_' r.1∧r.2.size≤lim∧True
theorem dw{Bo:Gh}{gr_ er_:Nat}{rowr_:Rowb}{r_:a7}(hr_:a7.ob er_ Bo gr_ rowr_ r_)(hp:Pre [rowr_] Γ w0)(hpO:Pre [rowr_] Bo w0){r:Option (a7×ByteArray)}(h:cC r_=some r):Calls Tryz.prog 111 #[(pq gr_)] w0 (jK [{ v:=(.iface 179 (.agg #[])),recovered:=false }] Γ [rowr_] w0 (λr=>lV Bo gr_ er_ r) r):=by
 refine goV [2] func111 ntmps111 results111 hp λF hF=>?_
 have hO:Lent F Bo:=hF▸Lent.start hpO
 refine Dx (aV (k:=Dw (Dy ?_)))
 obtain⟨A0_1,c0_1,hrow_1,ho0_1,ho1_1,ho2_1,-⟩:=id hr_
 refine ufC 0 hrow_1 [_] ?_
 refine drV ?_
 refine zV moV (k:=zV nlV (k:=zV (q_fl 0 fC) (k:=zV (ldV 0 Ex) (k:=zV moV (k:=zV nlV (k:=zV (q_fl 1 cU) (k:=zV (ldV 0 Ez) (k:=?_))))))))
 refine zV moV (k:=zV nlV (k:=zV (q_fl 0 fC) (k:=zV (ldV 0 Ex) (k:=zV (ab rfl Eo) (k:=?_)))))
 obtain⟨z2,hz3,h⟩:=bnd h
 refine wc rfl rfl rfl (aH (caV call150) (λw hw=>sC (Γ:=Gh.all w) (ho1_1.mono ((λw hw=>hO.sat hw) w hw).le_all) ho0_1 r_.at_ ho2_1 (r_.b.length:Int) (lS ho1_1.le) (Sat.all w) hz3)) (zV moV (k:=zV exV (k:=zV exV (k:=zV exV (k:=zV aoV (k:=zV aoV (k:=zV aoV (k:=?_))))))))
 refine DJ ?_
 change WC _ _ _ _ _ _
 refine foC [0] hrow_1 [_] ?_
 refine DL (λσ w=>dD r_ z2  = some r∧slots σ [(0,(pq gr_)),(3,.string z2.1),(4,ii z2.2.1)]∧CC F Γ [rowr_] w∧True) ?_ ?_
 ·
  refine Dx (mV (k:=sV bj (k:=Dw ?_)))
  refine ciV h (λhb5 h=>?_) (λhb5 h=>?_)
  ·
   refine DA ?_
   refine sV (dH (v:=.agg #[]) rfl (λw=>by kernel_rfl)) (k:=sV (fQ rfl rfl (λw=>mkif EI w)) (k:=?_))
   refine fK (v:=.iface 179 (.agg #[])) rfl (bC rfl rfl) ?_
   intro w hw
   cases h
   subst hF
   first | exact aE hw | exact λ_=>aE hw
  exact DC λw hw=>⟨h,slK,hw,trivial⟩
 rintro σ w ⟨h,hsl,hw,-⟩
 refine slV hsl hw [_] ?_; clear hw hsl
 refine Dx (mV (k:=mV (k:=sV nlV (k:=sV (q_fl 1 cU) (k:=?_)))))
 obtain⟨A0_8,c0_8,hrow_8,ho0_8,ho1_8,ho2_8,-⟩:=id hr_
 refine ufR 0 hrow_8 [_] ?_
 refine stV 0 (ii z2.2.1) #[.slice A0_8 r_.b.length c0_8,ii z2.2.1] Ey (k:=Dw (Dx (mV (k:=aV (k:=Dw ?_)))))
 refine DB ?_
 intro w hw
 obtain⟨hk10,h⟩:=af h
 obtain⟨row_9,hrow_9,hob_9⟩:∃rw:Rowb,rw=([[(gr_,.cells #[.slice A0_8 r_.b.length c0_8,ii z2.2.1] er_ (0,0))]]:List Rowb).flatten∧a7.ob er_ Bo gr_ rw (⟨r_.b,z2.2.1⟩:a7):=⟨_,rfl,A0_8,c0_8,rfl,ho0_8,ho1_8,(cj hk10),trivial⟩
 have hw:=hw.fold (is:=[0]) rfl hrow_9
 obtain⟨hk11,h⟩:=af h
 cases h
 subst hF
 exact aI (is:=[0]) (by kernel_rfl) hw rfl ⟨row_9,rfl,rfl,hob_9,(DP hk11),trivial⟩
abbrev na(Bo:Gh)(gr_:Nat)(er_:Nat)(r:a7×Int)(U:List Rowb)(Γ:Gh)(v:Value):Prop := ∃(rowr_':Rowb),v = .int .i64 r.2∧U = [rowr_']∧a7.ob er_ Bo gr_ rowr_' r.1∧I64 r.2∧True
theorem av{Bo:Gh}{gr_ er_:Nat}{rowr_:Rowb}{r_:a7}(hr_:a7.ob er_ Bo gr_ rowr_ r_)(hp:Pre [rowr_] Γ w0)(hpO:Pre [rowr_] Bo w0){r:Option (a7×Int)}(h:aW r_=some r):Calls Tryz.prog 151 #[(pq gr_)] w0 (jK [{ v:=(.iface 179 (.agg #[])),recovered:=false }] Γ [rowr_] w0 (λr=>na Bo gr_ er_ r) r):=by
 refine goV [2] func151 ntmps151 results151 hp λF hF=>?_
 have hO:Lent F Bo:=hF▸Lent.start hpO
 refine Dx (aV (k:=Dw (Dy ?_)))
 obtain⟨A0_1,c0_1,hrow_1,ho0_1,ho1_1,ho2_1,-⟩:=id hr_
 refine ufC 0 hrow_1 [_] ?_
 refine drV ?_
 refine zV moV (k:=zV nlV (k:=zV (q_fl 0 fC) (k:=zV (ldV 0 Ex) (k:=zV moV (k:=zV nlV (k:=zV (q_fl 1 cU) (k:=zV (ldV 0 Ez) (k:=?_))))))))
 obtain⟨z2,hz3,h⟩:=bnd h
 refine wc rfl rfl rfl (aH (caV call104) (λw hw=>kY (Γ:=Gh.all w) (ho1_1.mono ((λw hw=>hO.sat hw) w hw).le_all) ho0_1 r_.at_ ho2_1 (Sat.all w) hz3)) (zV moV (k:=zV exV (k:=zV exV (k:=zV exV (k:=zV aoV (k:=zV aoV (k:=zV aoV (k:=?_))))))))
 refine DJ ?_
 change WC _ _ _ _ _ _
 refine foC [0] hrow_1 [_] ?_
 refine DL (λσ w=>ea r_ z2  = some r∧slots σ [(0,(pq gr_)),(3,ii z2.1),(4,ii z2.2.1)]∧CC F Γ [rowr_] w∧True) ?_ ?_
 ·
  refine Dx (mV (k:=sV bj (k:=Dw ?_)))
  refine ciV h (λhb5 h=>?_) (λhb5 h=>?_)
  ·
   refine DA ?_
   refine sV (dH (v:=.agg #[]) rfl (λw=>by kernel_rfl)) (k:=sV (fQ rfl rfl (λw=>mkif EI w)) (k:=?_))
   refine fK (v:=.iface 179 (.agg #[])) rfl (bC rfl rfl) ?_
   intro w hw
   cases h
   subst hF
   first | exact aE hw | exact λ_=>aE hw
  exact DC λw hw=>⟨h,slK,hw,trivial⟩
 rintro σ w ⟨h,hsl,hw,-⟩
 refine slV hsl hw [_] ?_; clear hw hsl
 refine Dx (mV (k:=mV (k:=sV nlV (k:=sV (q_fl 1 cU) (k:=?_)))))
 obtain⟨A0_8,c0_8,hrow_8,ho0_8,ho1_8,ho2_8,-⟩:=id hr_
 refine ufR 0 hrow_8 [_] ?_
 refine stV 0 (ii z2.2.1) #[.slice A0_8 r_.b.length c0_8,ii z2.2.1] Ey (k:=Dw (Dx (mV (k:=aV (k:=Dw ?_)))))
 refine DB ?_
 intro w hw
 obtain⟨hk10,h⟩:=af h
 obtain⟨row_9,hrow_9,hob_9⟩:∃rw:Rowb,rw=([[(gr_,.cells #[.slice A0_8 r_.b.length c0_8,ii z2.2.1] er_ (0,0))]]:List Rowb).flatten∧a7.ob er_ Bo gr_ rw (⟨r_.b,z2.2.1⟩:a7):=⟨_,rfl,A0_8,c0_8,rfl,ho0_8,ho1_8,(cj hk10),trivial⟩
 have hw:=hw.fold (is:=[0]) rfl hrow_9
 obtain⟨hk11,h⟩:=af h
 cases h
 subst hF
 exact aI (is:=[0]) (by kernel_rfl) hw rfl ⟨row_9,rfl,rfl,hob_9,(cj hk11),trivial⟩
end Fw
end Go.Proofs.YtgaplodcdhhefaaGreat
