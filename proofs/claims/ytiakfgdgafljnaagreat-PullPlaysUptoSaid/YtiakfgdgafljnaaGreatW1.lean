/- Walks through the functions that the law reaches (printed by a program). No condition. -/
import Derived.Test.YtiakfgdgafljnaaGreatM
import Derived.Test.YtiakfgdgafljnaaGreatS
import Derived.Test.YtiakfgdgafljnaaGreatO
namespace Go.Proofs.YtiakfgdgafljnaaGreat
namespace Fw
set_option linter.unusedVariables false
set_option linter.unusedSimpArgs false
set_option linter.unusedSectionVars false
set_option maxRecDepth 100000
set_option maxHeartbeats 400000
open Go.RowKit
/-- a tree's type, and which of its sums are lent -/
abbrev TG:=TypeId×List ((Int×Int×Int)×Nat)
abbrev tg0(t:TypeId):TG:=(t,[])
def OTree.ob(e:TG)(Γ:Gh)(g:Nat)(row:Rowb)(x:OTree):Prop := ∃(cs:List Value) (rowL:Rowb) (sm:Nat) (rowS:Rowb),row=([[(g,.cells (cs++[Value.map (some sm)]).toArray e.1 (0,0))],rowL,rowS]:List Rowb).flatten∧MapsA (strK Tryz.underlying9) recT.ag Γ cs rowL x.leaves∧x.leaves.length=256∧Sums kk125 158 e.2 Γ rowS sm x.sums∧True
theorem OTree.ob.mono{e:TG}{Γ Δ:Gh}{g:Nat}{row:Rowb}{x:OTree}(h:OTree.ob e Γ g row x)(hs:Γ.le Δ):OTree.ob e Δ g row x:=by
  obtain⟨cs,rowL,sm,rowS,h1,h2,h3,h4,-⟩:=h
  exact⟨cs,rowL,sm,rowS,h1,h2.mono hs,h3,h4.mono hs,trivial⟩
theorem lent_lt{l:List ((Int×Int×Int)×Nat)}{n m:Nat}(h:∀p∈l,p.1.1≤(n:Int))(hm:m=n+1):∀p∈l,p.1.1<(m:Int):=λp hp=>by have:=h p hp; omega
abbrev r_tree_Tree_Hash(gt:Nat)(et:TG)(r:OTree×Int)(U:List Rowb)(Γ:Gh)(v:Value):Prop := ∃(rowt':Rowb),v = .int .u64 r.2∧U = [rowt']∧OTree.ob et Γ gt rowt' r.1∧U64 r.2∧True
/-- what is asked of whoever tells a place's hash -/
def HashC(H:OTree→List Int→Option (OTree×Int)):Prop := ∀{Γ:Gh} {w0:World} {gt:Nat} {et:TG} {rowt:Rowb} {t:OTree} (ht:OTree.ob et Γ gt rowt t) {A:Option Addr} {c:Nat} {path:List Int} (hpath:Sl intT Γ A path) (hc:path.length≤c) (hlen:∀p∈et.2,p.1.1<(path.length:Int)) (hp:Pre [rowt] Γ w0) {r:OTree×Int} (h:H t path=some r),Calls Tryz.prog 75 #[.pointer (some ⟨gt,0,none⟩),.slice A path.length c] w0 (Outc Γ [rowt] w0 (r_tree_Tree_Hash gt et r))
def Opull_Cut.ob(e:TypeId)(Γ:Gh)(g:Nat)(row:Rowb)(x:Opull_Cut):Prop := ∃(A1:Option Addr) (c1:Nat) (g2:Nat) (r2:Rowb),row=([[(g,.cells #[.int .i64 x.id,.slice A1 x.vec.length c1,.pointer (some ⟨g2,0,none⟩)] e (0,0))],r2]:List Rowb).flatten∧I64 x.id∧x.vec.length≤c1∧Sl intT Γ A1 x.vec∧OTree.ob (tg0 123) Γ g2 r2 x.tree∧True
theorem Opull_Cut.ob.mono{e:TypeId}{Γ Δ:Gh}{g:Nat}{row:Rowb}{x:Opull_Cut}(h:Opull_Cut.ob e Γ g row x)(hs:Γ.le Δ):Opull_Cut.ob e Δ g row x:=by
  obtain⟨A1,c1,g2,r2,hr,h0,h1,h2,h3,_⟩:=h
  exact⟨A1,c1,g2,r2,hr,h0,h1,h2.mono hs,OTree.ob.mono h3 hs,trivial⟩
def Ofirthref19_Cut.ob(e:TypeId)(Γ:Gh)(g:Nat)(row:Rowb)(x:Ofirthref19_Cut):Prop := ∃(A1:Option Addr) (c1:Nat) (A2:Option Addr) (c2:Nat),row=([[(g,.cells #[.int .i64 x.id,.slice A1 x.vec.length c1,.slice A2 x.all.length c2] e (0,0))]]:List Rowb).flatten∧I64 x.id∧x.vec.length≤c1∧Sl intT Γ A1 x.vec∧x.all.length≤c2∧Sl recT Γ A2 x.all∧True
theorem Ofirthref19_Cut.ob.mono{e:TypeId}{Γ Δ:Gh}{g:Nat}{row:Rowb}{x:Ofirthref19_Cut}(h:Ofirthref19_Cut.ob e Γ g row x)(hs:Γ.le Δ):Ofirthref19_Cut.ob e Δ g row x:=by
  obtain⟨A1,c1,A2,c2,hr,h0,h1,h2,h3,h4,_⟩:=h
  exact⟨A1,c1,A2,c2,hr,h0,h1,h2.mono hs,h3,h4.mono hs,trivial⟩
def Opull_Pull.ob(e:TypeId)(Γ:Gh)(g:Nat)(row:Rowb)(x:Opull_Pull):Prop := ∃(g1:Nat) (r1:Rowb) (A3:Option Addr) (c3:Nat) (A4:Option Addr) (c4:Nat) (r4:Rowb) (g5:Nat) (r5:Rowb),row=([[(g,.cells #[.int .i64 x.id,.pointer (some ⟨g1,0,none⟩),.bool x.begun,.slice A3 x.vec.length c3,.slice A4 x.wants.length c4,.pointer (some ⟨g5,0,none⟩)] e (0,0))],r1,r4,r5]:List Rowb).flatten∧I64 x.id∧OTree.ob (tg0 123) Γ g1 r1 x.own∧x.vec.length≤c3∧Sl intT Γ A3 x.vec∧Own dpull_wayT Γ 100 r4 A4 c4 x.wants∧OTree.ob (tg0 123) Γ g5 r5 x.staged∧True
theorem Opull_Pull.ob.mono{e:TypeId}{Γ Δ:Gh}{g:Nat}{row:Rowb}{x:Opull_Pull}(h:Opull_Pull.ob e Γ g row x)(hs:Γ.le Δ):Opull_Pull.ob e Δ g row x:=by
  obtain⟨g1,r1,A3,c3,A4,c4,r4,g5,r5,hr,h0,h1,h2,h3,h4,h5,_⟩:=h
  exact⟨g1,r1,A3,c3,A4,c4,r4,g5,r5,hr,h0,OTree.ob.mono h1 hs,h2,h3.mono hs,h4.mono hs,OTree.ob.mono h5 hs,trivial⟩
def Ofirthref19_Pull.ob(e:TypeId)(Γ:Gh)(g:Nat)(row:Rowb)(x:Ofirthref19_Pull):Prop := ∃(A1:Option Addr) (c1:Nat) (A3:Option Addr) (c3:Nat) (r3:Rowb) (A4:Option Addr) (c4:Nat) (r4:Rowb) (A5:Option Addr) (c5:Nat),row=([[(g,.cells #[.int .i64 x.id,.slice A1 x.own.length c1,.bool x.begun,.slice A3 x.vec.length c3,.slice A4 x.paths.length c4,.slice A5 x.in_.length c5] e (0,0))],r3,r4]:List Rowb).flatten∧I64 x.id∧x.own.length≤c1∧Sl recT Γ A1 x.own∧Own intT Γ 2 r3 A3 c3 x.vec∧Own (slT intT) Γ 24 r4 A4 c4 x.paths∧x.in_.length≤c5∧Sl recT Γ A5 x.in_∧True
theorem Ofirthref19_Pull.ob.mono{e:TypeId}{Γ Δ:Gh}{g:Nat}{row:Rowb}{x:Ofirthref19_Pull}(h:Ofirthref19_Pull.ob e Γ g row x)(hs:Γ.le Δ):Ofirthref19_Pull.ob e Δ g row x:=by
  obtain⟨A1,c1,A3,c3,r3,A4,c4,r4,A5,c5,hr,h0,h1,h2,h3,h4,h5,h6,_⟩:=h
  exact⟨A1,c1,A3,c3,r3,A4,c4,r4,A5,c5,hr,h0,h1,h2.mono hs,h3.mono hs,h4.mono hs,h5,h6.mono hs,trivial⟩
theorem t_span_Right{Γ:Gh}{w0:World}{Al:Option Addr}{cl:Nat}{l:List Span}(hl:Sl spanT Γ Al l)(hlc:l.length≤cl)(hs:Sat Γ w0){r:Bool}(h:m_span_Right l=some r):Calls Tryz.prog 137 #[.slice Al l.length cl] w0 (λe w'=>e = .returned (.bool r)∧Fr no w0 w'):=by
 refine calls_of (N:=65) (rs:=[2]) (args:=[.slice Al l.length cl]) Tryz.func137 rfl Tryz.ntmps137 Tryz.results137 rfl ?_
 obtain⟨F,hF⟩:∃F:Fm,F=⟨no,w0,Γ⟩:=⟨_,rfl⟩
 refine aa (C:=CC F Γ []) ?_ (hF▸Cur.start0 hs)
 refine a7 ?_
 refine as_ (v:=.bool false) ?_
 refine a6 ?_
 refine a7 ?_
 refine vb (q_build (v:=.agg #[.int .i64 0,.int .i64 0,.int .i64 0]) rfl (λw=>by kernel_rfl)) ?_
 refine e_alloc Tryz.zeroValue117 rfl rfl rfl rfl ?_
 intro g1
 refine e_st (i:=0) (v:=.agg #[.int .i64 0,.int .i64 0,.int .i64 0]) (new:=#[.int .i64 0,.int .i64 0,.int .i64 0]) rfl Tryz.sizeOf117 rfl rfl rfl rfl (by kernel_rfl) rfl rfl rfl rfl ?_
 refine a6 ?_
 refine a8 ?_
 refine a7 ?_
 refine mv (v:=.slice Al l.length cl) ?_
 refine vb (q_len_slice rfl Tryz.underlying113 rfl) ?_
 refine mv (v:=.int .i64 0) ?_
 refine a6 ?_
 refine af ?_
 refine ap h (λ(i5:Nat) (x2:Span) σ w=>slots σ [(0,.slice Al l.length cl),(3,(pq g1)),(7,.slice Al l.length cl),(8,.int .i64 ((l.length:Nat):Int)),(9,.int .i64 ((i5:Nat):Int))]∧CC F Γ [[(g1,.cells #[.int .i64 x2.s,.int .i64 x2.f,.int .i64 x2.t] 117 (0,0))]] w∧Span.fits Γ  x2∧True) ?_ ?_
 ·
  intro w hw
  exact⟨(sl_ (by kernel_rfl)),hw,⟨(show I64 0 by decide),(show I64 0 by decide),(show I64 0 by decide)⟩,trivial⟩
 rintro f4 i5 x2 σ w hi6 hlt7 hge8 ⟨hsl,hw,hf3,-⟩
 refine Wpt.slots hsl ?_
 refine aa (C:=CC F Γ [[(g1,.cells #[.int .i64 x2.s,.int .i64 x2.f,.int .i64 x2.t] 117 (0,0))]]) ?_ hw
 clear hw hsl
 refine a7 ?_
 refine vb (q_lss rfl rfl rfl) ?_
 refine a6 ?_
 refine a8 ?_
 refine WC.cond (b:=(decide (((i5:Nat):Int)<((l.length:Nat):Int)))) (by kernel_rfl) (λhb9=>?_) (λhb9=>?_)
 ·
  have hl10:=ilt hb9
  have h:=hlt7 hl10
  refine ae ?_
  change WC _ _ _ _ _ _
  refine a8 ?_
  refine af ?_
  refine a7 ?_
  refine vb (q_ixn (i:=i5) Tryz.underlying113 Tryz.sizeOf117 rfl rfl rfl hl10 (hl.some_ hl10)) ?_
  refine vb (q_lda (c:=0) (vs:=[.int .i64 (gt l i5).s,.int .i64 (gt l i5).f,.int .i64 (gt l i5).t]) (hl.spanT_at hl10).2 rfl Tryz.isAgg117 Tryz.sizeOf117 rfl rfl rfl) ?_
  refine e_alloc Tryz.zeroValue117 rfl rfl rfl rfl ?_
  intro g11
  refine e_st (i:=0) (v:=.agg #[.int .i64 (gt l i5).s,.int .i64 (gt l i5).f,.int .i64 (gt l i5).t]) (new:=#[.int .i64 (gt l i5).s,.int .i64 (gt l i5).f,.int .i64 (gt l i5).t]) rfl Tryz.sizeOf117 rfl rfl rfl rfl (by kernel_rfl) rfl rfl rfl rfl ?_
  refine a6 ?_
  refine a8 ?_
  refine a7 ?_
  refine vb (q_fl 0 fld_117_0 rfl rfl rfl) ?_
  refine vb (q_ldl (i:=0) (v:=.int .i64 (gt l i5).s) rfl rfl Tryz.isAgg3 rfl rfl) ?_
  refine vb (q_lss rfl rfl rfl) ?_
  refine mv (v:=.bool (decide ((gt l i5).s<1))) ?_
  refine vg0 rfl rfl rfl rfl rfl (λhg12=>QV.qo (q_fl 0 fld_117_0 rfl rfl rfl)) ?_
  refine vg0 rfl rfl rfl rfl rfl (λhg13=>QV.qo (q_ldl (i:=0) (v:=.int .i64 (gt l i5).s) rfl rfl Tryz.isAgg3 (gu hg13 rfl) rfl)) ?_
  refine vg0 rfl rfl rfl rfl rfl (λhg14=>QV.qo (q_gtr rfl (gu hg14 rfl) rfl)) ?_
  refine vb (q_pick rfl rfl (pk_or' (g:=(decide ((gt l i5).s<1))) (y:=(decide (16<(gt l i5).s))))) ?_
  refine mv (v:=.bool ((decide ((gt l i5).s<1))||(decide (16<(gt l i5).s)))) ?_
  refine vg0 rfl rfl rfl rfl rfl (λhg15=>QV.qo (q_fl 1 fld_117_1 rfl rfl rfl)) ?_
  refine vg0 rfl rfl rfl rfl rfl (λhg16=>QV.qo (q_ldl (i:=0) (v:=.int .i64 (gt l i5).f) rfl rfl Tryz.isAgg2 (gu hg16 rfl) rfl)) ?_
  refine vg0 rfl rfl rfl rfl rfl (λhg17=>QV.qo (q_lss rfl (gu hg17 rfl) rfl)) ?_
  refine vb (q_pick rfl rfl (pk_or' (g:=((decide ((gt l i5).s<1))||(decide (16<(gt l i5).s)))) (y:=(decide ((gt l i5).f<1))))) ?_
  refine mv (v:=.bool (((decide ((gt l i5).s<1))||(decide (16<(gt l i5).s)))||(decide ((gt l i5).f<1)))) ?_
  refine vg0 rfl rfl rfl rfl rfl (λhg18=>QV.qo (q_fl 1 fld_117_1 rfl rfl rfl)) ?_
  refine vg0 rfl rfl rfl rfl rfl (λhg19=>QV.qo (q_ldl (i:=0) (v:=.int .i64 (gt l i5).f) rfl rfl Tryz.isAgg2 (gu hg19 rfl) rfl)) ?_
  refine vg0 rfl rfl rfl rfl rfl (λhg20=>QV.qo (q_fl 2 fld_117_2 rfl rfl rfl)) ?_
  refine vg0 rfl rfl rfl rfl rfl (λhg21=>QV.qo (q_ldl (i:=0) (v:=.int .i64 (gt l i5).t) rfl rfl Tryz.isAgg2 (gu hg21 rfl) rfl)) ?_
  refine vg0 rfl rfl rfl rfl rfl (λhg22=>QV.qo (q_gtr rfl (gu hg22 rfl) (gu hg22 rfl))) ?_
  refine vb (q_pick rfl rfl (pk_or' (g:=(((decide ((gt l i5).s<1))||(decide (16<(gt l i5).s)))||(decide ((gt l i5).f<1)))) (y:=(decide ((gt l i5).t<(gt l i5).f))))) ?_
  refine mv (v:=.bool ((((decide ((gt l i5).s<1))||(decide (16<(gt l i5).s)))||(decide ((gt l i5).f<1)))||(decide ((gt l i5).t<(gt l i5).f)))) ?_
  refine vg0 rfl rfl rfl rfl rfl (λhg23=>QV.qo (q_fl 2 fld_117_2 rfl rfl rfl)) ?_
  refine vg0 rfl rfl rfl rfl rfl (λhg24=>QV.qo (q_ldl (i:=0) (v:=.int .i64 (gt l i5).t) rfl rfl Tryz.isAgg2 (gu hg24 rfl) rfl)) ?_
  refine vg0 rfl rfl rfl rfl rfl (λhg25=>QV.qo (q_gtr rfl (gu hg25 rfl) rfl)) ?_
  refine vb (q_pick rfl rfl (pk_or' (g:=((((decide ((gt l i5).s<1))||(decide (16<(gt l i5).s)))||(decide ((gt l i5).f<1)))||(decide ((gt l i5).t<(gt l i5).f)))) (y:=(decide (4611686018427387904<(gt l i5).t))))) ?_
  refine mv (v:=.bool (((((decide ((gt l i5).s<1))||(decide (16<(gt l i5).s)))||(decide ((gt l i5).f<1)))||(decide ((gt l i5).t<(gt l i5).f)))||(decide (4611686018427387904<(gt l i5).t)))) ?_
  refine vg0 rfl rfl rfl rfl rfl (λhg26=>QV.qo (q_fl 0 fld_117_0 rfl rfl rfl)) ?_
  refine vg0 rfl rfl rfl rfl rfl (λhg27=>QV.qo (q_ldl (i:=0) (v:=.int .i64 (gt l i5).s) rfl rfl Tryz.isAgg3 (gu hg27 rfl) rfl)) ?_
  refine vg0 rfl rfl rfl rfl rfl (λhg28=>QV.qo (q_fl 0 fld_117_0 rfl rfl rfl)) ?_
  refine vg0 rfl rfl rfl rfl rfl (λhg29=>QV.qo (q_ldl (i:=1) (v:=.int .i64 x2.s) rfl rfl Tryz.isAgg3 (gu hg29 rfl) rfl)) ?_
  refine vg0 rfl rfl rfl rfl rfl (λhg30=>QV.qo (q_lss rfl (gu hg30 rfl) (gu hg30 rfl))) ?_
  refine vb (q_pick rfl rfl (pk_or' (g:=(((((decide ((gt l i5).s<1))||(decide (16<(gt l i5).s)))||(decide ((gt l i5).f<1)))||(decide ((gt l i5).t<(gt l i5).f)))||(decide (4611686018427387904<(gt l i5).t)))) (y:=(decide ((gt l i5).s<x2.s))))) ?_
  refine mv (v:=.bool ((((((decide ((gt l i5).s<1))||(decide (16<(gt l i5).s)))||(decide ((gt l i5).f<1)))||(decide ((gt l i5).t<(gt l i5).f)))||(decide (4611686018427387904<(gt l i5).t)))||(decide ((gt l i5).s<x2.s)))) ?_
  refine vg0 rfl rfl rfl rfl rfl (λhg31=>QV.qo (q_fl 0 fld_117_0 rfl rfl rfl)) ?_
  refine vg0 rfl rfl rfl rfl rfl (λhg32=>QV.qo (q_ldl (i:=0) (v:=.int .i64 (gt l i5).s) rfl rfl Tryz.isAgg3 (gu hg32 rfl) rfl)) ?_
  refine vg0 rfl rfl rfl rfl rfl (λhg33=>QV.qo (q_fl 0 fld_117_0 rfl rfl rfl)) ?_
  refine vg0 rfl rfl rfl rfl rfl (λhg34=>QV.qo (q_ldl (i:=1) (v:=.int .i64 x2.s) rfl rfl Tryz.isAgg3 (gu hg34 rfl) rfl)) ?_
  refine vg0 rfl rfl rfl rfl rfl (λhg35=>QV.qo (q_eql rfl (gu hg35 rfl) (gu hg35 rfl))) ?_
  refine vg0 rfl rfl rfl rfl rfl (λhg36=>QV.qo (q_move (v:=.bool ((gt l i5).s==x2.s)) rfl (gu hg36 rfl))) ?_
  refine vh1 (c0:=(!((((((decide ((gt l i5).s<1))||(decide (16<(gt l i5).s)))||(decide ((gt l i5).f<1)))||(decide ((gt l i5).t<(gt l i5).f)))||(decide (4611686018427387904<(gt l i5).t)))||(decide ((gt l i5).s<x2.s))))) (g:=((gt l i5).s==x2.s)) rfl rfl rfl rfl rfl (λhg37=>QV.qo (q_fl 1 fld_117_1 rfl rfl rfl)) ?_
  refine vh1 (c0:=(!((((((decide ((gt l i5).s<1))||(decide (16<(gt l i5).s)))||(decide ((gt l i5).f<1)))||(decide ((gt l i5).t<(gt l i5).f)))||(decide (4611686018427387904<(gt l i5).t)))||(decide ((gt l i5).s<x2.s))))) (g:=((gt l i5).s==x2.s)) rfl rfl rfl rfl rfl (λhg38=>QV.qo (q_ldl (i:=0) (v:=.int .i64 (gt l i5).f) rfl rfl Tryz.isAgg2 (gu hg38 rfl) rfl)) ?_
  refine vh1 (c0:=(!((((((decide ((gt l i5).s<1))||(decide (16<(gt l i5).s)))||(decide ((gt l i5).f<1)))||(decide ((gt l i5).t<(gt l i5).f)))||(decide (4611686018427387904<(gt l i5).t)))||(decide ((gt l i5).s<x2.s))))) (g:=((gt l i5).s==x2.s)) rfl rfl rfl rfl rfl (λhg39=>QV.qo (q_fl 2 fld_117_2 rfl rfl rfl)) ?_
  refine vh1 (c0:=(!((((((decide ((gt l i5).s<1))||(decide (16<(gt l i5).s)))||(decide ((gt l i5).f<1)))||(decide ((gt l i5).t<(gt l i5).f)))||(decide (4611686018427387904<(gt l i5).t)))||(decide ((gt l i5).s<x2.s))))) (g:=((gt l i5).s==x2.s)) rfl rfl rfl rfl rfl (λhg40=>QV.qo (q_ldl (i:=1) (v:=.int .i64 x2.t) rfl rfl Tryz.isAgg2 (gu hg40 rfl) rfl)) ?_
  refine vh1 (c0:=(!((((((decide ((gt l i5).s<1))||(decide (16<(gt l i5).s)))||(decide ((gt l i5).f<1)))||(decide ((gt l i5).t<(gt l i5).f)))||(decide (4611686018427387904<(gt l i5).t)))||(decide ((gt l i5).s<x2.s))))) (g:=((gt l i5).s==x2.s)) rfl rfl rfl rfl rfl (λhg41=>QV.qo (q_add rfl (gu hg41 rfl) rfl)) ?_
  refine vh1 (c0:=(!((((((decide ((gt l i5).s<1))||(decide (16<(gt l i5).s)))||(decide ((gt l i5).f<1)))||(decide ((gt l i5).t<(gt l i5).f)))||(decide (4611686018427387904<(gt l i5).t)))||(decide ((gt l i5).s<x2.s))))) (g:=((gt l i5).s==x2.s)) rfl rfl rfl rfl rfl (λhg42=>QV.qo (q_leq rfl (gu hg42 rfl) (gu hg42 rfl))) ?_
  refine vg0 rfl rfl rfl rfl rfl (λhg43=>QV.qo (q_pick rfl (gu hg43 rfl) (pk_and (c:=(!((((((decide ((gt l i5).s<1))||(decide (16<(gt l i5).s)))||(decide ((gt l i5).f<1)))||(decide ((gt l i5).t<(gt l i5).f)))||(decide (4611686018427387904<(gt l i5).t)))||(decide ((gt l i5).s<x2.s))))) (g:=((gt l i5).s==x2.s)) (y:=(decide ((gt l i5).f≤(w64 (x2.t+1))))) hg43))) ?_
  refine vb (q_pick rfl rfl (pk_or' (g:=((((((decide ((gt l i5).s<1))||(decide (16<(gt l i5).s)))||(decide ((gt l i5).f<1)))||(decide ((gt l i5).t<(gt l i5).f)))||(decide (4611686018427387904<(gt l i5).t)))||(decide ((gt l i5).s<x2.s)))) (y:=(((gt l i5).s==x2.s)&&(decide ((gt l i5).f≤(w64 (x2.t+1)))))))) ?_
  refine a6 ?_
  refine aj h (by kernel_rfl) (λhb44 h=>?_) (λhb44 h=>?_)
  ·
   refine a7 ?_
   refine as_ (v:=.bool false) ?_
   refine a6 ?_
   refine ac ?_
   intro w hw
   cases h
   subst hF
   exact⟨by kernel_rfl,hw.fr⟩
  ·
   refine ae ?_
   change WC _ _ _ _ _ _
   refine ah ?_
   refine vb (q_ldla (i:=0) (vs:=[.int .i64 (gt l i5).s,.int .i64 (gt l i5).f,.int .i64 (gt l i5).t]) rfl rfl Tryz.isAgg117 Tryz.sizeOf117 rfl rfl) ?_
   refine e_st (i:=1) (v:=.agg #[.int .i64 (gt l i5).s,.int .i64 (gt l i5).f,.int .i64 (gt l i5).t]) (new:=#[.int .i64 (gt l i5).s,.int .i64 (gt l i5).f,.int .i64 (gt l i5).t]) rfl Tryz.sizeOf117 rfl rfl rfl rfl (by kernel_rfl) rfl rfl rfl rfl ?_
   refine ab ?_
   change WC _ _ _ _ _ _
   refine ah ?_
   refine vb (q_add_r (r:=((i5+1:Nat):Int)) rfl rfl rfl (ctr_len hl10 hl.le)) ?_
   refine mv (v:=.int .i64 ((i5+1:Nat):Int)) ?_
   exact ab λw hw=>⟨hl10,(gt l i5),h,(sl_ (by kernel_rfl)),(hw.only (is:=[1]) rfl),(hl.spanT_at hl10).1,trivial⟩
 ·
  have h:=hge8 (ige hb9)
  refine am ?_
  change WC _ _ _ _ _ _
  refine a7 ?_
  refine mv (v:=.slice Al l.length cl) ?_
  refine vb (q_len_slice rfl Tryz.underlying113 rfl) ?_
  refine vb (q_leq rfl rfl rfl) ?_
  refine as_ (v:=.bool (decide (((l.length:Nat):Int)≤1024))) ?_
  refine a6 ?_
  refine ac ?_
  intro w hw
  cases h
  subst hF
  exact⟨by kernel_rfl,hw.fr⟩
theorem t_span_Top{Γ:Gh}{w0:World}{Al:Option Addr}{cl:Nat}{l:List Span}(hl:Sl spanT Γ Al l)(hlc:l.length≤cl)(s_:Int)(hs_:I64 s_)(hs:Sat Γ w0){r:Int}(h:m_span_Top l s_=some r):Calls Tryz.prog 138 #[.slice Al l.length cl,.int .i64 s_] w0 (λe w'=>e = .returned (.int .i64 r)∧Fr no w0 w'):=by
 refine calls_of (N:=24) (rs:=[4]) (args:=[.slice Al l.length cl,.int .i64 s_]) Tryz.func138 rfl Tryz.ntmps138 Tryz.results138 rfl ?_
 obtain⟨F,hF⟩:∃F:Fm,F=⟨no,w0,Γ⟩:=⟨_,rfl⟩
 refine aa (C:=CC F Γ []) ?_ (hF▸Cur.start0 hs)
 refine a7 ?_
 refine as_ (v:=.int .i64 0) ?_
 refine a6 ?_
 refine a7 ?_
 refine as_ (v:=.int .i64 0) ?_
 refine a6 ?_
 refine a8 ?_
 refine a7 ?_
 refine mv (v:=.slice Al l.length cl) ?_
 refine vb (q_len_slice rfl Tryz.underlying113 rfl) ?_
 refine mv (v:=.int .i64 0) ?_
 refine a6 ?_
 refine af ?_
 refine ap h (λ(i4:Nat) (top_1:Int) σ w=>slots σ [(1,.int .i64 s_),(5,.int .i64 top_1),(8,.slice Al l.length cl),(9,.int .i64 ((l.length:Nat):Int)),(10,.int .i64 ((i4:Nat):Int))]∧CC F Γ [] w∧I64 top_1∧True) ?_ ?_
 ·
  intro w hw
  exact⟨(sl_ (by kernel_rfl)),hw,(show I64 0 by decide),trivial⟩
 rintro f3 i4 top_1 σ w hi5 hlt6 hge7 ⟨hsl,hw,hr2,-⟩
 refine Wpt.slots hsl ?_
 refine aa (C:=CC F Γ []) ?_ hw
 clear hw hsl
 refine a7 ?_
 refine vb (q_lss rfl rfl rfl) ?_
 refine a6 ?_
 refine a8 ?_
 refine WC.cond (b:=(decide (((i4:Nat):Int)<((l.length:Nat):Int)))) (by kernel_rfl) (λhb8=>?_) (λhb8=>?_)
 ·
  have hl9:=ilt hb8
  have h:=hlt6 hl9
  refine ae ?_
  change WC _ _ _ _ _ _
  refine ax (λσ w => ∃(top_10:Int),m_span_Top_j6 f3 top_10=some r∧slots σ [(1,.int .i64 s_),(5,.int .i64 top_10),(8,.slice Al l.length cl),(9,.int .i64 ((l.length:Nat):Int)),(10,.int .i64 ((i4:Nat):Int))]∧CC F Γ [] w∧I64 top_10∧True) ?_ ?_
  ·
   refine af ?_
   refine a7 ?_
   refine vb (q_ixn (i:=i4) Tryz.underlying113 Tryz.sizeOf117 rfl rfl rfl hl9 (hl.some_ hl9)) ?_
   refine vb (q_lda (c:=0) (vs:=[.int .i64 (gt l i4).s,.int .i64 (gt l i4).f,.int .i64 (gt l i4).t]) (hl.spanT_at hl9).2 rfl Tryz.isAgg117 Tryz.sizeOf117 rfl rfl rfl) ?_
   refine e_alloc Tryz.zeroValue117 rfl rfl rfl rfl ?_
   intro g12
   refine e_st (i:=0) (v:=.agg #[.int .i64 (gt l i4).s,.int .i64 (gt l i4).f,.int .i64 (gt l i4).t]) (new:=#[.int .i64 (gt l i4).s,.int .i64 (gt l i4).f,.int .i64 (gt l i4).t]) rfl Tryz.sizeOf117 rfl rfl rfl rfl (by kernel_rfl) rfl rfl rfl rfl ?_
   refine a6 ?_
   refine a7 ?_
   refine vb (q_fl 0 fld_117_0 rfl rfl rfl) ?_
   refine vb (q_ldl (i:=0) (v:=.int .i64 (gt l i4).s) rfl rfl Tryz.isAgg3 rfl rfl) ?_
   refine mv (v:=.int .i64 s_) ?_
   refine vb (q_eql rfl rfl rfl) ?_
   refine a6 ?_
   refine aj h (by kernel_rfl) (λhb13 h=>?_) (λhb13 h=>?_)
   ·
    refine ah ?_
    refine mv (v:=.int .i64 top_1) ?_
    refine vb (q_fl 2 fld_117_2 rfl rfl rfl) ?_
    refine vb (q_ldl (i:=0) (v:=.int .i64 (gt l i4).t) rfl rfl Tryz.isAgg2 rfl rfl) ?_
    refine vb (q_max rfl rfl rfl) ?_
    refine as_ (v:=.int .i64 (max top_1 (gt l i4).t)) ?_
    exact ab λw hw=>⟨(max top_1 (gt l i4).t),h,(sl_ (by kernel_rfl)),(hw.only (is:=[]) rfl),(max_r hr2 (hl.spanT_at hl9).1.2.2),trivial⟩
   ·
    exact ae λw hw=>⟨top_1,h,(sl_ (by kernel_rfl)),(hw.only (is:=[]) rfl),hr2,trivial⟩
  ·
   rintro σ w ⟨top_10,h,hsl,hw,hr11,-⟩
   refine Wpt.slots hsl ?_
   refine aa (C:=CC F Γ []) ?_ hw
   clear hw hsl
   refine ah ?_
   refine vb (q_add_r (r:=((i4+1:Nat):Int)) rfl rfl rfl (ctr_len hl9 hl.le)) ?_
   refine mv (v:=.int .i64 ((i4+1:Nat):Int)) ?_
   exact ab λw hw=>⟨hl9,top_10,h,(sl_ (by kernel_rfl)),hw,hr11,trivial⟩
 ·
  have h:=hge7 (ige hb8)
  refine am ?_
  change WC _ _ _ _ _ _
  refine a7 ?_
  refine mv (v:=.int .i64 top_1) ?_
  refine as_ (v:=.int .i64 top_1) ?_
  refine a6 ?_
  refine ac ?_
  intro w hw
  cases h
  subst hF
  exact⟨by kernel_rfl,hw.fr⟩
theorem t_vers_RightOne{Γ:Gh}{w0:World}{Av_2:Option Addr}{cv_2:Nat}(v_:Ver)(hv_:Ver.fits Γ Av_2 cv_2 v_)(hs:Sat Γ w0){r:Bool}(h:m_vers_RightOne v_=some r):Calls Tryz.prog 113 #[.agg #[.int .i64 v_.dot.s,.int .i64 v_.dot.n,.slice Av_2 v_.past.length cv_2,.bool v_.gone,.string v_.val]] w0 (λe w'=>e = .returned (.bool r)∧Fr no w0 w'):=by
 refine calls_of (N:=50) (rs:=[2]) (args:=[.agg #[.int .i64 v_.dot.s,.int .i64 v_.dot.n,.slice Av_2 v_.past.length cv_2,.bool v_.gone,.string v_.val]]) Tryz.func113 rfl Tryz.ntmps113 Tryz.results113 rfl ?_
 obtain⟨F,hF⟩:∃F:Fm,F=⟨no,w0,Γ⟩:=⟨_,rfl⟩
 refine aa (C:=CC F Γ []) ?_ (hF▸Cur.start0 hs)
 refine a7 ?_
 refine e_box (v:=.agg #[.int .i64 v_.dot.s,.int .i64 v_.dot.n,.slice Av_2 v_.past.length cv_2,.bool v_.gone,.string v_.val]) rfl rfl rfl rfl (by kernel_rfl) ?_
 intro g1
 refine as_ (v:=.bool false) ?_
 refine a6 ?_
 refine a7 ?_
 refine vb (q_fl 0 fld_115_0 rfl rfl rfl) ?_
 refine vb (q_fl 0 fld_112_0 rfl rfl rfl) ?_
 refine vb (q_ldl (i:=0) (v:=.int .i64 v_.dot.s) rfl rfl Tryz.isAgg3 rfl rfl) ?_
 refine vb (q_fl 0 fld_115_0 rfl rfl rfl) ?_
 refine vb (q_fl 1 fld_112_1 rfl rfl rfl) ?_
 refine vb (q_ldl (i:=0) (v:=.int .i64 v_.dot.n) rfl rfl Tryz.isAgg2 rfl rfl) ?_
 refine vb (q_fl 0 fld_115_0 rfl rfl rfl) ?_
 refine vb (q_fl 1 fld_112_1 rfl rfl rfl) ?_
 refine vb (q_ldl (i:=0) (v:=.int .i64 v_.dot.n) rfl rfl Tryz.isAgg2 rfl rfl) ?_
 refine vb (q_build' (v:=.agg #[.int .i64 v_.dot.s,.int .i64 v_.dot.n,.int .i64 v_.dot.n]) rfl (bargs3 rfl rfl rfl) (λw=>by kernel_rfl)) ?_
 refine e_alloc Tryz.zeroValue117 rfl rfl rfl rfl ?_
 intro g2
 refine e_st (i:=0) (v:=.agg #[.int .i64 v_.dot.s,.int .i64 v_.dot.n,.int .i64 v_.dot.n]) (new:=#[.int .i64 v_.dot.s,.int .i64 v_.dot.n,.int .i64 v_.dot.n]) rfl Tryz.sizeOf117 rfl rfl rfl rfl (by kernel_rfl) rfl rfl rfl rfl ?_
 refine a6 ?_
 refine a8 ?_
 intro w hw; have h03:=hw.le
 refine aa (C:=CC F Γ [[(g2,.cells #[.int .i64 v_.dot.s,.int .i64 v_.dot.n,.int .i64 v_.dot.n] 117 (0,0))],[(g1,.cells #[.int .i64 v_.dot.s,.int .i64 v_.dot.n,.slice Av_2 v_.past.length cv_2,.bool v_.gone,.string v_.val] 115 (0,0))]]) ?_ hw; clear hw
 refine av (CC F Γ [[(g2,.cells #[.int .i64 v_.dot.s,.int .i64 v_.dot.n,.int .i64 v_.dot.n] 117 (0,0))],[(g1,.cells #[.int .i64 v_.dot.s,.int .i64 v_.dot.n,.slice Av_2 v_.past.length cv_2,.bool v_.gone,.string v_.val] 115 (0,0))]]) (by kernel_rfl) (λw hw=>hw.drawn _) ?_
 change WH _ _ _ _ (CC F Γ [[(g2,.cells #[.int .i64 v_.dot.s,.int .i64 v_.dot.n,.int .i64 v_.dot.n] 117 (0,0))],[(g1,.cells #[.int .i64 v_.dot.s,.int .i64 v_.dot.n,.slice Av_2 v_.past.length cv_2,.bool v_.gone,.string v_.val] 115 (0,0))]]) _ 37 #[false,false,false,false,false,false,false,false,false,false,false,false,false,false,false,false,false,false,false,false,false,false,false,false,false,false,false,false,false,false,false,false,false,false,false,false,false] _
 refine hu 0 rfl (bk_ (Gh.refl _) h03 (.cons_cons _ (.cons_cons _ .slnil))) (q_ldla (i:=0) (vs:=[.int .i64 v_.dot.s,.int .i64 v_.dot.n,.int .i64 v_.dot.n]) rfl rfl Tryz.isAgg117 Tryz.sizeOf117 rfl rfl) ?_
 refine ai (i:=1) (by kernel_rfl) rfl ?_
 refine e_buildSlice (cs:=#[.int .i64 v_.dot.s,.int .i64 v_.dot.n,.int .i64 v_.dot.n]) (e:=117) rfl rfl rfl rfl (λw=>by kernel_rfl) ?_
 intro g4
 refine ab ?_
 refine WH.next (bk_ (Gh.refl _) h03 (.cons _ (.cons_cons _ (.cons_cons _ .slnil)))) ?_
 refine ai (i:=2) (by kernel_rfl) rfl ?_
 have ho5:Own spanT Γ 117 [(g4,.cells #[.int .i64 v_.dot.s,.int .i64 v_.dot.n,.int .i64 v_.dot.n] 117 (0,0))] (some ⟨g4,0,none⟩) 1 [(⟨v_.dot.s,v_.dot.n,v_.dot.n⟩:Span)]:=aq (T:=spanT) (ys:=[(⟨v_.dot.s,v_.dot.n,v_.dot.n⟩:Span)]) [[.int .i64 v_.dot.s,.int .i64 v_.dot.n,.int .i64 v_.dot.n]] rfl (show 1≤lim by decide) (show Ty.rd spanT Γ [.int .i64 v_.dot.s,.int .i64 v_.dot.n,.int .i64 v_.dot.n] (⟨v_.dot.s,v_.dot.n,v_.dot.n⟩:Span)∧True from ⟨⟨rfl,⟨hv_.1,hv_.2.1,hv_.2.1⟩⟩,trivial⟩)
 obtain⟨z6,hz7,h⟩:=bnd h
 refine vc rfl rfl rfl (q_call (call_run Tryz.call137 rfl rfl (by kernel_rfl)) (λw hw=>t_span_Right (Γ:=Gh.all w) (ho5.sl hw.sat.le_all (hw.ra 0 rfl)) ho5.capz (Sat.all w) hz7)) ?_
 refine ab ?_
 refine WH.next (bk_ (Gh.refl _) h03 (.cons _ (.cons_cons _ (.cons_cons _ .slnil)))) ?_
 refine hu 3 rfl (bk_ (Gh.refl _) h03 (.cons _ (.cons_cons _ (.cons_cons _ .slnil)))) (q_move (v:=.bool z6) rfl (by kernel_rfl)) ?_
 refine hg1 (i:=4) rfl (by kernel_rfl) rfl rfl rfl rfl rfl (bk_ (Gh.refl _) h03 (.cons _ (.cons_cons _ (.cons_cons _ .slnil)))) (λhg8=>(q_fl 2 fld_115_1 rfl rfl rfl)) ?_
 refine hg1 (i:=5) rfl (by kernel_rfl) rfl rfl rfl rfl rfl (bk_ (Gh.refl _) h03 (.cons _ (.cons_cons _ (.cons_cons _ .slnil)))) (λhg9=>(q_ldl (i:=1) (v:=.slice Av_2 v_.past.length cv_2) rfl rfl Tryz.isAgg113 (gu hg9 rfl) rfl)) ?_
 refine ai (i:=6) (by kernel_rfl) rfl ?_
 obtain⟨z11,hz12,h⟩:=bnd h
 refine vg1 rfl rfl rfl rfl rfl (λhg10=>(q_call (call_run Tryz.call137 rfl rfl (args1 (gu hg10 rfl))) (λw hw=>t_span_Right (Γ:=Gh.all w) (hv_.2.2.1.2.mono hw.sat.le_all) hv_.2.2.1.1 (Sat.all w) (gc_of hz12 hg10)))) ?_
 refine ab ?_
 refine WH.next (bk_ (Gh.refl _) h03 (.cons _ (.cons_cons _ (.cons_cons _ .slnil)))) ?_
 refine hu 7 rfl (bk_ (Gh.refl _) h03 (.cons _ (.cons_cons _ (.cons_cons _ .slnil)))) (q_pick rfl rfl (pk_and' (g:=z6) (y:=z11))) ?_
 refine hu 8 rfl (bk_ (Gh.refl _) h03 (.cons _ (.cons_cons _ (.cons_cons _ .slnil)))) (q_move (v:=.bool (z6&&z11)) rfl (by kernel_rfl)) ?_
 refine hg1 (i:=9) rfl (by kernel_rfl) rfl rfl rfl rfl rfl (bk_ (Gh.refl _) h03 (.cons _ (.cons_cons _ (.cons_cons _ .slnil)))) (λhg13=>(q_fl 2 fld_115_1 rfl rfl rfl)) ?_
 refine hg1 (i:=10) rfl (by kernel_rfl) rfl rfl rfl rfl rfl (bk_ (Gh.refl _) h03 (.cons _ (.cons_cons _ (.cons_cons _ .slnil)))) (λhg14=>(q_ldl (i:=1) (v:=.slice Av_2 v_.past.length cv_2) rfl rfl Tryz.isAgg113 (gu hg14 rfl) rfl)) ?_
 refine hg1 (i:=11) rfl (by kernel_rfl) rfl rfl rfl rfl rfl (bk_ (Gh.refl _) h03 (.cons _ (.cons_cons _ (.cons_cons _ .slnil)))) (λhg15=>(q_fl 0 fld_115_0 rfl rfl rfl)) ?_
 refine hg1 (i:=12) rfl (by kernel_rfl) rfl rfl rfl rfl rfl (bk_ (Gh.refl _) h03 (.cons _ (.cons_cons _ (.cons_cons _ .slnil)))) (λhg16=>(q_fl 0 fld_112_0 rfl (gu hg16 rfl) rfl)) ?_
 refine hg1 (i:=13) rfl (by kernel_rfl) rfl rfl rfl rfl rfl (bk_ (Gh.refl _) h03 (.cons _ (.cons_cons _ (.cons_cons _ .slnil)))) (λhg17=>(q_ldl (i:=1) (v:=.int .i64 v_.dot.s) rfl rfl Tryz.isAgg3 (gu hg17 rfl) rfl)) ?_
 refine hg1 (i:=15) rfl (by kernel_rfl) rfl rfl rfl rfl rfl (bk_ (Gh.refl _) h03 (.cons _ (.cons_cons _ (.cons_cons _ .slnil)))) (λhg18=>(q_fl 0 fld_115_0 rfl rfl rfl)) ?_
 refine hg1 (i:=16) rfl (by kernel_rfl) rfl rfl rfl rfl rfl (bk_ (Gh.refl _) h03 (.cons _ (.cons_cons _ (.cons_cons _ .slnil)))) (λhg19=>(q_fl 1 fld_112_1 rfl (gu hg19 rfl) rfl)) ?_
 refine hg1 (i:=17) rfl (by kernel_rfl) rfl rfl rfl rfl rfl (bk_ (Gh.refl _) h03 (.cons _ (.cons_cons _ (.cons_cons _ .slnil)))) (λhg20=>(q_ldl (i:=1) (v:=.int .i64 v_.dot.n) rfl rfl Tryz.isAgg2 (gu hg20 rfl) rfl)) ?_
 refine ai (i:=14) (by kernel_rfl) rfl ?_
 obtain⟨z22,hz23,h⟩:=bnd h
 refine vg1 rfl rfl rfl rfl rfl (λhg21=>(q_call (call_run Tryz.call138 rfl rfl (args2 (gu hg21 rfl) (gu hg21 rfl))) (λw hw=>t_span_Top (Γ:=Gh.all w) (hv_.2.2.1.2.mono hw.sat.le_all) hv_.2.2.1.1 v_.dot.s hv_.1 (Sat.all w) (gc_of hz23 hg21)))) ?_
 refine ab ?_
 refine WH.next (bk_ (Gh.refl _) h03 (.cons _ (.cons_cons _ (.cons_cons _ .slnil)))) ?_
 refine hg1 (i:=18) rfl (by kernel_rfl) rfl rfl rfl rfl rfl (bk_ (Gh.refl _) h03 (.cons _ (.cons_cons _ (.cons_cons _ .slnil)))) (λhg24=>(q_lss rfl (gu hg24 rfl) (gu hg24 rfl))) ?_
 refine hu 19 rfl (bk_ (Gh.refl _) h03 (.cons _ (.cons_cons _ (.cons_cons _ .slnil)))) (q_pick rfl rfl (pk_and' (g:=(z6&&z11)) (y:=(decide (z22<v_.dot.n))))) ?_
 refine hu 20 rfl (bk_ (Gh.refl _) h03 (.cons _ (.cons_cons _ (.cons_cons _ .slnil)))) (q_move (v:=.bool ((z6&&z11)&&(decide (z22<v_.dot.n)))) rfl (by kernel_rfl)) ?_
 refine hg1 (i:=21) rfl (by kernel_rfl) rfl rfl rfl rfl rfl (bk_ (Gh.refl _) h03 (.cons _ (.cons_cons _ (.cons_cons _ .slnil)))) (λhg25=>(q_fl 4 fld_115_3 rfl rfl rfl)) ?_
 refine hg1 (i:=22) rfl (by kernel_rfl) rfl rfl rfl rfl rfl (bk_ (Gh.refl _) h03 (.cons _ (.cons_cons _ (.cons_cons _ .slnil)))) (λhg26=>(q_ldl (i:=1) (v:=.string v_.val) rfl rfl Tryz.isAgg9 (gu hg26 rfl) rfl)) ?_
 refine hg1 (i:=23) rfl (by kernel_rfl) rfl rfl rfl rfl rfl (bk_ (Gh.refl _) h03 (.cons _ (.cons_cons _ (.cons_cons _ .slnil)))) (λhg27=>(q_len_str rfl Tryz.underlying9 (gu hg27 rfl))) ?_
 refine hg1 (i:=24) rfl (by kernel_rfl) rfl rfl rfl rfl rfl (bk_ (Gh.refl _) h03 (.cons _ (.cons_cons _ (.cons_cons _ .slnil)))) (λhg28=>(q_leq rfl (gu hg28 rfl) rfl)) ?_
 refine hu 25 rfl (bk_ (Gh.refl _) h03 (.cons _ (.cons_cons _ (.cons_cons _ .slnil)))) (q_pick rfl rfl (pk_and' (g:=((z6&&z11)&&(decide (z22<v_.dot.n)))) (y:=(decide (((v_.val.size:Nat):Int)≤256))))) ?_
 refine hu 26 rfl (bk_ (Gh.refl _) h03 (.cons _ (.cons_cons _ (.cons_cons _ .slnil)))) (q_move (v:=.bool (((z6&&z11)&&(decide (z22<v_.dot.n)))&&(decide (((v_.val.size:Nat):Int)≤256)))) rfl (by kernel_rfl)) ?_
 refine hg1 (i:=27) rfl (by kernel_rfl) rfl rfl rfl rfl rfl (bk_ (Gh.refl _) h03 (.cons _ (.cons_cons _ (.cons_cons _ .slnil)))) (λhg29=>(q_fl 3 fld_115_2 rfl rfl rfl)) ?_
 refine hg1 (i:=28) rfl (by kernel_rfl) rfl rfl rfl rfl rfl (bk_ (Gh.refl _) h03 (.cons _ (.cons_cons _ (.cons_cons _ .slnil)))) (λhg30=>(q_ldl (i:=1) (v:=.bool v_.gone) rfl rfl Tryz.isAgg4 (gu hg30 rfl) rfl)) ?_
 refine hg1 (i:=29) rfl (by kernel_rfl) rfl rfl rfl rfl rfl (bk_ (Gh.refl _) h03 (.cons _ (.cons_cons _ (.cons_cons _ .slnil)))) (λhg31=>(q_not rfl (gu hg31 rfl))) ?_
 refine hg1 (i:=30) rfl (by kernel_rfl) rfl rfl rfl rfl rfl (bk_ (Gh.refl _) h03 (.cons _ (.cons_cons _ (.cons_cons _ .slnil)))) (λhg32=>(q_move (v:=.bool (!v_.gone)) rfl (gu hg32 rfl))) ?_
 refine hh0 (c0:=(((z6&&z11)&&(decide (z22<v_.dot.n)))&&(decide (((v_.val.size:Nat):Int)≤256)))) (g:=(!v_.gone)) (i:=31) rfl (by kernel_rfl) rfl rfl rfl rfl rfl (bk_ (Gh.refl _) h03 (.cons _ (.cons_cons _ (.cons_cons _ .slnil)))) (λhg33=>(q_fl 4 fld_115_3 rfl rfl rfl)) ?_
 refine hh0 (c0:=(((z6&&z11)&&(decide (z22<v_.dot.n)))&&(decide (((v_.val.size:Nat):Int)≤256)))) (g:=(!v_.gone)) (i:=32) rfl (by kernel_rfl) rfl rfl rfl rfl rfl (bk_ (Gh.refl _) h03 (.cons _ (.cons_cons _ (.cons_cons _ .slnil)))) (λhg34=>(q_ldl (i:=1) (v:=.string v_.val) rfl rfl Tryz.isAgg9 (gu hg34 rfl) rfl)) ?_
 refine hh0 (c0:=(((z6&&z11)&&(decide (z22<v_.dot.n)))&&(decide (((v_.val.size:Nat):Int)≤256)))) (g:=(!v_.gone)) (i:=33) rfl (by kernel_rfl) rfl rfl rfl rfl rfl (bk_ (Gh.refl _) h03 (.cons _ (.cons_cons _ (.cons_cons _ .slnil)))) (λhg35=>(q_seql rfl (gu hg35 rfl) rfl)) ?_
 refine hg1 (i:=34) rfl (by kernel_rfl) rfl rfl rfl rfl rfl (bk_ (Gh.refl _) h03 (.cons _ (.cons_cons _ (.cons_cons _ .slnil)))) (λhg36=>(q_pick rfl (gu hg36 rfl) (pk_or (c:=(((z6&&z11)&&(decide (z22<v_.dot.n)))&&(decide (((v_.val.size:Nat):Int)≤256)))) (g:=(!v_.gone)) (y:=(v_.val==ByteArray.empty)) hg36))) ?_
 refine hu 35 rfl (bk_ (Gh.refl _) h03 (.cons _ (.cons_cons _ (.cons_cons _ .slnil)))) (q_pick rfl rfl (pk_and' (g:=(((z6&&z11)&&(decide (z22<v_.dot.n)))&&(decide (((v_.val.size:Nat):Int)≤256)))) (y:=((!v_.gone)||(v_.val==ByteArray.empty))))) ?_
 refine hu 36 rfl (bk_ (Gh.refl _) h03 (.cons _ (.cons_cons _ (.cons_cons _ .slnil)))) (q_assign (v:=.bool ((((z6&&z11)&&(decide (z22<v_.dot.n)))&&(decide (((v_.val.size:Nat):Int)≤256)))&&((!v_.gone)||(v_.val==ByteArray.empty)))) rfl (by kernel_rfl)) ?_
 refine au (by kernel_rfl) ?_
 change WC _ _ _ _ _ _
 refine ac ?_
 intro w hw
 cases h
 subst hF
 exact⟨by kernel_rfl,hw.fr⟩
theorem t_vers_before{Γ:Gh}{w0:World}(a:Dot)(ha:Dot.fits Γ  a)(b:Dot)(hb:Dot.fits Γ  b)(hs:Sat Γ w0){r:Bool}(h:m_vers_before a b=some r):Calls Tryz.prog 114 #[.agg #[.int .i64 a.s,.int .i64 a.n],.agg #[.int .i64 b.s,.int .i64 b.n]] w0 (λe w'=>e = .returned (.bool r)∧Fr no w0 w'):=by
 refine calls_of (N:=24) (rs:=[4]) (args:=[.agg #[.int .i64 a.s,.int .i64 a.n],.agg #[.int .i64 b.s,.int .i64 b.n]]) Tryz.func114 rfl Tryz.ntmps114 Tryz.results114 rfl ?_
 obtain⟨F,hF⟩:∃F:Fm,F=⟨no,w0,Γ⟩:=⟨_,rfl⟩
 refine aa (C:=CC F Γ []) ?_ (hF▸Cur.start0 hs)
 refine a7 ?_
 refine e_box (v:=.agg #[.int .i64 a.s,.int .i64 a.n]) rfl rfl rfl rfl (by kernel_rfl) ?_
 intro g1
 refine e_box (v:=.agg #[.int .i64 b.s,.int .i64 b.n]) rfl rfl rfl rfl (by kernel_rfl) ?_
 intro g2
 refine as_ (v:=.bool false) ?_
 refine a6 ?_
 refine a7 ?_
 refine vb (q_fl 0 fld_112_0 rfl rfl rfl) ?_
 refine vb (q_ldl (i:=1) (v:=.int .i64 a.s) rfl rfl Tryz.isAgg3 rfl rfl) ?_
 refine vb (q_fl 0 fld_112_0 rfl rfl rfl) ?_
 refine vb (q_ldl (i:=0) (v:=.int .i64 b.s) rfl rfl Tryz.isAgg3 rfl rfl) ?_
 refine vb (q_lss rfl rfl rfl) ?_
 refine mv (v:=.bool (decide (a.s<b.s))) ?_
 refine vg0 rfl rfl rfl rfl rfl (λhg3=>QV.qo (q_fl 0 fld_112_0 rfl rfl rfl)) ?_
 refine vg0 rfl rfl rfl rfl rfl (λhg4=>QV.qo (q_ldl (i:=1) (v:=.int .i64 a.s) rfl rfl Tryz.isAgg3 (gu hg4 rfl) rfl)) ?_
 refine vg0 rfl rfl rfl rfl rfl (λhg5=>QV.qo (q_fl 0 fld_112_0 rfl rfl rfl)) ?_
 refine vg0 rfl rfl rfl rfl rfl (λhg6=>QV.qo (q_ldl (i:=0) (v:=.int .i64 b.s) rfl rfl Tryz.isAgg3 (gu hg6 rfl) rfl)) ?_
 refine vg0 rfl rfl rfl rfl rfl (λhg7=>QV.qo (q_eql rfl (gu hg7 rfl) (gu hg7 rfl))) ?_
 refine vg0 rfl rfl rfl rfl rfl (λhg8=>QV.qo (q_move (v:=.bool (a.s==b.s)) rfl (gu hg8 rfl))) ?_
 refine vh1 (c0:=(!(decide (a.s<b.s)))) (g:=(a.s==b.s)) rfl rfl rfl rfl rfl (λhg9=>QV.qo (q_fl 1 fld_112_1 rfl rfl rfl)) ?_
 refine vh1 (c0:=(!(decide (a.s<b.s)))) (g:=(a.s==b.s)) rfl rfl rfl rfl rfl (λhg10=>QV.qo (q_ldl (i:=1) (v:=.int .i64 a.n) rfl rfl Tryz.isAgg2 (gu hg10 rfl) rfl)) ?_
 refine vh1 (c0:=(!(decide (a.s<b.s)))) (g:=(a.s==b.s)) rfl rfl rfl rfl rfl (λhg11=>QV.qo (q_fl 1 fld_112_1 rfl rfl rfl)) ?_
 refine vh1 (c0:=(!(decide (a.s<b.s)))) (g:=(a.s==b.s)) rfl rfl rfl rfl rfl (λhg12=>QV.qo (q_ldl (i:=0) (v:=.int .i64 b.n) rfl rfl Tryz.isAgg2 (gu hg12 rfl) rfl)) ?_
 refine vh1 (c0:=(!(decide (a.s<b.s)))) (g:=(a.s==b.s)) rfl rfl rfl rfl rfl (λhg13=>QV.qo (q_lss rfl (gu hg13 rfl) (gu hg13 rfl))) ?_
 refine vg0 rfl rfl rfl rfl rfl (λhg14=>QV.qo (q_pick rfl (gu hg14 rfl) (pk_and (c:=(!(decide (a.s<b.s)))) (g:=(a.s==b.s)) (y:=(decide (a.n<b.n))) hg14))) ?_
 refine vb (q_pick rfl rfl (pk_or' (g:=(decide (a.s<b.s))) (y:=((a.s==b.s)&&(decide (a.n<b.n)))))) ?_
 refine as_ (v:=.bool ((decide (a.s<b.s))||((a.s==b.s)&&(decide (a.n<b.n))))) ?_
 refine a6 ?_
 refine ac ?_
 intro w hw
 cases h
 subst hF
 exact⟨by kernel_rfl,hw.fr⟩
theorem t_span_Has{Γ:Gh}{w0:World}{Al:Option Addr}{cl:Nat}{l:List Span}(hl:Sl spanT Γ Al l)(hlc:l.length≤cl)(d:Dot)(hd:Dot.fits Γ  d)(hs:Sat Γ w0){r:Bool}(h:m_span_Has l d=some r):Calls Tryz.prog 139 #[.slice Al l.length cl,.agg #[.int .i64 d.s,.int .i64 d.n]] w0 (λe w'=>e = .returned (.bool r)∧Fr no w0 w'):=by
 refine calls_of (N:=33) (rs:=[4]) (args:=[.slice Al l.length cl,.agg #[.int .i64 d.s,.int .i64 d.n]]) Tryz.func139 rfl Tryz.ntmps139 Tryz.results139 rfl ?_
 obtain⟨F,hF⟩:∃F:Fm,F=⟨no,w0,Γ⟩:=⟨_,rfl⟩
 refine aa (C:=CC F Γ []) ?_ (hF▸Cur.start0 hs)
 refine a7 ?_
 refine e_box (v:=.agg #[.int .i64 d.s,.int .i64 d.n]) rfl rfl rfl rfl (by kernel_rfl) ?_
 intro g1
 refine as_ (v:=.bool false) ?_
 refine a6 ?_
 refine a8 ?_
 refine a7 ?_
 refine mv (v:=.slice Al l.length cl) ?_
 refine vb (q_len_slice rfl Tryz.underlying113 rfl) ?_
 refine mv (v:=.int .i64 0) ?_
 refine a6 ?_
 refine af ?_
 refine ap h (λ(i3:Nat) (s:Unit) σ w=>match s with | ()=>slots σ [(3,(pq g1)),(7,.slice Al l.length cl),(8,.int .i64 ((l.length:Nat):Int)),(9,.int .i64 ((i3:Nat):Int))]∧CC F Γ [[(g1,.cells #[.int .i64 d.s,.int .i64 d.n] 112 (0,0))]] w∧True) ?_ ?_
 ·
  intro w hw
  exact⟨(sl_ (by kernel_rfl)),hw,trivial⟩
 rintro f2 i3 ⟨⟩ σ w hi4 hlt5 hge6 ⟨hsl,hw,-⟩
 refine Wpt.slots hsl ?_
 refine aa (C:=CC F Γ [[(g1,.cells #[.int .i64 d.s,.int .i64 d.n] 112 (0,0))]]) ?_ hw
 clear hw hsl
 refine a7 ?_
 refine vb (q_lss rfl rfl rfl) ?_
 refine a6 ?_
 refine a8 ?_
 refine WC.cond (b:=(decide (((i3:Nat):Int)<((l.length:Nat):Int)))) (by kernel_rfl) (λhb7=>?_) (λhb7=>?_)
 ·
  have hl8:=ilt hb7
  have h:=hlt5 hl8
  refine ae ?_
  change WC _ _ _ _ _ _
  refine a8 ?_
  refine af ?_
  refine a7 ?_
  refine vb (q_ixn (i:=i3) Tryz.underlying113 Tryz.sizeOf117 rfl rfl rfl hl8 (hl.some_ hl8)) ?_
  refine vb (q_lda (c:=0) (vs:=[.int .i64 (gt l i3).s,.int .i64 (gt l i3).f,.int .i64 (gt l i3).t]) (hl.spanT_at hl8).2 rfl Tryz.isAgg117 Tryz.sizeOf117 rfl rfl rfl) ?_
  refine e_alloc Tryz.zeroValue117 rfl rfl rfl rfl ?_
  intro g9
  refine e_st (i:=0) (v:=.agg #[.int .i64 (gt l i3).s,.int .i64 (gt l i3).f,.int .i64 (gt l i3).t]) (new:=#[.int .i64 (gt l i3).s,.int .i64 (gt l i3).f,.int .i64 (gt l i3).t]) rfl Tryz.sizeOf117 rfl rfl rfl rfl (by kernel_rfl) rfl rfl rfl rfl ?_
  refine a6 ?_
  refine a7 ?_
  refine vb (q_fl 0 fld_117_0 rfl rfl rfl) ?_
  refine vb (q_ldl (i:=0) (v:=.int .i64 (gt l i3).s) rfl rfl Tryz.isAgg3 rfl rfl) ?_
  refine vb (q_fl 0 fld_112_0 rfl rfl rfl) ?_
  refine vb (q_ldl (i:=1) (v:=.int .i64 d.s) rfl rfl Tryz.isAgg3 rfl rfl) ?_
  refine vb (q_eql rfl rfl rfl) ?_
  refine mv (v:=.bool ((gt l i3).s==d.s)) ?_
  refine vg1 rfl rfl rfl rfl rfl (λhg10=>QV.qo (q_fl 1 fld_117_1 rfl rfl rfl)) ?_
  refine vg1 rfl rfl rfl rfl rfl (λhg11=>QV.qo (q_ldl (i:=0) (v:=.int .i64 (gt l i3).f) rfl rfl Tryz.isAgg2 (gu hg11 rfl) rfl)) ?_
  refine vg1 rfl rfl rfl rfl rfl (λhg12=>QV.qo (q_fl 1 fld_112_1 rfl rfl rfl)) ?_
  refine vg1 rfl rfl rfl rfl rfl (λhg13=>QV.qo (q_ldl (i:=1) (v:=.int .i64 d.n) rfl rfl Tryz.isAgg2 (gu hg13 rfl) rfl)) ?_
  refine vg1 rfl rfl rfl rfl rfl (λhg14=>QV.qo (q_leq rfl (gu hg14 rfl) (gu hg14 rfl))) ?_
  refine vb (q_pick rfl rfl (pk_and' (g:=((gt l i3).s==d.s)) (y:=(decide ((gt l i3).f≤d.n))))) ?_
  refine mv (v:=.bool (((gt l i3).s==d.s)&&(decide ((gt l i3).f≤d.n)))) ?_
  refine vg1 rfl rfl rfl rfl rfl (λhg15=>QV.qo (q_fl 1 fld_112_1 rfl rfl rfl)) ?_
  refine vg1 rfl rfl rfl rfl rfl (λhg16=>QV.qo (q_ldl (i:=1) (v:=.int .i64 d.n) rfl rfl Tryz.isAgg2 (gu hg16 rfl) rfl)) ?_
  refine vg1 rfl rfl rfl rfl rfl (λhg17=>QV.qo (q_fl 2 fld_117_2 rfl rfl rfl)) ?_
  refine vg1 rfl rfl rfl rfl rfl (λhg18=>QV.qo (q_ldl (i:=0) (v:=.int .i64 (gt l i3).t) rfl rfl Tryz.isAgg2 (gu hg18 rfl) rfl)) ?_
  refine vg1 rfl rfl rfl rfl rfl (λhg19=>QV.qo (q_leq rfl (gu hg19 rfl) (gu hg19 rfl))) ?_
  refine vb (q_pick rfl rfl (pk_and' (g:=(((gt l i3).s==d.s)&&(decide ((gt l i3).f≤d.n)))) (y:=(decide (d.n≤(gt l i3).t))))) ?_
  refine a6 ?_
  refine aj h (by kernel_rfl) (λhb20 h=>?_) (λhb20 h=>?_)
  ·
   refine a7 ?_
   refine as_ (v:=.bool true) ?_
   refine a6 ?_
   refine ac ?_
   intro w hw
   cases h
   subst hF
   exact⟨by kernel_rfl,hw.fr⟩
  ·
   refine ae ?_
   change WC _ _ _ _ _ _
   refine ah ?_
   refine vb (q_add_r (r:=((i3+1:Nat):Int)) rfl rfl rfl (ctr_len hl8 hl.le)) ?_
   refine mv (v:=.int .i64 ((i3+1:Nat):Int)) ?_
   exact ab λw hw=>⟨hl8,(),h,(sl_ (by kernel_rfl)),(hw.only (is:=[1]) rfl),trivial⟩
 ·
  have h:=hge6 (ige hb7)
  refine am ?_
  change WC _ _ _ _ _ _
  refine a7 ?_
  refine as_ (v:=.bool false) ?_
  refine a6 ?_
  refine ac ?_
  intro w hw
  cases h
  subst hF
  exact⟨by kernel_rfl,hw.fr⟩
theorem t_vers_behind{Γ:Gh}{w0:World}(d:Dot)(hd:Dot.fits Γ  d){Al:Option Addr}{cl:Nat}{l:List Ver}(hl:Sl verT Γ Al l)(hlc:l.length≤cl)(hs:Sat Γ w0){r:Bool}(h:m_vers_behind d l=some r):Calls Tryz.prog 115 #[.agg #[.int .i64 d.s,.int .i64 d.n],.slice Al l.length cl] w0 (λe w'=>e = .returned (.bool r)∧Fr no w0 w'):=by
 refine calls_of (N:=18) (rs:=[4]) (args:=[.agg #[.int .i64 d.s,.int .i64 d.n],.slice Al l.length cl]) Tryz.func115 rfl Tryz.ntmps115 Tryz.results115 rfl ?_
 obtain⟨F,hF⟩:∃F:Fm,F=⟨no,w0,Γ⟩:=⟨_,rfl⟩
 refine aa (C:=CC F Γ []) ?_ (hF▸Cur.start0 hs)
 refine a7 ?_
 refine e_box (v:=.agg #[.int .i64 d.s,.int .i64 d.n]) rfl rfl rfl rfl (by kernel_rfl) ?_
 intro g1
 refine as_ (v:=.bool false) ?_
 refine a6 ?_
 refine a8 ?_
 refine a7 ?_
 refine mv (v:=.slice Al l.length cl) ?_
 refine vb (q_len_slice rfl Tryz.underlying67 rfl) ?_
 refine mv (v:=.int .i64 0) ?_
 refine a6 ?_
 refine af ?_
 refine ap h (λ(i3:Nat) (s:Unit) σ w=>match s with | ()=>slots σ [(2,(pq g1)),(7,.slice Al l.length cl),(8,.int .i64 ((l.length:Nat):Int)),(9,.int .i64 ((i3:Nat):Int))]∧CC F Γ [[(g1,.cells #[.int .i64 d.s,.int .i64 d.n] 112 (0,0))]] w∧True) ?_ ?_
 ·
  intro w hw
  exact⟨(sl_ (by kernel_rfl)),hw,trivial⟩
 rintro f2 i3 ⟨⟩ σ w hi4 hlt5 hge6 ⟨hsl,hw,-⟩
 refine Wpt.slots hsl ?_
 refine aa (C:=CC F Γ [[(g1,.cells #[.int .i64 d.s,.int .i64 d.n] 112 (0,0))]]) ?_ hw
 clear hw hsl
 refine a7 ?_
 refine vb (q_lss rfl rfl rfl) ?_
 refine a6 ?_
 refine a8 ?_
 refine WC.cond (b:=(decide (((i3:Nat):Int)<((l.length:Nat):Int)))) (by kernel_rfl) (λhb7=>?_) (λhb7=>?_)
 ·
  have hl8:=ilt hb7
  have h:=hlt5 hl8
  refine ae ?_
  change WC _ _ _ _ _ _
  refine a8 ?_
  refine af ?_
  refine a7 ?_
  refine vb (q_ixn (i:=i3) Tryz.underlying67 Tryz.sizeOf115 rfl rfl rfl hl8 (hl.some_ hl8)) ?_
  obtain⟨A9,c10,hx11⟩:=hl.verT_at i3
  refine vb (q_lda (c:=0) (vs:=[.int .i64 (gt l i3).dot.s,.int .i64 (gt l i3).dot.n,.slice A9 ((gt l i3).past).length c10,.bool (gt l i3).gone,.string (gt l i3).val]) (hx11 hl8).2 rfl Tryz.isAgg115 Tryz.sizeOf115 rfl rfl rfl) ?_
  refine e_alloc Tryz.zeroValue115 rfl rfl rfl rfl ?_
  intro g12
  refine e_st (i:=0) (v:=.agg #[.int .i64 (gt l i3).dot.s,.int .i64 (gt l i3).dot.n,.slice A9 ((gt l i3).past).length c10,.bool (gt l i3).gone,.string (gt l i3).val]) (new:=#[.int .i64 (gt l i3).dot.s,.int .i64 (gt l i3).dot.n,.slice A9 ((gt l i3).past).length c10,.bool (gt l i3).gone,.string (gt l i3).val]) rfl Tryz.sizeOf115 rfl rfl rfl rfl (by kernel_rfl) rfl rfl rfl rfl ?_
  refine a6 ?_
  refine a7 ?_
  refine vb (q_fl 2 fld_115_1 rfl rfl rfl) ?_
  refine vb (q_ldl (i:=0) (v:=.slice A9 ((gt l i3).past).length c10) rfl rfl Tryz.isAgg113 rfl rfl) ?_
  refine vb (q_ldla (i:=1) (vs:=[.int .i64 d.s,.int .i64 d.n]) rfl rfl Tryz.isAgg112 Tryz.sizeOf112 rfl rfl) ?_
  obtain⟨z13,hz14,h⟩:=bnd h
  refine vc rfl rfl rfl (q_call (call_run Tryz.call139 rfl rfl (by kernel_rfl)) (λw hw=>t_span_Has (Γ:=Gh.all w) ((hx11 hl8).1.2.2.1.2.mono hw.sat.le_all) (hx11 hl8).1.2.2.1.1 d hd (Sat.all w) hz14)) ?_
  refine a6 ?_
  refine aj h (by kernel_rfl) (λhb15 h=>?_) (λhb15 h=>?_)
  ·
   refine a7 ?_
   refine as_ (v:=.bool true) ?_
   refine a6 ?_
   refine ac ?_
   intro w hw
   cases h
   subst hF
   exact⟨by kernel_rfl,hw.fr⟩
  ·
   refine ae ?_
   change WC _ _ _ _ _ _
   refine ah ?_
   refine vb (q_add_r (r:=((i3+1:Nat):Int)) rfl rfl rfl (ctr_len hl8 hl.le)) ?_
   refine mv (v:=.int .i64 ((i3+1:Nat):Int)) ?_
   exact ab λw hw=>⟨hl8,(),h,(sl_ (by kernel_rfl)),(hw.only (is:=[1]) rfl),trivial⟩
 ·
  have h:=hge6 (ige hb7)
  refine am ?_
  change WC _ _ _ _ _ _
  refine a7 ?_
  refine as_ (v:=.bool false) ?_
  refine a6 ?_
  refine ac ?_
  intro w hw
  cases h
  subst hF
  exact⟨by kernel_rfl,hw.fr⟩
theorem t_vers_Right{Γ:Gh}{w0:World}{Al:Option Addr}{cl:Nat}{l:List Ver}(hl:Sl verT Γ Al l)(hlc:l.length≤cl)(hs:Sat Γ w0){r:Bool}(h:m_vers_Right l=some r):Calls Tryz.prog 99 #[.slice Al l.length cl] w0 (λe w'=>e = .returned (.bool r)∧Fr no w0 w'):=by
 refine calls_of (N:=41) (rs:=[2]) (args:=[.slice Al l.length cl]) Tryz.func99 rfl Tryz.ntmps99 Tryz.results99 rfl ?_
 obtain⟨F,hF⟩:∃F:Fm,F=⟨no,w0,Γ⟩:=⟨_,rfl⟩
 refine aa (C:=CC F Γ []) ?_ (hF▸Cur.start0 hs)
 refine a7 ?_
 refine as_ (v:=.bool false) ?_
 refine a6 ?_
 refine a8 ?_
 refine a7 ?_
 refine mv (v:=.slice Al l.length cl) ?_
 refine vb (q_len_slice rfl Tryz.underlying67 rfl) ?_
 refine mv (v:=.int .i64 0) ?_
 refine a6 ?_
 refine af ?_
 refine ap h (λ(i2:Nat) (s:Unit) σ w=>match s with | ()=>slots σ [(0,.slice Al l.length cl),(5,.slice Al l.length cl),(6,.int .i64 ((l.length:Nat):Int)),(7,.int .i64 ((i2:Nat):Int))]∧CC F Γ [] w∧True) ?_ ?_
 ·
  intro w hw
  exact⟨(sl_ (by kernel_rfl)),hw,trivial⟩
 rintro f1 i2 ⟨⟩ σ w hi3 hlt4 hge5 ⟨hsl,hw,-⟩
 refine Wpt.slots hsl ?_
 refine aa (C:=CC F Γ []) ?_ hw
 clear hw hsl
 refine a7 ?_
 refine vb (q_lss rfl rfl rfl) ?_
 refine a6 ?_
 refine a8 ?_
 refine WC.cond (b:=(decide (((i2:Nat):Int)<((l.length:Nat):Int)))) (by kernel_rfl) (λhb6=>?_) (λhb6=>?_)
 ·
  have hl7:=ilt hb6
  have h:=hlt4 hl7
  refine ae ?_
  change WC _ _ _ _ _ _
  refine a8 ?_
  refine af ?_
  refine a7 ?_
  refine mv (v:=.int .i64 ((i2:Nat):Int)) ?_
  refine vb (q_ixn (i:=i2) Tryz.underlying67 Tryz.sizeOf115 rfl rfl rfl hl7 (hl.some_ hl7)) ?_
  obtain⟨A8,c9,hx10⟩:=hl.verT_at i2
  refine vb (q_lda (c:=0) (vs:=[.int .i64 (gt l i2).dot.s,.int .i64 (gt l i2).dot.n,.slice A8 ((gt l i2).past).length c9,.bool (gt l i2).gone,.string (gt l i2).val]) (hx10 hl7).2 rfl Tryz.isAgg115 Tryz.sizeOf115 rfl rfl rfl) ?_
  refine e_alloc Tryz.zeroValue115 rfl rfl rfl rfl ?_
  intro g11
  refine as_ (v:=.int .i64 ((i2:Nat):Int)) ?_
  refine e_st (i:=0) (v:=.agg #[.int .i64 (gt l i2).dot.s,.int .i64 (gt l i2).dot.n,.slice A8 ((gt l i2).past).length c9,.bool (gt l i2).gone,.string (gt l i2).val]) (new:=#[.int .i64 (gt l i2).dot.s,.int .i64 (gt l i2).dot.n,.slice A8 ((gt l i2).past).length c9,.bool (gt l i2).gone,.string (gt l i2).val]) rfl Tryz.sizeOf115 rfl rfl rfl rfl (by kernel_rfl) rfl rfl rfl rfl ?_
  refine a6 ?_
  refine a8 ?_
  refine ay (by kernel_rfl) (by kernel_rfl) (λw hw=>hw.drawn _) ?_
  refine wa rfl rfl rfl (q_ldla (i:=0) (vs:=[.int .i64 (gt l i2).dot.s,.int .i64 (gt l i2).dot.n,.slice A8 ((gt l i2).past).length c9,.bool (gt l i2).gone,.string (gt l i2).val]) rfl rfl Tryz.isAgg115 Tryz.sizeOf115 rfl rfl) ?_
  obtain⟨z12,hz13,h⟩:=bnd h
  refine wc rfl rfl rfl (q_call (call_run Tryz.call113 rfl rfl (by kernel_rfl)) (λw hw=>t_vers_RightOne (Γ:=Gh.all w) (gt l i2) (Ver.fits_mono (hx10 hl7).1 hw.sat.le_all) (Sat.all w) hz13)) ?_
  refine wa rfl rfl rfl (q_not rfl rfl) ?_
  refine wa rfl rfl rfl (q_move (v:=.bool (!z12)) rfl (by kernel_rfl)) ?_
  refine wg0 rfl rfl rfl rfl rfl (λhg14=>QV.qo (q_move (v:=.int .i64 ((i2:Nat):Int)) rfl (by kernel_rfl))) ?_
  refine wg0 rfl rfl rfl rfl rfl (λhg15=>QV.qo (q_gtr rfl (gu hg15 rfl) rfl)) ?_
  refine wg0 rfl rfl rfl rfl rfl (λhg16=>QV.qo (q_move (v:=.bool (decide (0<((i2:Nat):Int)))) rfl (gu hg16 rfl))) ?_
  refine wh1 (c0:=(!(!z12))) (g:=(decide (0<((i2:Nat):Int)))) rfl rfl rfl rfl rfl (λhg17=>QV.qo (q_move (v:=.slice Al l.length cl) rfl (by kernel_rfl))) ?_
  refine wh1 (c0:=(!(!z12))) (g:=(decide (0<((i2:Nat):Int)))) rfl rfl rfl rfl rfl (λhg18=>QV.qo (q_move (v:=.int .i64 ((i2:Nat):Int)) rfl (by kernel_rfl))) ?_
  refine wh1 (c0:=(!(!z12))) (g:=(decide (0<((i2:Nat):Int)))) rfl rfl rfl rfl rfl (λhg19=>QV.qo (q_sub rfl (gu hg19 rfl) rfl)) ?_
  obtain⟨hk21,h⟩:=chk_some h
  refine wh1 (c0:=(!(!z12))) (g:=(decide (0<((i2:Nat):Int)))) rfl rfl rfl rfl rfl (λhg20=>QV.qo (q_ix Tryz.underlying67 Tryz.sizeOf115 rfl (gu hg20 rfl) (gu hg20 rfl) (imp_of hk21 hg20) (hl.some_ (inb_lt (imp_of hk21 hg20))))) ?_
  refine wh1 (c0:=(!(!z12))) (g:=(decide (0<((i2:Nat):Int)))) rfl rfl rfl rfl rfl (λhg22=>QV.qo (q_field_addr (((w64 (((i2:Nat):Int) - 1)).toNat)*5) fld_115_0 rfl (gu hg22 rfl) (hl.some_ (inb_lt (imp_of hk21 hg22))) rfl)) ?_
  obtain⟨A24,c25,hx26⟩:=hl.verT_at ((w64 (((i2:Nat):Int) - 1)).toNat)
  refine wh1 (c0:=(!(!z12))) (g:=(decide (0<((i2:Nat):Int)))) rfl rfl rfl rfl rfl (λhg23=>QV.qo (q_lda (c:=0) (vs:=[.int .i64 (gt l ((w64 (((i2:Nat):Int) - 1)).toNat)).dot.s,.int .i64 (gt l ((w64 (((i2:Nat):Int) - 1)).toNat)).dot.n]) (hx26 (inb_lt (imp_of hk21 hg23))).2 rfl Tryz.isAgg112 Tryz.sizeOf112 (gu hg23 rfl) rfl rfl)) ?_
  refine wh1 (c0:=(!(!z12))) (g:=(decide (0<((i2:Nat):Int)))) rfl rfl rfl rfl rfl (λhg27=>QV.qo (q_fl 0 fld_115_0 rfl rfl rfl)) ?_
  refine wh1 (c0:=(!(!z12))) (g:=(decide (0<((i2:Nat):Int)))) rfl rfl rfl rfl rfl (λhg28=>QV.qo (q_ldla (i:=0) (vs:=[.int .i64 (gt l i2).dot.s,.int .i64 (gt l i2).dot.n]) rfl rfl Tryz.isAgg112 Tryz.sizeOf112 (gu hg28 rfl) rfl)) ?_
  obtain⟨z30,hz31,h⟩:=bnd h
  refine wh1 (c0:=(!(!z12))) (g:=(decide (0<((i2:Nat):Int)))) rfl rfl rfl rfl rfl (λhg29=>(q_call (call_run Tryz.call114 rfl rfl (args2 (gu hg29 rfl) (gu hg29 rfl))) (λw hw=>t_vers_before (Γ:=Gh.all w) ((gt l ((w64 (((i2:Nat):Int) - 1)).toNat)).dot) ⟨(hx26 (inb_lt (imp_of hk21 hg29))).1.1,(hx26 (inb_lt (imp_of hk21 hg29))).1.2.1⟩ ((gt l i2).dot) ⟨(hx10 hl7).1.1,(hx10 hl7).1.2.1⟩ (Sat.all w) (gc_of hz31 hg29)))) ?_
  refine wh1 (c0:=(!(!z12))) (g:=(decide (0<((i2:Nat):Int)))) rfl rfl rfl rfl rfl (λhg32=>QV.qo (q_not rfl (gu hg32 rfl))) ?_
  refine wg0 rfl rfl rfl rfl rfl (λhg33=>QV.qo (q_pick rfl (gu hg33 rfl) (pk_and (c:=(!(!z12))) (g:=(decide (0<((i2:Nat):Int)))) (y:=(!z30)) hg33))) ?_
  refine wa rfl rfl rfl (q_pick rfl rfl (pk_or' (g:=(!z12)) (y:=((decide (0<((i2:Nat):Int)))&&(!z30))))) ?_
  refine wa rfl rfl rfl (q_move (v:=.bool ((!z12)||((decide (0<((i2:Nat):Int)))&&(!z30)))) rfl (by kernel_rfl)) ?_
  refine wg0 rfl rfl rfl rfl rfl (λhg34=>QV.qo (q_fl 0 fld_115_0 rfl rfl rfl)) ?_
  refine wg0 rfl rfl rfl rfl rfl (λhg35=>QV.qo (q_ldla (i:=0) (vs:=[.int .i64 (gt l i2).dot.s,.int .i64 (gt l i2).dot.n]) rfl rfl Tryz.isAgg112 Tryz.sizeOf112 (gu hg35 rfl) rfl)) ?_
  refine wg0 rfl rfl rfl rfl rfl (λhg36=>QV.qo (q_move (v:=.slice Al l.length cl) rfl (by kernel_rfl))) ?_
  obtain⟨z38,hz39,h⟩:=bnd h
  refine wg0 rfl rfl rfl rfl rfl (λhg37=>(q_call (call_run Tryz.call115 rfl rfl (args2 (gu hg37 rfl) (gu hg37 rfl))) (λw hw=>t_vers_behind (Γ:=Gh.all w) ((gt l i2).dot) ⟨(hx10 hl7).1.1,(hx10 hl7).1.2.1⟩ (hl.mono hw.sat.le_all) hlc (Sat.all w) (gc_of hz39 hg37)))) ?_
  refine wa rfl rfl rfl (q_pick rfl rfl (pk_or' (g:=((!z12)||((decide (0<((i2:Nat):Int)))&&(!z30)))) (y:=z38))) ?_
  refine aw ?_
  change WC _ _ _ _ _ _
  refine aj h (by kernel_rfl) (λhb40 h=>?_) (λhb40 h=>?_)
  ·
   refine a7 ?_
   refine as_ (v:=.bool false) ?_
   refine a6 ?_
   refine ac ?_
   intro w hw
   cases h
   subst hF
   exact⟨by kernel_rfl,hw.fr⟩
  ·
   refine ae ?_
   change WC _ _ _ _ _ _
   refine ah ?_
   refine vb (q_add_r (r:=((i2+1:Nat):Int)) rfl rfl rfl (ctr_len hl7 hl.le)) ?_
   refine mv (v:=.int .i64 ((i2+1:Nat):Int)) ?_
   exact ab λw hw=>⟨hl7,(),h,(sl_ (by kernel_rfl)),(hw.only (is:=[]) rfl),trivial⟩
 ·
  have h:=hge5 (ige hb6)
  refine am ?_
  change WC _ _ _ _ _ _
  refine a7 ?_
  refine mv (v:=.slice Al l.length cl) ?_
  refine vb (q_len_slice rfl Tryz.underlying67 rfl) ?_
  refine vb (q_leq rfl rfl rfl) ?_
  refine as_ (v:=.bool (decide (((l.length:Nat):Int)≤512))) ?_
  refine a6 ?_
  refine ac ?_
  intro w hw
  cases h
  subst hF
  exact⟨by kernel_rfl,hw.fr⟩
theorem t_code_RightRec{Γ:Gh}{w0:World}{Ar_1:Option Addr}{cr_1:Nat}(r_:Rec)(hr_:Rec.fits Γ Ar_1 cr_1 r_)(hs:Sat Γ w0){r:Bool}(h:m_code_RightRec r_=some r):Calls Tryz.prog 83 #[.agg #[.string r_.key,.slice Ar_1 r_.vers.length cr_1]] w0 (λe w'=>e = .returned (.bool r)∧Fr no w0 w'):=by
 refine calls_of (N:=18) (rs:=[2]) (args:=[.agg #[.string r_.key,.slice Ar_1 r_.vers.length cr_1]]) Tryz.func83 rfl Tryz.ntmps83 Tryz.results83 rfl ?_
 obtain⟨F,hF⟩:∃F:Fm,F=⟨no,w0,Γ⟩:=⟨_,rfl⟩
 refine aa (C:=CC F Γ []) ?_ (hF▸Cur.start0 hs)
 refine a7 ?_
 refine e_box (v:=.agg #[.string r_.key,.slice Ar_1 r_.vers.length cr_1]) rfl rfl rfl rfl (by kernel_rfl) ?_
 intro g1
 refine as_ (v:=.bool false) ?_
 refine a6 ?_
 refine a7 ?_
 refine vb (q_fl 0 fld_70_0 rfl rfl rfl) ?_
 refine vb (q_ldl (i:=0) (v:=.string r_.key) rfl rfl Tryz.isAgg9 rfl rfl) ?_
 refine vb (q_len_str rfl Tryz.underlying9 rfl) ?_
 refine vb (q_geq rfl rfl rfl) ?_
 refine mv (v:=.bool (decide (1≤((r_.key.size:Nat):Int)))) ?_
 refine vg1 rfl rfl rfl rfl rfl (λhg2=>QV.qo (q_fl 0 fld_70_0 rfl rfl rfl)) ?_
 refine vg1 rfl rfl rfl rfl rfl (λhg3=>QV.qo (q_ldl (i:=0) (v:=.string r_.key) rfl rfl Tryz.isAgg9 (gu hg3 rfl) rfl)) ?_
 refine vg1 rfl rfl rfl rfl rfl (λhg4=>QV.qo (q_len_str rfl Tryz.underlying9 (gu hg4 rfl))) ?_
 refine vg1 rfl rfl rfl rfl rfl (λhg5=>QV.qo (q_leq rfl (gu hg5 rfl) rfl)) ?_
 refine vb (q_pick rfl rfl (pk_and' (g:=(decide (1≤((r_.key.size:Nat):Int)))) (y:=(decide (((r_.key.size:Nat):Int)≤32))))) ?_
 refine mv (v:=.bool ((decide (1≤((r_.key.size:Nat):Int)))&&(decide (((r_.key.size:Nat):Int)≤32)))) ?_
 refine vg1 rfl rfl rfl rfl rfl (λhg6=>QV.qo (q_fl 1 fld_70_1 rfl rfl rfl)) ?_
 refine vg1 rfl rfl rfl rfl rfl (λhg7=>QV.qo (q_ldl (i:=0) (v:=.slice Ar_1 r_.vers.length cr_1) rfl rfl Tryz.isAgg67 (gu hg7 rfl) rfl)) ?_
 obtain⟨z9,hz10,h⟩:=bnd h
 refine vg1 rfl rfl rfl rfl rfl (λhg8=>(q_call (call_run Tryz.call99 rfl rfl (args1 (gu hg8 rfl))) (λw hw=>t_vers_Right (Γ:=Gh.all w) (hr_.2.2.mono hw.sat.le_all) hr_.2.1 (Sat.all w) (gc_of hz10 hg8)))) ?_
 refine vb (q_pick rfl rfl (pk_and' (g:=((decide (1≤((r_.key.size:Nat):Int)))&&(decide (((r_.key.size:Nat):Int)≤32)))) (y:=z9))) ?_
 refine as_ (v:=.bool (((decide (1≤((r_.key.size:Nat):Int)))&&(decide (((r_.key.size:Nat):Int)≤32)))&&z9)) ?_
 refine a6 ?_
 refine ac ?_
 intro w hw
 cases h
 subst hF
 exact⟨by kernel_rfl,hw.fr⟩
theorem t_num_Hash{Γ:Gh}{w0:World}{Ab:Option Addr}{cb:Nat}{b:List UInt8}(hb:Sl byteT Γ Ab b)(hbc:b.length≤cb)(hs:Sat Γ w0){r:Int}(h:m_num_Hash b=some r):Calls Tryz.prog 100 #[.slice Ab b.length cb] w0 (λe w'=>e = .returned (.int .u64 r)∧Fr no w0 w'):=by
 refine calls_of (N:=27) (rs:=[2]) (args:=[.slice Ab b.length cb]) Tryz.func100 rfl Tryz.ntmps100 Tryz.results100 rfl ?_
 obtain⟨F,hF⟩:∃F:Fm,F=⟨no,w0,Γ⟩:=⟨_,rfl⟩
 refine aa (C:=CC F Γ []) ?_ (hF▸Cur.start0 hs)
 refine a7 ?_
 refine as_ (v:=.int .u64 0) ?_
 refine a6 ?_
 refine a7 ?_
 refine as_ (v:=.int .u64 14695981039346656037) ?_
 refine a6 ?_
 refine a8 ?_
 refine a7 ?_
 refine mv (v:=.slice Ab b.length cb) ?_
 refine vb (q_len_slice rfl Tryz.underlying136 rfl) ?_
 refine mv (v:=.int .i64 0) ?_
 refine a6 ?_
 refine af ?_
 refine ap h (λ(i4:Nat) (h_1:Int) σ w=>slots σ [(3,.int .u64 h_1),(6,.slice Ab b.length cb),(7,.int .i64 ((b.length:Nat):Int)),(8,.int .i64 ((i4:Nat):Int))]∧CC F Γ [] w∧U64 h_1∧True) ?_ ?_
 ·
  intro w hw
  exact⟨(sl_ (by kernel_rfl)),hw,(show U64 14695981039346656037 by decide),trivial⟩
 rintro f3 i4 h_1 σ w hi5 hlt6 hge7 ⟨hsl,hw,hr2,-⟩
 refine Wpt.slots hsl ?_
 refine aa (C:=CC F Γ []) ?_ hw
 clear hw hsl
 refine a7 ?_
 refine vb (q_lss rfl rfl rfl) ?_
 refine a6 ?_
 refine a8 ?_
 refine WC.cond (b:=(decide (((i4:Nat):Int)<((b.length:Nat):Int)))) (by kernel_rfl) (λhb8=>?_) (λhb8=>?_)
 ·
  have hl9:=ilt hb8
  have h:=hlt6 hl9
  refine ae ?_
  change WC _ _ _ _ _ _
  refine a8 ?_
  refine af ?_
  refine a7 ?_
  refine vb (q_ixn (i:=i4) Tryz.underlying136 Tryz.sizeOf5 rfl rfl rfl hl9 (hb.some_ hl9)) ?_
  refine vb (q_ld (c:=0) (v:=.int .u8 (((gt b i4).toNat:Nat):Int)) (hb.byteT_at hl9).2 rfl Tryz.isAgg5 rfl rfl) ?_
  refine as_ (v:=.int .u8 (((gt b i4).toNat:Nat):Int)) ?_
  refine a6 ?_
  refine ah ?_
  refine mv (v:=.int .u64 h_1) ?_
  refine mv (v:=.int .u8 (((gt b i4).toNat:Nat):Int)) ?_
  refine vb (q_conv Tryz.underlying78 Tryz.underlying5 rfl rfl) ?_
  refine vb (q_xor rfl rfl rfl) ?_
  refine vb (q_mul rfl rfl rfl) ?_
  refine as_ (v:=.int .u64 (wu64 ((ixor .u64 h_1 (wu64 (((gt b i4).toNat:Nat):Int)))*1099511628211))) ?_
  refine ab ?_
  change WC _ _ _ _ _ _
  refine ah ?_
  refine vb (q_add_r (r:=((i4+1:Nat):Int)) rfl rfl rfl (ctr_len hl9 hb.le)) ?_
  refine mv (v:=.int .i64 ((i4+1:Nat):Int)) ?_
  exact ab λw hw=>⟨hl9,(wu64 ((ixor .u64 h_1 (wu64 (((gt b i4).toNat:Nat):Int)))*1099511628211)),h,(sl_ (by kernel_rfl)),hw,(wu64_r _),trivial⟩
 ·
  have h:=hge7 (ige hb8)
  refine am ?_
  change WC _ _ _ _ _ _
  refine a7 ?_
  refine mv (v:=.int .u64 h_1) ?_
  refine mv (v:=.int .u64 h_1) ?_
  refine vb (q_shr rfl rfl rfl (by decide)) ?_
  refine vb (q_xor rfl rfl rfl) ?_
  refine vb (q_mul rfl rfl rfl) ?_
  refine as_ (v:=.int .u64 (wu64 ((ixor .u64 h_1 (ishr .u64 h_1 33))*18397679294719823053))) ?_
  refine a6 ?_
  refine a7 ?_
  refine mv (v:=.int .u64 (wu64 ((ixor .u64 h_1 (ishr .u64 h_1 33))*18397679294719823053))) ?_
  refine mv (v:=.int .u64 (wu64 ((ixor .u64 h_1 (ishr .u64 h_1 33))*18397679294719823053))) ?_
  refine vb (q_shr rfl rfl rfl (by decide)) ?_
  refine vb (q_xor rfl rfl rfl) ?_
  refine as_ (v:=.int .u64 (ixor .u64 (wu64 ((ixor .u64 h_1 (ishr .u64 h_1 33))*18397679294719823053)) (ishr .u64 (wu64 ((ixor .u64 h_1 (ishr .u64 h_1 33))*18397679294719823053)) 33))) ?_
  refine a6 ?_
  refine ac ?_
  intro w hw
  cases h
  subst hF
  exact⟨by kernel_rfl,hw.fr⟩
abbrev r_tree_Place(r:List Int)(U:List Rowb)(Γ:Gh)(v:Value):Prop := ∃(A0:Option Addr), ∃(c0:Nat), ∃(row0:Rowb),v = .slice A0 r.length c0∧U = [row0]∧Own intT Γ 3 row0 A0 c0 r∧True
theorem t_tree_Place{Γ:Gh}{w0:World}(key:ByteArray)(hkey:key.size≤lim)(hp:Pre [] Γ w0){r:List Int}(h:m_tree_Place key=some r):Calls Tryz.prog 85 #[.string key] w0 (Outc Γ [] w0 (r_tree_Place r)):=by
 refine calls_of (N:=15) (rs:=[2]) (args:=[.string key]) Tryz.func85 rfl Tryz.ntmps85 Tryz.results85 rfl ?_
 obtain⟨F,hF⟩:∃F:Fm,F=⟨ids [],w0,Γ⟩:=⟨_,rfl⟩
 refine aa (C:=CC F Γ []) ?_ (hF▸hp.start)
 refine a7 ?_
 refine as_ (v:=.slice none 0 0) ?_
 refine a6 ?_
 refine a7 ?_
 refine mv (v:=.string key) ?_
 refine e_convB (src:=9) (dst:=136) (s:=key) Tryz.underlying9 Tryz.underlying136 Tryz.underlying5 hkey rfl rfl rfl rfl rfl ?_
 intro Γ1 A2 c3 hl4 hs5 hc6
 obtain⟨z7,hz8,h⟩:=bnd h
 refine vc rfl rfl rfl (q_call (call_run Tryz.call100 rfl rfl (by kernel_rfl)) (λw hw=>t_num_Hash (Γ:=Gh.all w) (hs5.mono hw.sat.le_all) hc6 (Sat.all w) hz8)) ?_
 refine as_ (v:=.int .u64 z7) ?_
 refine a6 ?_
 refine a7 ?_
 refine mv (v:=.int .u64 z7) ?_
 refine vb (q_shr rfl rfl rfl (by decide)) ?_
 refine vb (q_conv Tryz.underlying3 Tryz.underlying78 rfl rfl) ?_
 refine mv (v:=.int .u64 z7) ?_
 refine vb (q_shr rfl rfl rfl (by decide)) ?_
 refine vb (q_and rfl rfl rfl) ?_
 refine vb (q_conv Tryz.underlying3 Tryz.underlying78 rfl rfl) ?_
 refine e_buildSlice (cs:=#[.int .i64 (w64 (ishr .u64 z7 60)),.int .i64 (w64 (iand .u64 (ishr .u64 z7 56) 15))]) (e:=3) rfl rfl rfl rfl (λw=>by kernel_rfl) ?_
 intro g9
 refine as_ (v:=.slice (some ⟨g9,0,none⟩) 2 2) ?_
 refine a6 ?_
 refine ac ?_
 intro w hw
 have ho10:Own intT Γ1 3 [(g9,.cells #[.int .i64 (w64 (ishr .u64 z7 60)),.int .i64 (w64 (iand .u64 (ishr .u64 z7 56) 15))] 3 (0,0))] (some ⟨g9,0,none⟩) 2 [(w64 (ishr .u64 z7 60)),(w64 (iand .u64 (ishr .u64 z7 56) 15))]:=aq (T:=intT) (ys:=[(w64 (ishr .u64 z7 60)),(w64 (iand .u64 (ishr .u64 z7 56) 15))]) [[.int .i64 (w64 (ishr .u64 z7 60))],[.int .i64 (w64 (iand .u64 (ishr .u64 z7 56) 15))]] rfl (show 2≤lim by decide) (show Ty.rd intT Γ1 [.int .i64 (w64 (ishr .u64 z7 60))] (w64 (ishr .u64 z7 60))∧Ty.rd intT Γ1 [.int .i64 (w64 (iand .u64 (ishr .u64 z7 56) 15))] (w64 (iand .u64 (ishr .u64 z7 56) 15))∧True from ⟨⟨rfl,(w64_r _)⟩,⟨rfl,(w64_r _)⟩,trivial⟩)
 cases h
 subst hF
 exact end_e (is:=[0]) (by kernel_rfl) hw rfl ⟨(some ⟨g9,0,none⟩),2,[(g9,.cells #[.int .i64 (w64 (ishr .u64 z7 60)),.int .i64 (w64 (iand .u64 (ishr .u64 z7 56) 15))] 3 (0,0))],rfl,rfl,ho10,trivial⟩
abbrev r_slices_Clone_api_Ver_api_Ver(r:List Ver)(U:List Rowb)(Γ:Gh)(v:Value):Prop := ∃(A0:Option Addr), ∃(c0:Nat), ∃(row0:Rowb),v = .slice A0 r.length c0∧U = [row0]∧Own verT Γ 115 row0 A0 c0 r∧True
theorem t_slices_Clone_api_Ver_api_Ver{Γ:Gh}{w0:World}{As_:Option Addr}{cs_:Nat}{s_:List Ver}(hs_:Sl verT Γ As_ s_)(hs_c:s_.length≤cs_)(hp:Pre [] Γ w0){r:List Ver}(h:m_slices_Clone_api_Ver_api_Ver s_=some r):Calls Tryz.prog 95 #[.slice As_ s_.length cs_] w0 (Outc Γ [] w0 (r_slices_Clone_api_Ver_api_Ver r)):=by
 refine calls_of (N:=8) (rs:=[2]) (args:=[.slice As_ s_.length cs_]) Tryz.func95 rfl Tryz.ntmps95 Tryz.results95 rfl ?_
 obtain⟨F,hF⟩:∃F:Fm,F=⟨ids [],w0,Γ⟩:=⟨_,rfl⟩
 refine aa (C:=CC F Γ []) ?_ (hF▸hp.start)
 refine a7 ?_
 refine as_ (v:=.slice none 0 0) ?_
 refine a6 ?_
 refine a8 ?_
 refine a7 ?_
 refine mv (v:=.slice As_ s_.length cs_) ?_
 refine vb (q_nil_slice Tryz.underlying67 rfl rfl rfl) ?_
 refine a6 ?_
 refine WC.cnil h (by kernel_rfl) (λhb=>hs_.none_nil hb) (λhb1 h=>?_) (λhb1 h=>?_)
 ·
  refine a7 ?_
  refine as_ (v:=.slice none 0 0) ?_
  refine a6 ?_
  refine ac ?_
  intro w hw
  have hw:=hw.pad
  cases h
  subst hF
  exact end_e (is:=[0]) (by kernel_rfl) hw rfl ⟨none,0,[],rfl,rfl,(Own.nil verT _ 115),trivial⟩
 ·
  refine ae ?_
  change WC _ _ _ _ _ _
  refine a7 ?_
  refine e_buildSlice (cs:=#[]) (e:=115) rfl rfl rfl rfl (λw=>by kernel_rfl) ?_
  intro g2
  refine mv (v:=.slice As_ s_.length cs_) ?_
  have ho3:Own verT Γ 115 [(g2,.cells #[] 115 (0,0))] (some ⟨g2,0,none⟩) 0 ([]:List Ver):=aq (T:=verT) (ys:=([]:List Ver)) [] rfl (show 0≤lim by decide) (show True from trivial)
  obtain⟨hk4,h⟩:=chk_some h
  refine e_append (T:=verT) (xs:=([]:List Ver)) (ys:=s_) elem_67 (i:=0) rfl rfl rfl rfl rfl rfl rfl ho3 (of_decide_eq_true hk4) (λw hw=>src_sl hs_ hw) ?_
  intro row5 A6 c7 ho8
  refine as_ (v:=.slice A6 (([]:List Ver)++s_).length c7) ?_
  refine a6 ?_
  refine ac ?_
  intro w hw
  cases h
  subst hF
  exact end_e (is:=[0]) (by kernel_rfl) hw rfl ⟨A6,c7,row5,rfl,rfl,ho8,trivial⟩
abbrev r_slices_Clone_api_Span_api_Span(r:List Span)(U:List Rowb)(Γ:Gh)(v:Value):Prop := ∃(A0:Option Addr), ∃(c0:Nat), ∃(row0:Rowb),v = .slice A0 r.length c0∧U = [row0]∧Own spanT Γ 117 row0 A0 c0 r∧True
theorem t_slices_Clone_api_Span_api_Span{Γ:Gh}{w0:World}{As_:Option Addr}{cs_:Nat}{s_:List Span}(hs_:Sl spanT Γ As_ s_)(hs_c:s_.length≤cs_)(hp:Pre [] Γ w0){r:List Span}(h:m_slices_Clone_api_Span_api_Span s_=some r):Calls Tryz.prog 96 #[.slice As_ s_.length cs_] w0 (Outc Γ [] w0 (r_slices_Clone_api_Span_api_Span r)):=by
 refine calls_of (N:=8) (rs:=[2]) (args:=[.slice As_ s_.length cs_]) Tryz.func96 rfl Tryz.ntmps96 Tryz.results96 rfl ?_
 obtain⟨F,hF⟩:∃F:Fm,F=⟨ids [],w0,Γ⟩:=⟨_,rfl⟩
 refine aa (C:=CC F Γ []) ?_ (hF▸hp.start)
 refine a7 ?_
 refine as_ (v:=.slice none 0 0) ?_
 refine a6 ?_
 refine a8 ?_
 refine a7 ?_
 refine mv (v:=.slice As_ s_.length cs_) ?_
 refine vb (q_nil_slice Tryz.underlying113 rfl rfl rfl) ?_
 refine a6 ?_
 refine WC.cnil h (by kernel_rfl) (λhb=>hs_.none_nil hb) (λhb1 h=>?_) (λhb1 h=>?_)
 ·
  refine a7 ?_
  refine as_ (v:=.slice none 0 0) ?_
  refine a6 ?_
  refine ac ?_
  intro w hw
  have hw:=hw.pad
  cases h
  subst hF
  exact end_e (is:=[0]) (by kernel_rfl) hw rfl ⟨none,0,[],rfl,rfl,(Own.nil spanT _ 117),trivial⟩
 ·
  refine ae ?_
  change WC _ _ _ _ _ _
  refine a7 ?_
  refine e_buildSlice (cs:=#[]) (e:=117) rfl rfl rfl rfl (λw=>by kernel_rfl) ?_
  intro g2
  refine mv (v:=.slice As_ s_.length cs_) ?_
  have ho3:Own spanT Γ 117 [(g2,.cells #[] 117 (0,0))] (some ⟨g2,0,none⟩) 0 ([]:List Span):=aq (T:=spanT) (ys:=([]:List Span)) [] rfl (show 0≤lim by decide) (show True from trivial)
  obtain⟨hk4,h⟩:=chk_some h
  refine e_append (T:=spanT) (xs:=([]:List Span)) (ys:=s_) elem_113 (i:=0) rfl rfl rfl rfl rfl rfl rfl ho3 (of_decide_eq_true hk4) (λw hw=>src_sl hs_ hw) ?_
  intro row5 A6 c7 ho8
  refine as_ (v:=.slice A6 (([]:List Span)++s_).length c7) ?_
  refine a6 ?_
  refine ac ?_
  intro w hw
  cases h
  subst hF
  exact end_e (is:=[0]) (by kernel_rfl) hw rfl ⟨A6,c7,row5,rfl,rfl,ho8,trivial⟩
abbrev r_tree_own(r:Rec)(U:List Rowb)(Γ:Gh)(v:Value):Prop := ∃(A0_1:Option Addr), ∃(c0_1:Nat),v = .agg #[.string r.key,.slice A0_1 r.vers.length c0_1]∧U = []∧Rec.fits Γ A0_1 c0_1 r∧True
theorem t_tree_own{Γ:Gh}{w0:World}{Ar_1:Option Addr}{cr_1:Nat}(r_:Rec)(hr_:Rec.fits Γ Ar_1 cr_1 r_)(hp:Pre [] Γ w0){r:Rec}(h:m_tree_own r_=some r):Calls Tryz.prog 79 #[.agg #[.string r_.key,.slice Ar_1 r_.vers.length cr_1]] w0 (Outc Γ [] w0 (r_tree_own r)):=by
 refine calls_of_r (N:=28) (rs:=[.cell 2 70]) (args:=[.agg #[.string r_.key,.slice Ar_1 r_.vers.length cr_1]]) Tryz.func79 rfl Tryz.ntmps79 Tryz.results79 rfl ?_
 obtain⟨F,hF⟩:∃F:Fm,F=⟨ids [],w0,Γ⟩:=⟨_,rfl⟩
 refine aa (C:=CC F Γ []) ?_ (hF▸hp.start)
 refine a7 ?_
 refine e_box (v:=.agg #[.string r_.key,.slice Ar_1 r_.vers.length cr_1]) rfl rfl rfl rfl (by kernel_rfl) ?_
 intro g1
 refine e_alloc Tryz.zeroValue70 rfl rfl rfl rfl ?_
 intro g2
 refine a6 ?_
 refine a7 ?_
 refine vb (q_fl 1 fld_70_1 rfl rfl rfl) ?_
 refine vb (q_ldl (i:=1) (v:=.slice Ar_1 r_.vers.length cr_1) rfl rfl Tryz.isAgg67 rfl rfl) ?_
 obtain⟨z3,hz4,h⟩:=bnd h
 refine e_call (is:=[]) rfl rfl (call_run Tryz.call95 rfl rfl (by kernel_rfl)) rfl (λw hp=>t_slices_Clone_api_Ver_api_Ver hr_.2.2 hr_.2.1 hp hz4) ?_
 rintro Γ5 U7 v8 hl6 ⟨A9,c10,row11,rfl,rfl,hr12,_⟩
 change WR _ _ _ (CC F Γ5 [row11,[(g2,.cells #[.string ByteArray.empty,.slice none 0 0] 70 (0,0))],[(g1,.cells #[.string r_.key,.slice Ar_1 r_.vers.length cr_1] 70 (0,0))]]) _ _ (upd _ 6 (.slice A9 z3.length c10))
 refine vb (q_fl 1 fld_70_1 rfl rfl rfl) ?_
 refine e_st (i:=2) (v:=.slice A9 z3.length c10) (new:=#[.string r_.key,.slice A9 z3.length c10]) rfl Tryz.sizeOf67 rfl rfl rfl rfl (by kernel_rfl) rfl rfl rfl rfl ?_
 refine a6 ?_
 refine a8 ?_
 refine a7 ?_
 refine vb (q_fl 1 fld_70_1 rfl rfl rfl) ?_
 refine vb (q_ldl (i:=2) (v:=.slice A9 z3.length c10) rfl rfl Tryz.isAgg67 rfl rfl) ?_
 refine vb (q_len_slice rfl Tryz.underlying67 rfl) ?_
 refine mv (v:=.int .i64 0) ?_
 refine a6 ?_
 refine af ?_
 refine az h (λ(i20:Nat) (x15:List Ver) σ w => ∃(Γ13:Gh), ∃(row16:Rowb),slots σ [(1,(pq g1)),(2,(pq g2)),(10,.int .i64 ((z3.length:Nat):Int)),(11,.int .i64 ((i20:Nat):Int))]∧CC F Γ13 [row16,[(g2,.cells #[.string ByteArray.empty,.slice none 0 0] 70 (0,0))],[(g1,.cells #[.string r_.key,.slice A9 z3.length c10] 70 (0,0))]] w∧Gh.le Γ5 Γ13∧x15.length=z3.length∧Own verT Γ13 115 row16 A9 c10 x15∧True) ?_ ?_
 ·
  intro w hw
  exact⟨Γ5,row11,(sl_ (by kernel_rfl)),hw,(Gh.refl _),rfl,hr12,trivial⟩
 rintro f19 i20 x15 σ w hi21 hlt22 hge23 ⟨Γ13,row16,hsl,hw,hl14,hn18,ho17,-⟩
 refine Wpt.slots hsl ?_
 refine aa (C:=CC F Γ13 [row16,[(g2,.cells #[.string ByteArray.empty,.slice none 0 0] 70 (0,0))],[(g1,.cells #[.string r_.key,.slice A9 z3.length c10] 70 (0,0))]]) ?_ hw
 clear hw hsl
 refine a7 ?_
 refine vb (q_lss rfl rfl rfl) ?_
 refine a6 ?_
 refine a8 ?_
 refine WC.cond (b:=(decide (((i20:Nat):Int)<((z3.length:Nat):Int)))) (by kernel_rfl) (λhb24=>?_) (λhb24=>?_)
 ·
  have hl25:=ilt hb24
  have h:=hlt22 hl25
  refine ae ?_
  change WC _ _ _ _ _ _
  refine a8 ?_
  refine af ?_
  refine a7 ?_
  refine mv (v:=.int .i64 ((i20:Nat):Int)) ?_
  refine as_ (v:=.int .i64 ((i20:Nat):Int)) ?_
  refine a6 ?_
  intro w hw; have h026:=hw.le
  refine aa (C:=CC F Γ13 [row16,[(g2,.cells #[.string ByteArray.empty,.slice none 0 0] 70 (0,0))],[(g1,.cells #[.string r_.key,.slice A9 z3.length c10] 70 (0,0))]]) ?_ hw; clear hw
  refine av (CC F Γ13 [[(g2,.cells #[.string ByteArray.empty,.slice none 0 0] 70 (0,0))],[(g1,.cells #[.string r_.key,.slice A9 z3.length c10] 70 (0,0))]]) (by kernel_rfl) (λw hw=>hw.drawn _) ?_
  change WH _ _ _ _ (CC F Γ13 [row16,[(g2,.cells #[.string ByteArray.empty,.slice none 0 0] 70 (0,0))],[(g1,.cells #[.string r_.key,.slice A9 z3.length c10] 70 (0,0))]]) _ 13 #[false,false,false,false,false,false,false,false,false,false,false,false,false] _
  refine hu 0 rfl (bk_ (Gh.refl _) h026 (.cons _ (.cons_cons _ (.cons_cons _ .slnil)))) (q_fl 1 fld_70_1 rfl rfl rfl) ?_
  refine hu 1 rfl (bk_ (Gh.refl _) h026 (.cons _ (.cons_cons _ (.cons_cons _ .slnil)))) (q_ldl (i:=1) (v:=.slice A9 z3.length c10) rfl rfl Tryz.isAgg67 rfl rfl) ?_
  refine hu 2 rfl (bk_ (Gh.refl _) h026 (.cons _ (.cons_cons _ (.cons_cons _ .slnil)))) (q_move (v:=.int .i64 ((i20:Nat):Int)) rfl (by kernel_rfl)) ?_
  refine hu 3 rfl (bk_ (Gh.refl _) h026 (.cons _ (.cons_cons _ (.cons_cons _ .slnil)))) (q_fl 1 fld_70_1 rfl rfl rfl) ?_
  refine hu 4 rfl (bk_ (Gh.refl _) h026 (.cons _ (.cons_cons _ (.cons_cons _ .slnil)))) (q_ldl (i:=1) (v:=.slice A9 z3.length c10) rfl rfl Tryz.isAgg67 rfl rfl) ?_
  refine hu 5 rfl (bk_ (Gh.refl _) h026 (.cons _ (.cons_cons _ (.cons_cons _ .slnil)))) (q_move (v:=.int .i64 ((i20:Nat):Int)) rfl (by kernel_rfl)) ?_
  refine ai (i:=6) (by kernel_rfl) rfl ?_
  refine vb (q_ixn (i:=i20) Tryz.underlying67 Tryz.sizeOf115 rfl rfl rfl hl25 (ho17.some_ (ltq hl25 hn18.symm))) ?_
  refine ab ?_
  refine WH.next (bk_ (Gh.refl _) h026 (.cons _ (.cons_cons _ (.cons_cons _ .slnil)))) ?_
  refine ai (i:=7) (by kernel_rfl) rfl ?_
  refine vb (q_field_addr (i20*5+2) fld_115_1 rfl rfl (ho17.some_ (ltq hl25 hn18.symm)) rfl) ?_
  refine ab ?_
  refine WH.next (bk_ (Gh.refl _) h026 (.cons _ (.cons_cons _ (.cons_cons _ .slnil)))) ?_
  refine ai (i:=8) (by kernel_rfl) rfl ?_
  obtain⟨A27,c28,hx29⟩:=ho17.verT_at i20
  refine vb (q_ldo (c:=2) (v:=.slice A27 ((gt x15 i20).past).length c28) (i:=0) rfl (hx29 (ltq hl25 hn18.symm)).2 rfl Tryz.isAgg113 rfl rfl) ?_
  refine ab ?_
  refine WH.next (bk_ (Gh.refl _) h026 (.cons _ (.cons_cons _ (.cons_cons _ .slnil)))) ?_
  refine ai (i:=9) (by kernel_rfl) rfl ?_
  obtain⟨z30,hz31,h⟩:=bnd h
  refine e_call (is:=[]) rfl rfl (call_run Tryz.call96 rfl rfl (by kernel_rfl)) rfl (λw hp=>t_slices_Clone_api_Span_api_Span (hx29 (ltq hl25 hn18.symm)).1.2.2.1.2 (hx29 (ltq hl25 hn18.symm)).1.2.2.1.1 hp hz31) ?_
  rintro Γ32 U34 v35 hl33 ⟨A36,c37,row38,rfl,rfl,hr39,_⟩
  change WR _ _ _ (CC F Γ32 [row38,row16,[(g2,.cells #[.string ByteArray.empty,.slice none 0 0] 70 (0,0))],[(g1,.cells #[.string r_.key,.slice A9 z3.length c10] 70 (0,0))]]) _ _ (upd _ 23 (.slice A36 z30.length c37))
  refine ab ?_
  refine WH.next (bk_ hl33 h026 (.cons _ (.cons _ (.cons_cons _ (.cons_cons _ .slnil))))) ?_
  refine ai (i:=10) (by kernel_rfl) rfl ?_
  refine vb (q_ixn (i:=i20) Tryz.underlying67 Tryz.sizeOf115 rfl rfl rfl hl25 ((ho17.mono hl33).some_ (ltq hl25 hn18.symm))) ?_
  refine ab ?_
  refine WH.next (bk_ hl33 h026 (.cons _ (.cons _ (.cons_cons _ (.cons_cons _ .slnil))))) ?_
  refine ai (i:=11) (by kernel_rfl) rfl ?_
  refine vb (q_field_addr (i20*5+2) fld_115_1 rfl rfl ((ho17.mono hl33).some_ (ltq hl25 hn18.symm)) rfl) ?_
  refine ab ?_
  refine WH.next (bk_ hl33 h026 (.cons _ (.cons _ (.cons_cons _ (.cons_cons _ .slnil))))) ?_
  refine ai (i:=12) (by kernel_rfl) rfl ?_
  have hc44:=hr39.capz
  intro w hw; obtain⟨Γ40,hw,hl41,hr42⟩:=hw.seal (i:=0) rfl; have hs43:=hr39.sl hl41 hr42
  refine ao (C:=CC F Γ40 [[],row16,[(g2,.cells #[.string ByteArray.empty,.slice none 0 0] 70 (0,0))],[(g1,.cells #[.string r_.key,.slice A9 z3.length c10] 70 (0,0))]]) ?_ hw
  clear hw
  refine e_store_part (T:=verT) (q:=i20) (f:=2) (v:=.slice A36 z30.length c37) (vs:=[.slice A36 z30.length c37]) (cs:=[.int .i64 (gt x15 i20).dot.s,.int .i64 (gt x15 i20).dot.n,.slice A27 ((gt x15 i20).past).length c28,.bool (gt x15 i20).gone,.string (gt x15 i20).val]) (new:=[.int .i64 (gt x15 i20).dot.s,.int .i64 (gt x15 i20).dot.n,.slice A36 z30.length c37,.bool (gt x15 i20).gone,.string (gt x15 i20).val]) (y:=(⟨(⟨(gt x15 i20).dot.s,(gt x15 i20).dot.n⟩:Dot),z30,(gt x15 i20).gone,(gt x15 i20).val⟩:Ver)) rfl rfl rfl rfl (by kernel_rfl) Tryz.sizeOf113 rfl (hx29 (ltq hl25 hn18.symm)).2 rfl (Nat.le_of_ble_eq_true rfl) rfl (by exact⟨A36,c37,rfl,⟨(hx29 (ltq hl25 hn18.symm)).1.1,(hx29 (ltq hl25 hn18.symm)).1.2.1,⟨hc44,hs43⟩,(hx29 (ltq hl25 hn18.symm)).1.2.2.2⟩⟩) (i:=1) rfl (ho17.mono (hl33.trans hl41)) (ltq hl25 hn18.symm) ?_
  intro row45 ho46
  refine ab ?_
  refine WH.next (bk_ (hl33.trans hl41) h026 (.cons _ (.cons _ (.cons_cons _ (.cons_cons _ .slnil))))) ?_
  refine au (by kernel_rfl) ?_
  change WC _ _ _ _ _ _
  refine ah ?_
  refine vb (q_add_r (r:=((i20+1:Nat):Int)) rfl rfl rfl (ctr_len hl25 (hn18▸ho17.le))) ?_
  refine mv (v:=.int .i64 ((i20+1:Nat):Int)) ?_
  exact ab λw hw=>⟨hl25,(List.set x15 i20 (⟨(⟨(gt x15 i20).dot.s,(gt x15 i20).dot.n⟩:Dot),z30,(gt x15 i20).gone,(gt x15 i20).val⟩:Ver)),h,Γ40,row45,(sl_ (by kernel_rfl)),(hw.only (is:=[1,1,1]) rfl),((hl14.trans hl33).trans hl41),(List.length_set.trans hn18),ho46,trivial⟩
 ·
  have h:=hge23 (ige hb24)
  refine am ?_
  change WC _ _ _ _ _ _
  refine a7 ?_
  refine vb (q_ldla (i:=2) (vs:=[.string r_.key,.slice A9 z3.length c10]) rfl rfl Tryz.isAgg70 Tryz.sizeOf70 rfl rfl) ?_
  refine e_st (i:=1) (v:=.agg #[.string r_.key,.slice A9 z3.length c10]) (new:=#[.string r_.key,.slice A9 z3.length c10]) rfl Tryz.sizeOf70 rfl rfl rfl rfl (by kernel_rfl) rfl rfl rfl rfl ?_
  refine a6 ?_
  refine ac ?_
  rw [show Value.slice A9 (z3.length) c10=Value.slice A9 (x15.length) c10 from by rw [hn18]]
  intro w hw
  have hc51:=ho17.capz
  obtain⟨Γ47,hw,hl48,hr49⟩:=hw.seal (i:=0) rfl; have hs50:=ho17.sl hl48 hr49
  cases h
  subst hF
  exact⟨[.agg #[.string r_.key,.slice A9 x15.length c10]],(rr_agg (i:=1) (us:=[.string r_.key,.slice A9 x15.length c10]) hw rfl Tryz.isAgg70 Tryz.sizeOf70 (by kernel_rfl) rfl rr_nil),end_e (is:=[]) (by kernel_rfl) hw rfl ⟨A9,c10,rfl,rfl,⟨hr_.1,⟨hc51,hs50⟩⟩,trivial⟩⟩
abbrev r_tree_Tree_Set(gt_:Nat)(r:OTree×Int)(U:List Rowb)(Γ:Gh)(v:Value):Prop := ∃(rowt_':Rowb),v = .int .i64 r.2∧U = [rowt_']∧OTree.ob (tg0 123) Γ gt_ rowt_' r.1∧I64 r.2∧True
theorem t_tree_Tree_Set{Γ:Gh}{w0:World}{gt_:Nat}{rowt_:Rowb}{t_:OTree}(ht_:OTree.ob (tg0 123) Γ gt_ rowt_ t_){Ar_1:Option Addr}{cr_1:Nat}(r_:Rec)(hr_:Rec.fits Γ Ar_1 cr_1 r_)(hp:Pre [rowt_] Γ w0){r:OTree×Int}(h:m_tree_Tree_Set t_ r_=some r):Calls Tryz.prog 66 #[(pq gt_),.agg #[.string r_.key,.slice Ar_1 r_.vers.length cr_1]] w0 (Outc Γ [rowt_] w0 (r_tree_Tree_Set gt_ r)):=by
 refine calls_of (N:=71) (rs:=[4]) (args:=[(pq gt_),.agg #[.string r_.key,.slice Ar_1 r_.vers.length cr_1]]) Tryz.func66 rfl Tryz.ntmps66 Tryz.results66 rfl ?_
 obtain⟨F,hF⟩:∃F:Fm,F=⟨ids [rowt_],w0,Γ⟩:=⟨_,rfl⟩
 refine aa (C:=CC F Γ [rowt_]) ?_ (hF▸hp.start)
 refine a7 ?_
 refine e_box (v:=.agg #[.string r_.key,.slice Ar_1 r_.vers.length cr_1]) rfl rfl rfl rfl (by kernel_rfl) ?_
 intro g1
 refine as_ (v:=.int .i64 0) ?_
 refine a6 ?_
 refine a8 ?_
 refine a7 ?_
 refine vb (q_ldla (i:=0) (vs:=[.string r_.key,.slice Ar_1 r_.vers.length cr_1]) rfl rfl Tryz.isAgg70 Tryz.sizeOf70 rfl rfl) ?_
 obtain⟨z2,hz3,h⟩:=bnd h
 refine vc rfl rfl rfl (q_call (call_run Tryz.call83 rfl rfl (by kernel_rfl)) (λw hw=>t_code_RightRec (Γ:=Gh.all w) r_ (Rec.fits_mono hr_ hw.sat.le_all) (Sat.all w) hz3)) ?_
 refine vb (q_not rfl rfl) ?_
 refine a6 ?_
 refine aj h (by kernel_rfl) (λhb4 h=>?_) (λhb4 h=>?_)
 ·
  refine a7 ?_
  refine as_ (v:=.int .i64 1) ?_
  refine a6 ?_
  refine ac ?_
  intro w hw
  cases h
  subst hF
  exact end_e (is:=[1]) (by kernel_rfl) hw rfl ⟨rowt_,rfl,rfl,ht_,(show I64 1 by decide),trivial⟩
 ·
  refine ae ?_
  change WC _ _ _ _ _ _
  refine a7 ?_
  refine vb (q_fl 0 fld_70_0 rfl rfl rfl) ?_
  refine vb (q_ldl (i:=0) (v:=.string r_.key) rfl rfl Tryz.isAgg9 rfl rfl) ?_
  obtain⟨z5,hz6,h⟩:=bnd h
  refine e_call (is:=[]) rfl rfl (call_run Tryz.call85 rfl rfl (by kernel_rfl)) rfl (λw hp=>t_tree_Place r_.key hr_.1 hp hz6) ?_
  rintro Γ7 U9 v10 hl8 ⟨A11,c12,row13,rfl,rfl,hr14,_⟩
  change WR _ _ _ (CC F Γ7 [row13,[(g1,.cells #[.string r_.key,.slice Ar_1 r_.vers.length cr_1] 70 (0,0))],rowt_]) _ _ (upd _ 12 (.slice A11 z5.length c12))
  refine as_ (v:=.slice A11 z5.length c12) ?_
  refine a6 ?_
  refine a8 ?_
  refine ay (by kernel_rfl) (by kernel_rfl) (λw hw=>hw.drawn _) ?_
  refine wa rfl rfl rfl (q_move (v:=(pq gt_)) rfl (by kernel_rfl)) ?_
  refine wa rfl rfl rfl (q_move (v:=.slice A11 z5.length c12) rfl (by kernel_rfl)) ?_
  obtain⟨hk15,h⟩:=chk_some h
  refine wa rfl rfl rfl (q_ixn (i:=0) Tryz.underlying24 Tryz.sizeOf3 rfl rfl rfl (of_decide_eq_true hk15) (hr14.some_ (of_decide_eq_true hk15))) ?_
  refine wa rfl rfl rfl (q_ldo (c:=0) (v:=.int .i64 (gt z5 0)) (i:=0) rfl (hr14.intT_at (of_decide_eq_true hk15)).2 rfl Tryz.isAgg3 rfl rfl) ?_
  refine wa rfl rfl rfl (q_move (v:=.slice A11 z5.length c12) rfl (by kernel_rfl)) ?_
  obtain⟨hk16,h⟩:=chk_some h
  refine wa rfl rfl rfl (q_ixn (i:=1) Tryz.underlying24 Tryz.sizeOf3 rfl rfl rfl (of_decide_eq_true hk16) (hr14.some_ (of_decide_eq_true hk16))) ?_
  refine wa rfl rfl rfl (q_ldo (c:=0) (v:=.int .i64 (gt z5 1)) (i:=0) rfl (hr14.intT_at (of_decide_eq_true hk16)).2 rfl Tryz.isAgg3 rfl rfl) ?_
  refine wa rfl rfl rfl (q_nil (A:=some ⟨gt_,0,none⟩) rfl rfl rfl) ?_
  refine wa rfl rfl rfl (q_fl 0 fld_123_0 rfl rfl rfl) ?_
  obtain⟨hk17,h⟩:=chk_some h
  refine wa rfl rfl rfl (q_ixd (i:=(gt z5 0).toNat) Tryz.underlying121 Tryz.sizeOf120 rfl rfl (inle_eq rfl (inb_le hk17)) (inb_lt hk17)) ?_
  obtain⟨hk18,h⟩:=chk_some h
  refine wa rfl rfl rfl (q_ixd (i:=(gt z5 1).toNat) Tryz.underlying120 Tryz.sizeOf119 rfl rfl (inle_eq rfl (inb_le hk18)) (inb_lt hk18)) ?_
  refine wa rfl rfl rfl (q_assign (v:=.pointer (some ⟨gt_,0+((gt z5 0).toNat)*16+((gt z5 1).toNat)*1,none⟩)) rfl (by kernel_rfl)) ?_
  refine aw ?_
  change WC _ _ _ _ _ _
  refine ax (λσ w => ∃(o19:OTree), ∃(row20:Rowb),m_tree_Tree_Set_j1 r_ z5 o19=some r∧slots σ [(0,(pq gt_)),(3,(pq g1)),(5,.slice A11 z5.length c12),(6,.pointer (some ⟨gt_,0+((gt z5 0).toNat)*16+((gt z5 1).toNat)*1,none⟩))]∧CC F Γ7 [row13,[(g1,.cells #[.string r_.key,.slice Ar_1 r_.vers.length cr_1] 70 (0,0))],row20] w∧OTree.ob (tg0 123) Γ7 gt_ row20 o19∧True) ?_ ?_
  ·
   refine a7 ?_
   refine mv (v:=.pointer (some ⟨gt_,0+((gt z5 0).toNat)*16+((gt z5 1).toNat)*1,none⟩)) ?_
   refine vb (q_nil (A:=some ⟨gt_,0+((gt z5 0).toNat)*16+((gt z5 1).toNat)*1,none⟩) rfl rfl rfl) ?_
   have hq:=(ht_.mono hl8)
   obtain⟨cs_22,rL_22,sm_22,rS_22,hrow_22,hM_22,hl_22,hS_22,-⟩:=hq
   obtain⟨rA_23,r_23,rB_23,hrl_23,hO_23,hcl_23⟩:=hM_22.at_ (i:=0+((gt z5 0).toNat)*16+((gt z5 1).toNat)*1) (by rw [hl_22]; exact(leaf_lt (inb_lt hk17) (inb_lt hk18)))
   have hrw_23:rowt_=([[(gt_,.cells (cs_22++[Value.map (some sm_22)]).toArray (tg0 123).1 (0,0))],rA_23,r_23,rB_23,rS_22]:List Rowb).flatten:=by rw [hrow_22,hrl_23]; simp only [List.flatten_cons,List.flatten_nil,List.append_nil,List.append_assoc]
   intro w hw; have hw:=hw.unfold (i:=2) rfl hrw_23
   refine ao (C:=CC F Γ7 [[(gt_,.cells (cs_22++[Value.map (some sm_22)]).toArray (tg0 123).1 (0,0))],rA_23,r_23,rB_23,rS_22,row13,[(g1,.cells #[.string r_.key,.slice Ar_1 r_.vers.length cr_1] 70 (0,0))]]) ?_ hw
   clear hw
   refine vb (q_ldA (i:=0) (cs:=cs_22) rfl (by rw [(hM_22.len.trans hl_22)]; exact(leaf_lt (inb_lt hk17) (inb_lt hk18))) rfl Tryz.isAgg119 rfl) ?_
   refine vb (q_omap_nil hO_23 Tryz.underlying119 rfl rfl rfl) ?_
   refine a6 ?_
   refine aj h (by kernel_rfl) (λhb24 h=>?_) (λhb24 h=>?_)
   ·
    refine ah ?_
    refine mv (v:=.pointer (some ⟨gt_,0+((gt z5 0).toNat)*16+((gt z5 1).toNat)*1,none⟩)) ?_
    refine e_makeMap (strK Tryz.underlying9) recT.ag rfl rfl rfl rfl ?_
    intro g25 row26 hm27
    refine vb (q_nil (A:=some ⟨gt_,0+((gt z5 0).toNat)*16+((gt z5 1).toNat)*1,none⟩) rfl rfl rfl) ?_
    refine e_stA (i:=1) (cs:=cs_22) (j:=0+((gt z5 0).toNat)*16+((gt z5 1).toNat)*1) (v:=.map (some g25)) rfl (by rw [(hM_22.len.trans hl_22)]; exact(leaf_lt (inb_lt hk17) (inb_lt hk18))) Tryz.sizeOf119 rfl rfl rfl rfl (by kernel_rfl) rfl rfl ?_
    refine ab ?_
    intro w hw
    obtain⟨row_28,hrow_28,hob_28⟩:∃rw:Rowb,rw=([[(gt_,.cells ((List.set cs_22 (0+((gt z5 0).toNat)*16+((gt z5 1).toNat)*1) (.map (some g25)))++[Value.map (some sm_22)]).toArray (tg0 123).1 (0,0))],rA_23,row26,rB_23,rS_22]:List Rowb).flatten∧OTree.ob (tg0 123) Γ7 gt_ rw (⟨(List.set t_.leaves (0+((gt z5 0).toNat)*16+((gt z5 1).toNat)*1) (some ([]:List (ByteArray×Rec)))),t_.sums⟩:OTree):=⟨_,rfl,(List.set cs_22 (0+((gt z5 0).toNat)*16+((gt z5 1).toNat)*1) (.map (some g25))),(rA_23++(row26++rB_23)),sm_22,rS_22,(by simp only [List.flatten_cons,List.flatten_nil,List.append_nil,List.append_assoc]),(hcl_23 _ (.map (some g25)) row26 (some ([]:List (ByteArray×Rec))) (Gh.refl _) ⟨g25,rfl,hm27⟩),(List.length_set.trans hl_22),hS_22,trivial⟩
    have hw:=hw.fold (is:=[1,1,0,1,1]) rfl hrow_28
    exact⟨(⟨(List.set t_.leaves (0+((gt z5 0).toNat)*16+((gt z5 1).toNat)*1) (some ([]:List (ByteArray×Rec)))),t_.sums⟩:OTree),row_28,h,(sl_ (by kernel_rfl)),(hw.only (is:=[2,2,0]) rfl),hob_28,trivial⟩
   ·
    refine ae ?_
    intro w hw
    have hw:=hw.fold (is:=[0,0,0,0,0]) rfl hrw_23
    exact⟨t_,rowt_,h,(sl_ (by kernel_rfl)),(hw.only (is:=[1,1,0]) rfl),(ht_.mono hl8),trivial⟩
  ·
   rintro σ w ⟨o19,row20,h,hsl,hw,ho21,-⟩
   refine Wpt.slots hsl ?_
   refine aa (C:=CC F Γ7 [row13,[(g1,.cells #[.string r_.key,.slice Ar_1 r_.vers.length cr_1] 70 (0,0))],row20]) ?_ hw
   clear hw hsl
   refine a8 ?_
   have hq:=ho21
   obtain⟨cs_30,rL_30,sm_30,rS_30,hrow_30,hM_30,hl_30,hS_30,-⟩:=hq
   obtain⟨rA_31,r_31,rB_31,hrl_31,hO_31,hcl_31⟩:=hM_30.at_ (i:=0+((gt z5 0).toNat)*16+((gt z5 1).toNat)*1) (by rw [hl_30]; exact(leaf_lt (inb_lt hk17) (inb_lt hk18)))
   have hrw_31:row20=([[(gt_,.cells (cs_30++[Value.map (some sm_30)]).toArray (tg0 123).1 (0,0))],rA_31,r_31,rB_31,rS_30]:List Rowb).flatten:=by rw [hrow_30,hrl_31]; simp only [List.flatten_cons,List.flatten_nil,List.append_nil,List.append_assoc]
   intro w hw; have hw:=hw.unfold (i:=2) rfl hrw_31
   refine aa (C:=CC F Γ7 [[(gt_,.cells (cs_30++[Value.map (some sm_30)]).toArray (tg0 123).1 (0,0))],rA_31,r_31,rB_31,rS_30,row13,[(g1,.cells #[.string r_.key,.slice Ar_1 r_.vers.length cr_1] 70 (0,0))]]) ?_ hw
   clear hw
   obtain⟨es32,hes33,h⟩:=bnd h
   obtain⟨m34,hc35,hm36⟩:∃m,cgt cs_30 (0+((gt z5 0).toNat)*16+((gt z5 1).toNat)*1)=Value.map (some m)∧MapO (strK Tryz.underlying9) recT.ag Γ7 r_31 m es32:=(by have h9:=hO_31; rw [hes33] at h9; exact h9)
   intro w hw; have h037:=hw.le
   refine aa (C:=CC F Γ7 [[(gt_,.cells (cs_30++[Value.map (some sm_30)]).toArray (tg0 123).1 (0,0))],rA_31,r_31,rB_31,rS_30,row13,[(g1,.cells #[.string r_.key,.slice Ar_1 r_.vers.length cr_1] 70 (0,0))]]) ?_ hw; clear hw
   refine av (CC F Γ7 [[(gt_,.cells (cs_30++[Value.map (some sm_30)]).toArray (tg0 123).1 (0,0))],rA_31,rB_31,row13,[(g1,.cells #[.string r_.key,.slice Ar_1 r_.vers.length cr_1] 70 (0,0))]]) (by kernel_rfl) (λw hw=>hw.drawn _) ?_
   change WH _ _ _ _ (CC F Γ7 [[(gt_,.cells (cs_30++[Value.map (some sm_30)]).toArray (tg0 123).1 (0,0))],rA_31,r_31,rB_31,rS_30,row13,[(g1,.cells #[.string r_.key,.slice Ar_1 r_.vers.length cr_1] 70 (0,0))]]) _ 6 #[false,false,false,false,false,false] _
   refine hu 0 rfl (bk_ (Gh.refl _) h037 (.cons_cons _ (.cons_cons _ (.cons _ (.cons_cons _ (.cons _ (.cons_cons _ (.cons_cons _ .slnil)))))))) (q_move (v:=.pointer (some ⟨gt_,0+((gt z5 0).toNat)*16+((gt z5 1).toNat)*1,none⟩)) rfl (by kernel_rfl)) ?_
   refine hu 1 rfl (bk_ (Gh.refl _) h037 (.cons_cons _ (.cons_cons _ (.cons _ (.cons_cons _ (.cons _ (.cons_cons _ (.cons_cons _ .slnil)))))))) (q_nil (A:=some ⟨gt_,0+((gt z5 0).toNat)*16+((gt z5 1).toNat)*1,none⟩) rfl rfl rfl) ?_
   refine hu 2 rfl (bk_ (Gh.refl _) h037 (.cons_cons _ (.cons_cons _ (.cons _ (.cons_cons _ (.cons _ (.cons_cons _ (.cons_cons _ .slnil)))))))) (q_ldA (i:=0) (cs:=cs_30) rfl (by rw [(hM_30.len.trans hl_30)]; exact(leaf_lt (inb_lt hk17) (inb_lt hk18))) rfl Tryz.isAgg119 rfl) ?_
   refine hu 3 rfl (bk_ (Gh.refl _) h037 (.cons_cons _ (.cons_cons _ (.cons _ (.cons_cons _ (.cons _ (.cons_cons _ (.cons_cons _ .slnil)))))))) (q_fl 0 fld_70_0 rfl rfl rfl) ?_
   refine hu 4 rfl (bk_ (Gh.refl _) h037 (.cons_cons _ (.cons_cons _ (.cons _ (.cons_cons _ (.cons _ (.cons_cons _ (.cons_cons _ .slnil)))))))) (q_ldl (i:=4) (v:=.string r_.key) rfl rfl Tryz.isAgg9 rfl rfl) ?_
   refine ai (i:=5) (by kernel_rfl) rfl ?_
   refine e_delete (i:=2) (x:=r_.key) rfl hm36 rfl rfl rfl Tryz.underlying119 (Eq.trans (b:=cgt cs_30 (0+((gt z5 0).toNat)*16+((gt z5 1).toNat)*1)) rfl hc35) rfl ?_
   intro row38 hm39
   refine ab ?_
   refine WH.next (bk_ (Gh.refl _) h037 (.cons_cons _ (.cons_cons _ (.cons _ (.cons_cons _ (.cons _ (.cons_cons _ (.cons_cons _ .slnil)))))))) ?_
   refine au (by kernel_rfl) ?_
   change WC _ _ _ _ _ _
   obtain⟨row_40,hrow_40,hob_40⟩:∃rw:Rowb,rw=([[(gt_,.cells (cs_30++[Value.map (some sm_30)]).toArray (tg0 123).1 (0,0))],rA_31,row38,rB_31,rS_30]:List Rowb).flatten∧OTree.ob (tg0 123) Γ7 gt_ rw (⟨(List.set o19.leaves (0+((gt z5 0).toNat)*16+((gt z5 1).toNat)*1) (some (mdel r_.key es32))),o19.sums⟩:OTree):=⟨_,rfl,cs_30,(rA_31++(row38++rB_31)),sm_30,rS_30,(by simp only [List.flatten_cons,List.flatten_nil,List.append_nil,List.append_assoc]),(by have h9:=hcl_31 _ (.map (some m34)) row38 (some (mdel r_.key es32)) (Gh.refl _) ⟨m34,rfl,hm39⟩; rw [set_cgt hc35] at h9; exact h9),(List.length_set.trans hl_30),hS_30,trivial⟩
   intro w hw; have hw:=hw.fold (is:=[0,0,0,0,0]) rfl hrow_40
   refine aa (C:=CC F Γ7 [row_40,row13,[(g1,.cells #[.string r_.key,.slice Ar_1 r_.vers.length cr_1] 70 (0,0))]]) ?_ hw
   clear hw
   refine ax (λσ w => ∃(o43:OTree), ∃(Γ41:Gh), ∃(row44:Rowb),m_tree_Tree_Set_j2 z5 o43=some r∧slots σ [(0,(pq gt_)),(5,.slice A11 z5.length c12)]∧CC F Γ41 [row44,row13] w∧Gh.le Γ7 Γ41∧OTree.ob (tg0 123) Γ41 gt_ row44 o43∧True) ?_ ?_
   ·
    refine a7 ?_
    refine vb (q_fl 1 fld_70_1 rfl rfl rfl) ?_
    refine vb (q_ldl (i:=2) (v:=.slice Ar_1 r_.vers.length cr_1) rfl rfl Tryz.isAgg67 rfl rfl) ?_
    refine vb (q_len_slice rfl Tryz.underlying67 rfl) ?_
    refine vb (q_gtr rfl rfl rfl) ?_
    refine a6 ?_
    refine aj h (by kernel_rfl) (λhb46 h=>?_) (λhb46 h=>?_)
    ·
     have hq:=hob_40
     obtain⟨cs_47,rL_47,sm_47,rS_47,hrow_47,hM_47,hl_47,hS_47,-⟩:=hq
     obtain⟨rA_48,r_48,rB_48,hrl_48,hO_48,hcl_48⟩:=hM_47.at_ (i:=0+((gt z5 0).toNat)*16+((gt z5 1).toNat)*1) (by rw [hl_47]; exact(leaf_lt (inb_lt hk17) (inb_lt hk18)))
     have hrw_48:row_40=([[(gt_,.cells (cs_47++[Value.map (some sm_47)]).toArray (tg0 123).1 (0,0))],rA_48,r_48,rB_48,rS_47]:List Rowb).flatten:=by rw [hrow_47,hrl_48]; simp only [List.flatten_cons,List.flatten_nil,List.append_nil,List.append_assoc]
     intro w hw; have hw:=hw.unfold (i:=0) rfl hrw_48
     refine aa (C:=CC F Γ7 [[(gt_,.cells (cs_47++[Value.map (some sm_47)]).toArray (tg0 123).1 (0,0))],rA_48,r_48,rB_48,rS_47,row13,[(g1,.cells #[.string r_.key,.slice Ar_1 r_.vers.length cr_1] 70 (0,0))]]) ?_ hw
     clear hw
     obtain⟨es49,hes50,h⟩:=bnd h
     obtain⟨m51,hc52,hm53⟩:∃m,cgt cs_47 (0+((gt z5 0).toNat)*16+((gt z5 1).toNat)*1)=Value.map (some m)∧MapO (strK Tryz.underlying9) recT.ag Γ7 r_48 m es49:=(by have h9:=hO_48; rw [hes50] at h9; exact h9)
     intro w hw; have h054:=hw.le
     refine aa (C:=CC F Γ7 [[(gt_,.cells (cs_47++[Value.map (some sm_47)]).toArray (tg0 123).1 (0,0))],rA_48,r_48,rB_48,rS_47,row13,[(g1,.cells #[.string r_.key,.slice Ar_1 r_.vers.length cr_1] 70 (0,0))]]) ?_ hw; clear hw
     refine av (CC F Γ7 [[(gt_,.cells (cs_47++[Value.map (some sm_47)]).toArray (tg0 123).1 (0,0))],rA_48,rB_48,row13,[(g1,.cells #[.string r_.key,.slice Ar_1 r_.vers.length cr_1] 70 (0,0))]]) (by kernel_rfl) (λw hw=>hw.drawn _) ?_
     change WH _ _ _ _ (CC F Γ7 [[(gt_,.cells (cs_47++[Value.map (some sm_47)]).toArray (tg0 123).1 (0,0))],rA_48,r_48,rB_48,rS_47,row13,[(g1,.cells #[.string r_.key,.slice Ar_1 r_.vers.length cr_1] 70 (0,0))]]) _ 8 #[false,false,false,false,false,false,false,false] _
     refine hu 0 rfl (bk_ (Gh.refl _) h054 (.cons_cons _ (.cons_cons _ (.cons _ (.cons_cons _ (.cons _ (.cons_cons _ (.cons_cons _ .slnil)))))))) (q_move (v:=.pointer (some ⟨gt_,0+((gt z5 0).toNat)*16+((gt z5 1).toNat)*1,none⟩)) rfl (by kernel_rfl)) ?_
     refine hu 1 rfl (bk_ (Gh.refl _) h054 (.cons_cons _ (.cons_cons _ (.cons _ (.cons_cons _ (.cons _ (.cons_cons _ (.cons_cons _ .slnil)))))))) (q_nil (A:=some ⟨gt_,0+((gt z5 0).toNat)*16+((gt z5 1).toNat)*1,none⟩) rfl rfl rfl) ?_
     refine hu 2 rfl (bk_ (Gh.refl _) h054 (.cons_cons _ (.cons_cons _ (.cons _ (.cons_cons _ (.cons _ (.cons_cons _ (.cons_cons _ .slnil)))))))) (q_ldA (i:=0) (cs:=cs_47) rfl (by rw [(hM_47.len.trans hl_47)]; exact(leaf_lt (inb_lt hk17) (inb_lt hk18))) rfl Tryz.isAgg119 rfl) ?_
     refine hu 3 rfl (bk_ (Gh.refl _) h054 (.cons_cons _ (.cons_cons _ (.cons _ (.cons_cons _ (.cons _ (.cons_cons _ (.cons_cons _ .slnil)))))))) (q_fl 0 fld_70_0 rfl rfl rfl) ?_
     refine hu 4 rfl (bk_ (Gh.refl _) h054 (.cons_cons _ (.cons_cons _ (.cons _ (.cons_cons _ (.cons _ (.cons_cons _ (.cons_cons _ .slnil)))))))) (q_ldl (i:=4) (v:=.string r_.key) rfl rfl Tryz.isAgg9 rfl rfl) ?_
     refine hu 5 rfl (bk_ (Gh.refl _) h054 (.cons_cons _ (.cons_cons _ (.cons _ (.cons_cons _ (.cons _ (.cons_cons _ (.cons_cons _ .slnil)))))))) (q_ldla (i:=4) (vs:=[.string r_.key,.slice Ar_1 r_.vers.length cr_1]) rfl rfl Tryz.isAgg70 Tryz.sizeOf70 rfl rfl) ?_
     refine ai (i:=6) (by kernel_rfl) rfl ?_
     obtain⟨z55,hz56,h⟩:=bnd h
     refine e_call (is:=[]) rfl rfl (call_run Tryz.call79 rfl rfl (by kernel_rfl)) rfl (λw hp=>t_tree_own r_ (Rec.fits_mono hr_ hl8) hp hz56) ?_
     rintro Γ57 U59 v60 hl58 ⟨A61,c62,rfl,rfl,hr63,_⟩
     change WR _ _ _ (CC F Γ57 [[(gt_,.cells (cs_47++[Value.map (some sm_47)]).toArray (tg0 123).1 (0,0))],rA_48,r_48,rB_48,rS_47,row13,[(g1,.cells #[.string r_.key,.slice Ar_1 r_.vers.length cr_1] 70 (0,0))]]) _ _ (upd _ 46 (.agg #[.string z55.key,.slice A61 z55.vers.length c62]))
     refine ab ?_
     refine WH.next (bk_ hl58 h054 (.cons_cons _ (.cons_cons _ (.cons _ (.cons_cons _ (.cons _ (.cons_cons _ (.cons_cons _ .slnil)))))))) ?_
     refine ai (i:=7) (by kernel_rfl) rfl ?_
     refine e_mapUpdate (i:=2) (x:=r_.key) (v:=.agg #[.string z55.key,.slice A61 z55.vers.length c62]) (a:=z55) rfl rfl rfl Tryz.underlying119 (Eq.trans (b:=cgt cs_47 (0+((gt z5 0).toNat)*16+((gt z5 1).toNat)*1)) rfl hc52) rfl (by kernel_rfl) rfl (hm53.mono hl58) (by exact⟨_,rfl,⟨A61,c62,rfl,hr63⟩⟩) hr_.1 ?_
     intro row64 hm65
     refine ab ?_
     refine WH.next (bk_ hl58 h054 (.cons_cons _ (.cons_cons _ (.cons _ (.cons_cons _ (.cons _ (.cons_cons _ (.cons_cons _ .slnil)))))))) ?_
     refine au (by kernel_rfl) ?_
     intro w hw
     obtain⟨row_66,hrow_66,hob_66⟩:∃rw:Rowb,rw=([[(gt_,.cells (cs_47++[Value.map (some sm_47)]).toArray (tg0 123).1 (0,0))],rA_48,row64,rB_48,rS_47]:List Rowb).flatten∧OTree.ob (tg0 123) Γ57 gt_ rw (⟨(List.set (⟨(List.set o19.leaves (0+((gt z5 0).toNat)*16+((gt z5 1).toNat)*1) (some (mdel r_.key es32))),o19.sums⟩:OTree).leaves (0+((gt z5 0).toNat)*16+((gt z5 1).toNat)*1) (some (mput r_.key z55 es49))),(⟨(List.set o19.leaves (0+((gt z5 0).toNat)*16+((gt z5 1).toNat)*1) (some (mdel r_.key es32))),o19.sums⟩:OTree).sums⟩:OTree):=⟨_,rfl,cs_47,(rA_48++(row64++rB_48)),sm_47,rS_47,(by simp only [List.flatten_cons,List.flatten_nil,List.append_nil,List.append_assoc]),(by have h9:=hcl_48 _ (.map (some m51)) row64 (some (mput r_.key z55 es49)) hl58 ⟨m51,rfl,hm65⟩; rw [set_cgt hc52] at h9; exact h9),(List.length_set.trans hl_47),(hS_47.mono hl58),trivial⟩
     have hw:=hw.fold (is:=[0,0,0,0,0]) rfl hrow_66
     exact⟨(⟨(List.set (⟨(List.set o19.leaves (0+((gt z5 0).toNat)*16+((gt z5 1).toNat)*1) (some (mdel r_.key es32))),o19.sums⟩:OTree).leaves (0+((gt z5 0).toNat)*16+((gt z5 1).toNat)*1) (some (mput r_.key z55 es49))),(⟨(List.set o19.leaves (0+((gt z5 0).toNat)*16+((gt z5 1).toNat)*1) (some (mdel r_.key es32))),o19.sums⟩:OTree).sums⟩:OTree),Γ57,row_66,h,(sl_ (by kernel_rfl)),(hw.only (is:=[0,0]) rfl),hl58,hob_66,trivial⟩
    ·
     exact ae λw hw=>⟨(⟨(List.set o19.leaves (0+((gt z5 0).toNat)*16+((gt z5 1).toNat)*1) (some (mdel r_.key es32))),o19.sums⟩:OTree),Γ7,row_40,h,(sl_ (by kernel_rfl)),(hw.only (is:=[0,0]) rfl),(Gh.refl _),hob_40,trivial⟩
   ·
    rintro σ w ⟨o43,Γ41,row44,h,hsl,hw,hl42,ho45,-⟩
    refine Wpt.slots hsl ?_
    refine aa (C:=CC F Γ41 [row44,row13]) ?_ hw
    clear hw hsl
    refine a7 ?_
    refine mv (v:=(pq gt_)) ?_
    refine vb (q_nil (A:=some ⟨gt_,0,none⟩) rfl rfl rfl) ?_
    refine vb (q_fl 256 fld_123_1 rfl rfl rfl) ?_
    have hq:=ho45
    obtain⟨cs_67,rL_67,sm_67,rS_67,hrow_67,hM_67,hl_67,hS_67,-⟩:=hq
    intro w hw; have hw:=hw.unfold (i:=0) rfl hrow_67
    refine ao (C:=CC F Γ41 [[(gt_,.cells (cs_67++[Value.map (some sm_67)]).toArray (tg0 123).1 (0,0))],rL_67,rS_67,row13]) ?_ hw
    clear hw
    refine vb (q_ldAe (i:=0) (cs:=cs_67) rfl (hM_67.len.trans hl_67) rfl Tryz.isAgg118 rfl) ?_
    refine vb (q_build' (v:=.agg #[.int .i64 0,.int .i64 0,.int .i64 0]) rfl (bargs3 rfl rfl rfl) (λw=>by kernel_rfl)) ?_
    refine e_sdelete (i:=2) (x:=(0,0,0)) rfl hS_67 rfl rfl rfl Tryz.underlying118 rfl rfl ?_
    intro row68 hm69
    refine a6 ?_
    refine a8 ?_
    intro w hw; have h070:=hw.le
    refine aa (C:=CC F Γ41 [[(gt_,.cells (cs_67++[Value.map (some sm_67)]).toArray (tg0 123).1 (0,0))],rL_67,row68,row13]) ?_ hw; clear hw
    refine av (CC F Γ41 [[(gt_,.cells (cs_67++[Value.map (some sm_67)]).toArray (tg0 123).1 (0,0))],rL_67,row13]) (by kernel_rfl) (λw hw=>hw.drawn _) ?_
    change WH _ _ _ _ (CC F Γ41 [[(gt_,.cells (cs_67++[Value.map (some sm_67)]).toArray (tg0 123).1 (0,0))],rL_67,row68,row13]) _ 9 #[false,false,false,false,false,false,false,false,false] _
    refine hu 0 rfl (bk_ (Gh.refl _) h070 (.cons_cons _ (.cons_cons _ (.cons _ (.cons_cons _ .slnil))))) (q_move (v:=(pq gt_)) rfl (by kernel_rfl)) ?_
    refine hu 1 rfl (bk_ (Gh.refl _) h070 (.cons_cons _ (.cons_cons _ (.cons _ (.cons_cons _ .slnil))))) (q_nil (A:=some ⟨gt_,0,none⟩) rfl rfl rfl) ?_
    refine hu 2 rfl (bk_ (Gh.refl _) h070 (.cons_cons _ (.cons_cons _ (.cons _ (.cons_cons _ .slnil))))) (q_fl 256 fld_123_1 rfl rfl rfl) ?_
    refine hu 3 rfl (bk_ (Gh.refl _) h070 (.cons_cons _ (.cons_cons _ (.cons _ (.cons_cons _ .slnil))))) (q_ldAe (i:=0) (cs:=cs_67) rfl (hM_67.len.trans hl_67) rfl Tryz.isAgg118 rfl) ?_
    refine hu 4 rfl (bk_ (Gh.refl _) h070 (.cons_cons _ (.cons_cons _ (.cons _ (.cons_cons _ .slnil))))) (q_move (v:=.slice A11 z5.length c12) rfl (by kernel_rfl)) ?_
    refine hu 5 rfl (bk_ (Gh.refl _) h070 (.cons_cons _ (.cons_cons _ (.cons _ (.cons_cons _ .slnil))))) (q_ixn (i:=0) Tryz.underlying24 Tryz.sizeOf3 rfl rfl rfl (of_decide_eq_true hk15) ((hr14.mono hl42).some_ (of_decide_eq_true hk15))) ?_
    refine hu 6 rfl (bk_ (Gh.refl _) h070 (.cons_cons _ (.cons_cons _ (.cons _ (.cons_cons _ .slnil))))) (q_ldo (c:=0) (v:=.int .i64 (gt z5 0)) (i:=2) rfl ((hr14.mono hl42).intT_at (of_decide_eq_true hk15)).2 rfl Tryz.isAgg3 rfl rfl) ?_
    refine hu 7 rfl (bk_ (Gh.refl _) h070 (.cons_cons _ (.cons_cons _ (.cons _ (.cons_cons _ .slnil))))) (q_build' (v:=.agg #[.int .i64 1,.int .i64 (gt z5 0),.int .i64 0]) rfl (bargs3 rfl rfl rfl) (λw=>by kernel_rfl)) ?_
    refine ai (i:=8) (by kernel_rfl) rfl ?_
    refine e_sdelete (i:=2) (x:=(1,(gt z5 0),0)) rfl hm69 rfl rfl rfl Tryz.underlying118 rfl rfl ?_
    intro row71 hm72
    refine ab ?_
    refine WH.next (bk_ (Gh.refl _) h070 (.cons_cons _ (.cons_cons _ (.cons _ (.cons_cons _ .slnil))))) ?_
    refine au (by kernel_rfl) ?_
    change WC _ _ _ _ _ _
    refine a8 ?_
    intro w hw; have h073:=hw.le
    refine aa (C:=CC F Γ41 [[(gt_,.cells (cs_67++[Value.map (some sm_67)]).toArray (tg0 123).1 (0,0))],rL_67,row71,row13]) ?_ hw; clear hw
    refine av (CC F Γ41 [[(gt_,.cells (cs_67++[Value.map (some sm_67)]).toArray (tg0 123).1 (0,0))],rL_67,row13]) (by kernel_rfl) (λw hw=>hw.drawn _) ?_
    change WH _ _ _ _ (CC F Γ41 [[(gt_,.cells (cs_67++[Value.map (some sm_67)]).toArray (tg0 123).1 (0,0))],rL_67,row71,row13]) _ 12 #[false,false,false,false,false,false,false,false,false,false,false,false] _
    refine hu 0 rfl (bk_ (Gh.refl _) h073 (.cons_cons _ (.cons_cons _ (.cons _ (.cons_cons _ .slnil))))) (q_move (v:=(pq gt_)) rfl (by kernel_rfl)) ?_
    refine hu 1 rfl (bk_ (Gh.refl _) h073 (.cons_cons _ (.cons_cons _ (.cons _ (.cons_cons _ .slnil))))) (q_nil (A:=some ⟨gt_,0,none⟩) rfl rfl rfl) ?_
    refine hu 2 rfl (bk_ (Gh.refl _) h073 (.cons_cons _ (.cons_cons _ (.cons _ (.cons_cons _ .slnil))))) (q_fl 256 fld_123_1 rfl rfl rfl) ?_
    refine hu 3 rfl (bk_ (Gh.refl _) h073 (.cons_cons _ (.cons_cons _ (.cons _ (.cons_cons _ .slnil))))) (q_ldAe (i:=0) (cs:=cs_67) rfl (hM_67.len.trans hl_67) rfl Tryz.isAgg118 rfl) ?_
    refine hu 4 rfl (bk_ (Gh.refl _) h073 (.cons_cons _ (.cons_cons _ (.cons _ (.cons_cons _ .slnil))))) (q_move (v:=.slice A11 z5.length c12) rfl (by kernel_rfl)) ?_
    refine hu 5 rfl (bk_ (Gh.refl _) h073 (.cons_cons _ (.cons_cons _ (.cons _ (.cons_cons _ .slnil))))) (q_ixn (i:=0) Tryz.underlying24 Tryz.sizeOf3 rfl rfl rfl (of_decide_eq_true hk15) ((hr14.mono hl42).some_ (of_decide_eq_true hk15))) ?_
    refine hu 6 rfl (bk_ (Gh.refl _) h073 (.cons_cons _ (.cons_cons _ (.cons _ (.cons_cons _ .slnil))))) (q_ldo (c:=0) (v:=.int .i64 (gt z5 0)) (i:=2) rfl ((hr14.mono hl42).intT_at (of_decide_eq_true hk15)).2 rfl Tryz.isAgg3 rfl rfl) ?_
    refine hu 7 rfl (bk_ (Gh.refl _) h073 (.cons_cons _ (.cons_cons _ (.cons _ (.cons_cons _ .slnil))))) (q_move (v:=.slice A11 z5.length c12) rfl (by kernel_rfl)) ?_
    refine hu 8 rfl (bk_ (Gh.refl _) h073 (.cons_cons _ (.cons_cons _ (.cons _ (.cons_cons _ .slnil))))) (q_ixn (i:=1) Tryz.underlying24 Tryz.sizeOf3 rfl rfl rfl (of_decide_eq_true hk16) ((hr14.mono hl42).some_ (of_decide_eq_true hk16))) ?_
    refine hu 9 rfl (bk_ (Gh.refl _) h073 (.cons_cons _ (.cons_cons _ (.cons _ (.cons_cons _ .slnil))))) (q_ldo (c:=0) (v:=.int .i64 (gt z5 1)) (i:=2) rfl ((hr14.mono hl42).intT_at (of_decide_eq_true hk16)).2 rfl Tryz.isAgg3 rfl rfl) ?_
    refine hu 10 rfl (bk_ (Gh.refl _) h073 (.cons_cons _ (.cons_cons _ (.cons _ (.cons_cons _ .slnil))))) (q_build' (v:=.agg #[.int .i64 2,.int .i64 (gt z5 0),.int .i64 (gt z5 1)]) rfl (bargs3 rfl rfl rfl) (λw=>by kernel_rfl)) ?_
    refine ai (i:=11) (by kernel_rfl) rfl ?_
    refine e_sdelete (i:=2) (x:=(2,(gt z5 0),(gt z5 1))) rfl hm72 rfl rfl rfl Tryz.underlying118 rfl rfl ?_
    intro row74 hm75
    refine ab ?_
    refine WH.next (bk_ (Gh.refl _) h073 (.cons_cons _ (.cons_cons _ (.cons _ (.cons_cons _ .slnil))))) ?_
    refine au (by kernel_rfl) ?_
    change WC _ _ _ _ _ _
    refine a7 ?_
    refine as_ (v:=.int .i64 0) ?_
    refine a6 ?_
    refine ac ?_
    intro w hw
    obtain⟨row_76,hrow_76,hob_76⟩:∃rw:Rowb,rw=([[(gt_,.cells (cs_67++[Value.map (some sm_67)]).toArray (tg0 123).1 (0,0))],rL_67,row74]:List Rowb).flatten∧OTree.ob (tg0 123) Γ41 gt_ rw (⟨o43.leaves,(mdel (2,(gt z5 0),(gt z5 1)) (mdel (1,(gt z5 0),0) (mdel (0,0,0) o43.sums)))⟩:OTree):=⟨_,rfl,cs_67,rL_67,sm_67,row74,(by simp only [List.flatten_cons,List.flatten_nil,List.append_nil,List.append_assoc]),hM_67,hl_67,hm75,trivial⟩
    have hw:=hw.fold (is:=[0,0,0]) rfl hrow_76
    cases h
    subst hF
    exact end_e (is:=[0]) (by kernel_rfl) hw rfl ⟨row_76,rfl,rfl,hob_76,(show I64 0 by decide),trivial⟩
abbrev r_tree_New(r:(Option OTree)×Int)(U:List Rowb)(Γ:Gh)(v:Value):Prop := ∃(g0:Nat), ∃(row0:Rowb),v = .tuple #[optp r.1 g0,.int .i64 r.2]∧U = [row0]∧optob (OTree.ob (tg0 123) Γ g0) row0 r.1∧I64 r.2∧True
theorem t_tree_New{Γ:Gh}{w0:World}{Alist:Option Addr}{clist:Nat}{list:List Rec}(hlist:Sl recT Γ Alist list)(hlistc:list.length≤clist)(hp:Pre [] Γ w0){r:(Option OTree)×Int}(h:m_tree_New list=some r):Calls Tryz.prog 44 #[.slice Alist list.length clist] w0 (Outc Γ [] w0 (r_tree_New r)):=by
 refine calls_of (N:=25) (rs:=[2,3]) (args:=[.slice Alist list.length clist]) Tryz.func44 rfl Tryz.ntmps44 Tryz.results44 rfl ?_
 obtain⟨F,hF⟩:∃F:Fm,F=⟨ids [],w0,Γ⟩:=⟨_,rfl⟩
 refine aa (C:=CC F Γ []) ?_ (hF▸hp.start)
 refine a7 ?_
 refine as_ (v:=.pointer none) ?_
 refine as_ (v:=.int .i64 0) ?_
 refine a6 ?_
 refine a7 ?_
 refine e_makeMap kk125 refV rfl rfl rfl rfl ?_
 intro g1 row2 hm3
 refine vb (q_build' (v:=.agg (List.replicate 256 (Value.map none)++[Value.map (some g1)]).toArray) rfl (bargs1 rfl) (λw=>by kernel_rfl)) ?_
 refine e_box (v:=.agg (List.replicate 256 (Value.map none)++[Value.map (some g1)]).toArray) rfl rfl rfl rfl (by kernel_rfl) ?_
 intro g4
 obtain⟨row_5,hrow_5,hob_5⟩:∃rw:Rowb,rw=([[(g4,.cells (List.replicate 256 (Value.map none)++[Value.map (some g1)]).toArray (tg0 123).1 (0,0))],row2]:List Rowb).flatten∧OTree.ob (tg0 123) Γ g4 rw (⟨List.replicate 256 none,[]⟩:OTree):=⟨_,rfl,List.replicate 256 (Value.map none),[],g1,row2,(by simp only [List.flatten_cons,List.flatten_nil,List.append_nil,List.nil_append]),MapsA.nils (strK Tryz.underlying9) recT.ag _ 256,List.length_replicate,Sums.new hm3,trivial⟩
 refine WR.sub (λw hw=>Cur.fold (is:=[0,0]) (row:=row_5) hw rfl hrow_5) ?_
 change WR _ _ _ (CC F Γ [row_5]) _ _ (upd _ 10 ((pq g4)))
 refine as_ (v:=(pq g4)) ?_
 refine a6 ?_
 refine a8 ?_
 refine a7 ?_
 refine mv (v:=.slice Alist list.length clist) ?_
 refine vb (q_len_slice rfl Tryz.underlying23 rfl) ?_
 refine mv (v:=.int .i64 0) ?_
 refine a6 ?_
 refine af ?_
 refine ap h (λ(i12:Nat) (o8:OTree) σ w => ∃(Γ6:Gh), ∃(row9:Rowb),slots σ [(4,(pq g4)),(11,.slice Alist list.length clist),(12,.int .i64 ((list.length:Nat):Int)),(13,.int .i64 ((i12:Nat):Int))]∧CC F Γ6 [row9] w∧Gh.le Γ Γ6∧OTree.ob (tg0 123) Γ6 g4 row9 o8∧True) ?_ ?_
 ·
  intro w hw
  exact⟨Γ,row_5,(sl_ (by kernel_rfl)),hw,(Gh.refl _),hob_5,trivial⟩
 rintro f11 i12 o8 σ w hi13 hlt14 hge15 ⟨Γ6,row9,hsl,hw,hl7,ho10,-⟩
 refine Wpt.slots hsl ?_
 refine aa (C:=CC F Γ6 [row9]) ?_ hw
 clear hw hsl
 refine a7 ?_
 refine vb (q_lss rfl rfl rfl) ?_
 refine a6 ?_
 refine a8 ?_
 refine WC.cond (b:=(decide (((i12:Nat):Int)<((list.length:Nat):Int)))) (by kernel_rfl) (λhb16=>?_) (λhb16=>?_)
 ·
  have hl17:=ilt hb16
  have h:=hlt14 hl17
  refine ae ?_
  change WC _ _ _ _ _ _
  refine a8 ?_
  refine af ?_
  refine a7 ?_
  refine vb (q_ixn (i:=i12) Tryz.underlying23 Tryz.sizeOf70 rfl rfl rfl hl17 ((hlist.mono hl7).some_ hl17)) ?_
  obtain⟨A18,c19,hx20⟩:=(hlist.mono hl7).recT_at i12
  refine vb (q_lda (c:=0) (vs:=[.string (gt list i12).key,.slice A18 ((gt list i12).vers).length c19]) (hx20 hl17).2 rfl Tryz.isAgg70 Tryz.sizeOf70 rfl rfl rfl) ?_
  refine e_alloc Tryz.zeroValue70 rfl rfl rfl rfl ?_
  intro g21
  refine e_st (i:=0) (v:=.agg #[.string (gt list i12).key,.slice A18 ((gt list i12).vers).length c19]) (new:=#[.string (gt list i12).key,.slice A18 ((gt list i12).vers).length c19]) rfl Tryz.sizeOf70 rfl rfl rfl rfl (by kernel_rfl) rfl rfl rfl rfl ?_
  refine a6 ?_
  refine a7 ?_
  refine mv (v:=(pq g4)) ?_
  refine vb (q_ldla (i:=0) (vs:=[.string (gt list i12).key,.slice A18 ((gt list i12).vers).length c19]) rfl rfl Tryz.isAgg70 Tryz.sizeOf70 rfl rfl) ?_
  obtain⟨z22,hz23,h⟩:=bnd h
  refine e_call (is:=[1]) rfl rfl (call_run Tryz.call66 rfl rfl (by kernel_rfl)) rfl (λw hp=>t_tree_Tree_Set ho10 (gt list i12) (hx20 hl17).1 hp hz23) ?_
  rintro Γ24 U26 v27 hl25 ⟨row28,rfl,rfl,hr29,hr30,_⟩
  change WR _ _ _ (CC F Γ24 [row28,[(g21,.cells #[.string (gt list i12).key,.slice A18 ((gt list i12).vers).length c19] 70 (0,0))]]) _ _ (upd _ 19 (.int .i64 z22.2))
  refine as_ (v:=.int .i64 z22.2) ?_
  refine a6 ?_
  refine a7 ?_
  refine mv (v:=.int .i64 z22.2) ?_
  refine vb (q_neq rfl rfl rfl) ?_
  refine a6 ?_
  refine aj h (by kernel_rfl) (λhb31 h=>?_) (λhb31 h=>?_)
  ·
   refine a7 ?_
   refine mv (v:=.int .i64 z22.2) ?_
   refine as_ (v:=.pointer none) ?_
   refine as_ (v:=.int .i64 z22.2) ?_
   refine a6 ?_
   refine ac ?_
   intro w hw
   have hw:=hw.pad
   cases h
   subst hF
   exact end_e (is:=[0]) (by kernel_rfl) hw rfl ⟨0,[],rfl,rfl,rfl,hr30,trivial⟩
  ·
   refine ae ?_
   change WC _ _ _ _ _ _
   refine ah ?_
   refine vb (q_add_r (r:=((i12+1:Nat):Int)) rfl rfl rfl (ctr_len hl17 (hlist.mono hl7).le)) ?_
   refine mv (v:=.int .i64 ((i12+1:Nat):Int)) ?_
   exact ab λw hw=>⟨hl17,z22.1,h,Γ24,row28,(sl_ (by kernel_rfl)),(hw.only (is:=[0]) rfl),(hl7.trans hl25),hr29,trivial⟩
 ·
  have h:=hge15 (ige hb16)
  refine am ?_
  change WC _ _ _ _ _ _
  refine a7 ?_
  refine mv (v:=(pq g4)) ?_
  refine as_ (v:=(pq g4)) ?_
  refine as_ (v:=.int .i64 0) ?_
  refine a6 ?_
  refine ac ?_
  intro w hw
  cases h
  subst hF
  exact end_e (is:=[0]) (by kernel_rfl) hw rfl ⟨g4,row9,rfl,rfl,ho10,(show I64 0 by decide),trivial⟩
theorem t_vect_Right{Γ:Gh}{w0:World}{Av_:Option Addr}{cv_:Nat}{v_:List Int}(hv_:Sl intT Γ Av_ v_)(hv_c:v_.length≤cv_)(hs:Sat Γ w0){r:Bool}(h:m_vect_Right v_=some r):Calls Tryz.prog 45 #[.slice Av_ v_.length cv_] w0 (λe w'=>e = .returned (.bool r)∧Fr no w0 w'):=by
 refine calls_of (N:=26) (rs:=[2]) (args:=[.slice Av_ v_.length cv_]) Tryz.func45 rfl Tryz.ntmps45 Tryz.results45 rfl ?_
 obtain⟨F,hF⟩:∃F:Fm,F=⟨no,w0,Γ⟩:=⟨_,rfl⟩
 refine aa (C:=CC F Γ []) ?_ (hF▸Cur.start0 hs)
 refine a7 ?_
 refine as_ (v:=.bool false) ?_
 refine a6 ?_
 refine a8 ?_
 refine a7 ?_
 refine mv (v:=.slice Av_ v_.length cv_) ?_
 refine vb (q_len_slice rfl Tryz.underlying22 rfl) ?_
 refine mv (v:=.int .i64 0) ?_
 refine a6 ?_
 refine af ?_
 refine ap h (λ(i2:Nat) (s:Unit) σ w=>match s with | ()=>slots σ [(0,.slice Av_ v_.length cv_),(5,.slice Av_ v_.length cv_),(6,.int .i64 ((v_.length:Nat):Int)),(7,.int .i64 ((i2:Nat):Int))]∧CC F Γ [] w∧True) ?_ ?_
 ·
  intro w hw
  exact⟨(sl_ (by kernel_rfl)),hw,trivial⟩
 rintro f1 i2 ⟨⟩ σ w hi3 hlt4 hge5 ⟨hsl,hw,-⟩
 refine Wpt.slots hsl ?_
 refine aa (C:=CC F Γ []) ?_ hw
 clear hw hsl
 refine a7 ?_
 refine vb (q_lss rfl rfl rfl) ?_
 refine a6 ?_
 refine a8 ?_
 refine WC.cond (b:=(decide (((i2:Nat):Int)<((v_.length:Nat):Int)))) (by kernel_rfl) (λhb6=>?_) (λhb6=>?_)
 ·
  have hl7:=ilt hb6
  have h:=hlt4 hl7
  refine ae ?_
  change WC _ _ _ _ _ _
  refine a8 ?_
  refine af ?_
  refine a7 ?_
  refine vb (q_ixn (i:=i2) Tryz.underlying22 Tryz.sizeOf2 rfl rfl rfl hl7 (hv_.some_ hl7)) ?_
  refine vb (q_ld (c:=0) (v:=.int .i64 (gt v_ i2)) (hv_.intT_at hl7).2 rfl Tryz.isAgg2 rfl rfl) ?_
  refine as_ (v:=.int .i64 (gt v_ i2)) ?_
  refine a6 ?_
  refine a7 ?_
  refine mv (v:=.int .i64 (gt v_ i2)) ?_
  refine vb (q_lss rfl rfl rfl) ?_
  refine mv (v:=.bool (decide ((gt v_ i2)<0))) ?_
  refine vg0 rfl rfl rfl rfl rfl (λhg8=>QV.qo (q_move (v:=.int .i64 (gt v_ i2)) rfl (by kernel_rfl))) ?_
  refine vg0 rfl rfl rfl rfl rfl (λhg9=>QV.qo (q_gtr rfl (gu hg9 rfl) rfl)) ?_
  refine vb (q_pick rfl rfl (pk_or' (g:=(decide ((gt v_ i2)<0))) (y:=(decide (4611686018427387904<(gt v_ i2)))))) ?_
  refine a6 ?_
  refine aj h (by kernel_rfl) (λhb10 h=>?_) (λhb10 h=>?_)
  ·
   refine a7 ?_
   refine as_ (v:=.bool false) ?_
   refine a6 ?_
   refine ac ?_
   intro w hw
   cases h
   subst hF
   exact⟨by kernel_rfl,hw.fr⟩
  ·
   refine ae ?_
   change WC _ _ _ _ _ _
   refine ah ?_
   refine vb (q_add_r (r:=((i2+1:Nat):Int)) rfl rfl rfl (ctr_len hl7 hv_.le)) ?_
   refine mv (v:=.int .i64 ((i2+1:Nat):Int)) ?_
   exact ab λw hw=>⟨hl7,(),h,(sl_ (by kernel_rfl)),hw,trivial⟩
 ·
  have h:=hge5 (ige hb6)
  refine am ?_
  change WC _ _ _ _ _ _
  refine a7 ?_
  refine mv (v:=.slice Av_ v_.length cv_) ?_
  refine vb (q_len_slice rfl Tryz.underlying22 rfl) ?_
  refine vb (q_geq rfl rfl rfl) ?_
  refine mv (v:=.bool (decide (1≤((v_.length:Nat):Int)))) ?_
  refine vg1 rfl rfl rfl rfl rfl (λhg11=>QV.qo (q_move (v:=.slice Av_ v_.length cv_) rfl (by kernel_rfl))) ?_
  refine vg1 rfl rfl rfl rfl rfl (λhg12=>QV.qo (q_len_slice rfl Tryz.underlying22 (gu hg12 rfl))) ?_
  refine vg1 rfl rfl rfl rfl rfl (λhg13=>QV.qo (q_leq rfl (gu hg13 rfl) rfl)) ?_
  refine vb (q_pick rfl rfl (pk_and' (g:=(decide (1≤((v_.length:Nat):Int)))) (y:=(decide (((v_.length:Nat):Int)≤16))))) ?_
  refine as_ (v:=.bool ((decide (1≤((v_.length:Nat):Int)))&&(decide (((v_.length:Nat):Int)≤16)))) ?_
  refine a6 ?_
  refine ac ?_
  intro w hw
  cases h
  subst hF
  exact⟨by kernel_rfl,hw.fr⟩
abbrev r_slices_Clone_int64_int64(r:List Int)(U:List Rowb)(Γ:Gh)(v:Value):Prop := ∃(A0:Option Addr), ∃(c0:Nat), ∃(row0:Rowb),v = .slice A0 r.length c0∧U = [row0]∧Own intT Γ 2 row0 A0 c0 r∧True
theorem t_slices_Clone_int64_int64{Γ:Gh}{w0:World}{As_:Option Addr}{cs_:Nat}{s_:List Int}(hs_:Sl intT Γ As_ s_)(hs_c:s_.length≤cs_)(hp:Pre [] Γ w0){r:List Int}(h:m_slices_Clone_int64_int64 s_=some r):Calls Tryz.prog 46 #[.slice As_ s_.length cs_] w0 (Outc Γ [] w0 (r_slices_Clone_int64_int64 r)):=by
 refine calls_of (N:=8) (rs:=[2]) (args:=[.slice As_ s_.length cs_]) Tryz.func46 rfl Tryz.ntmps46 Tryz.results46 rfl ?_
 obtain⟨F,hF⟩:∃F:Fm,F=⟨ids [],w0,Γ⟩:=⟨_,rfl⟩
 refine aa (C:=CC F Γ []) ?_ (hF▸hp.start)
 refine a7 ?_
 refine as_ (v:=.slice none 0 0) ?_
 refine a6 ?_
 refine a8 ?_
 refine a7 ?_
 refine mv (v:=.slice As_ s_.length cs_) ?_
 refine vb (q_nil_slice Tryz.underlying22 rfl rfl rfl) ?_
 refine a6 ?_
 refine WC.cnil h (by kernel_rfl) (λhb=>hs_.none_nil hb) (λhb1 h=>?_) (λhb1 h=>?_)
 ·
  refine a7 ?_
  refine as_ (v:=.slice none 0 0) ?_
  refine a6 ?_
  refine ac ?_
  intro w hw
  have hw:=hw.pad
  cases h
  subst hF
  exact end_e (is:=[0]) (by kernel_rfl) hw rfl ⟨none,0,[],rfl,rfl,(Own.nil intT _ 2),trivial⟩
 ·
  refine ae ?_
  change WC _ _ _ _ _ _
  refine a7 ?_
  refine e_buildSlice (cs:=#[]) (e:=2) rfl rfl rfl rfl (λw=>by kernel_rfl) ?_
  intro g2
  refine mv (v:=.slice As_ s_.length cs_) ?_
  have ho3:Own intT Γ 2 [(g2,.cells #[] 2 (0,0))] (some ⟨g2,0,none⟩) 0 ([]:List Int):=aq (T:=intT) (ys:=([]:List Int)) [] rfl (show 0≤lim by decide) (show True from trivial)
  obtain⟨hk4,h⟩:=chk_some h
  refine e_append (T:=intT) (xs:=([]:List Int)) (ys:=s_) elem_22 (i:=0) rfl rfl rfl rfl rfl rfl rfl ho3 (of_decide_eq_true hk4) (λw hw=>src_sl hs_ hw) ?_
  intro row5 A6 c7 ho8
  refine as_ (v:=.slice A6 (([]:List Int)++s_).length c7) ?_
  refine a6 ?_
  refine ac ?_
  intro w hw
  cases h
  subst hF
  exact end_e (is:=[0]) (by kernel_rfl) hw rfl ⟨A6,c7,row5,rfl,rfl,ho8,trivial⟩
abbrev r_pull_NewCut(r:(Option Opull_Cut)×Int)(U:List Rowb)(Γ:Gh)(v:Value):Prop := ∃(g0:Nat), ∃(row0:Rowb),v = .tuple #[optp r.1 g0,.int .i64 r.2]∧U = [row0]∧optob (Opull_Cut.ob 85 Γ g0) row0 r.1∧I64 r.2∧True
theorem t_pull_NewCut{Γ:Gh}{w0:World}(id:Int)(hid:I64 id){Avec:Option Addr}{cvec:Nat}{vec:List Int}(hvec:Sl intT Γ Avec vec)(hvecc:vec.length≤cvec){Alist:Option Addr}{clist:Nat}{list:List Rec}(hlist:Sl recT Γ Alist list)(hlistc:list.length≤clist)(hp:Pre [] Γ w0){r:(Option Opull_Cut)×Int}(h:m_pull_NewCut id vec list=some r):Calls Tryz.prog 10 #[.int .i64 id,.slice Avec vec.length cvec,.slice Alist list.length clist] w0 (Outc Γ [] w0 (r_pull_NewCut r)):=by
 refine calls_of (N:=28) (rs:=[6,7]) (args:=[.int .i64 id,.slice Avec vec.length cvec,.slice Alist list.length clist]) Tryz.func10 rfl Tryz.ntmps10 Tryz.results10 rfl ?_
 obtain⟨F,hF⟩:∃F:Fm,F=⟨ids [],w0,Γ⟩:=⟨_,rfl⟩
 refine aa (C:=CC F Γ []) ?_ (hF▸hp.start)
 refine a7 ?_
 refine as_ (v:=.pointer none) ?_
 refine as_ (v:=.int .i64 0) ?_
 refine a6 ?_
 refine a7 ?_
 refine mv (v:=.slice Alist list.length clist) ?_
 obtain⟨z1,hz2,h⟩:=bnd h
 refine e_call (is:=[]) rfl rfl (call_run Tryz.call44 rfl rfl (by kernel_rfl)) rfl (λw hp=>t_tree_New hlist hlistc hp hz2) ?_
 rintro Γ3 U5 v6 hl4 ⟨g7,row8,rfl,rfl,hr9,hr10,_⟩
 change WR _ _ _ (CC F Γ3 [row8]) _ _ (upd _ 12 (.tuple #[optp z1.1 g7,.int .i64 z1.2]))
 refine mv (v:=.tuple #[optp z1.1 g7,.int .i64 z1.2]) ?_
 refine vb (q_extract (v:=optp z1.1 g7) rfl rfl rfl) ?_
 refine vb (q_extract (v:=.int .i64 z1.2) rfl rfl rfl) ?_
 refine as_ (v:=optp z1.1 g7) ?_
 refine as_ (v:=.int .i64 z1.2) ?_
 refine a6 ?_
 refine a8 ?_
 refine a7 ?_
 refine mv (v:=.int .i64 z1.2) ?_
 refine vb (q_neq rfl rfl rfl) ?_
 refine mv (v:=.bool (z1.2 != 0)) ?_
 refine vg0 rfl rfl rfl rfl rfl (λhg11=>QV.qo (q_move (v:=.slice Avec vec.length cvec) rfl (by kernel_rfl))) ?_
 obtain⟨z13,hz14,h⟩:=bnd h
 refine vg0 rfl rfl rfl rfl rfl (λhg12=>(q_call (call_run Tryz.call45 rfl rfl (args1 (gu hg12 rfl))) (λw hw=>t_vect_Right (Γ:=Gh.all w) ((hvec.mono hl4).mono hw.sat.le_all) hvecc (Sat.all w) (gc_of hz14 hg12)))) ?_
 refine vg0 rfl rfl rfl rfl rfl (λhg15=>QV.qo (q_not rfl (gu hg15 rfl))) ?_
 refine vb (q_pick rfl rfl (pk_or' (g:=(z1.2 != 0)) (y:=(!z13)))) ?_
 refine a6 ?_
 refine aj h (by kernel_rfl) (λhb16 h=>?_) (λhb16 h=>?_)
 ·
  refine a7 ?_
  refine as_ (v:=.pointer none) ?_
  refine as_ (v:=.int .i64 1) ?_
  refine a6 ?_
  refine ac ?_
  intro w hw
  have hw:=hw.pad
  cases h
  subst hF
  exact end_e (is:=[0]) (by kernel_rfl) hw rfl ⟨0,[],rfl,rfl,rfl,(show I64 1 by decide),trivial⟩
 ·
  refine ae ?_
  change WC _ _ _ _ _ _
  refine a7 ?_
  refine mv (v:=.int .i64 id) ?_
  refine mv (v:=.slice Avec vec.length cvec) ?_
  obtain⟨z17,hz18,h⟩:=bnd h
  refine e_call (is:=[]) rfl rfl (call_run Tryz.call46 rfl rfl (by kernel_rfl)) rfl (λw hp=>t_slices_Clone_int64_int64 (hvec.mono hl4) hvecc hp hz18) ?_
  rintro Γ19 U21 v22 hl20 ⟨A23,c24,row25,rfl,rfl,hr26,_⟩
  change WR _ _ _ (CC F Γ19 [row25,row8]) _ _ (upd _ 24 (.slice A23 z17.length c24))
  refine mv (v:=optp z1.1 g7) ?_
  obtain⟨z27,hz28,h⟩:=bnd h
  have ho29:=optob_some (optob_mono hr9 (λ_ h=>h.mono hl20)) hz28
  refine vb (q_build' (v:=.agg #[.int .i64 id,.slice A23 z17.length c24,(pq g7)]) rfl (bargs3 rfl rfl (optp_some rfl hz28)) (λw=>by kernel_rfl)) ?_
  refine e_box (v:=.agg #[.int .i64 id,.slice A23 z17.length c24,(pq g7)]) rfl rfl rfl rfl (by kernel_rfl) ?_
  intro g30
  refine as_ (v:=(pq g30)) ?_
  refine as_ (v:=.int .i64 0) ?_
  refine a6 ?_
  refine ac ?_
  intro w hw
  have hc35:=hr26.capz
  obtain⟨Γ31,hw,hl32,hr33⟩:=hw.seal (i:=1) rfl; have hs34:=hr26.sl hl32 hr33
  obtain⟨row_36,hrow_36,hob_36⟩:∃rw:Rowb,rw=([[(g30,.cells #[.int .i64 id,.slice A23 z17.length c24,(pq g7)] 85 (0,0))],row8]:List Rowb).flatten∧Opull_Cut.ob 85 Γ31 g30 rw (⟨id,z17,z27⟩:Opull_Cut):=⟨_,rfl,A23,c24,g7,row8,rfl,hid,hc35,hs34,(ho29.mono hl32),trivial⟩
  have hw:=hw.fold (is:=[0,1]) rfl hrow_36
  cases h
  subst hF
  exact end_e (is:=[0]) (by kernel_rfl) hw rfl ⟨g30,row_36,rfl,rfl,hob_36,(show I64 0 by decide),trivial⟩
theorem t_firthref03_Dot{Γ:Gh}{w0:World}(d:Dot)(hd:Dot.fits Γ  d)(hs:Sat Γ w0){r:Bool}(h:m_firthref03_Dot d=some r):Calls Tryz.prog 116 #[.agg #[.int .i64 d.s,.int .i64 d.n]] w0 (λe w'=>e = .returned (.bool r)∧Fr no w0 w'):=by
 refine calls_of (N:=21) (rs:=[2]) (args:=[.agg #[.int .i64 d.s,.int .i64 d.n]]) Tryz.func116 rfl Tryz.ntmps116 Tryz.results116 rfl ?_
 obtain⟨F,hF⟩:∃F:Fm,F=⟨no,w0,Γ⟩:=⟨_,rfl⟩
 refine aa (C:=CC F Γ []) ?_ (hF▸Cur.start0 hs)
 refine a7 ?_
 refine e_box (v:=.agg #[.int .i64 d.s,.int .i64 d.n]) rfl rfl rfl rfl (by kernel_rfl) ?_
 intro g1
 refine as_ (v:=.bool false) ?_
 refine a6 ?_
 refine a7 ?_
 refine vb (q_fl 0 fld_112_0 rfl rfl rfl) ?_
 refine vb (q_ldl (i:=0) (v:=.int .i64 d.s) rfl rfl Tryz.isAgg3 rfl rfl) ?_
 refine vb (q_geq rfl rfl rfl) ?_
 refine mv (v:=.bool (decide (1≤d.s))) ?_
 refine vg1 rfl rfl rfl rfl rfl (λhg2=>QV.qo (q_fl 0 fld_112_0 rfl rfl rfl)) ?_
 refine vg1 rfl rfl rfl rfl rfl (λhg3=>QV.qo (q_ldl (i:=0) (v:=.int .i64 d.s) rfl rfl Tryz.isAgg3 (gu hg3 rfl) rfl)) ?_
 refine vg1 rfl rfl rfl rfl rfl (λhg4=>QV.qo (q_leq rfl (gu hg4 rfl) rfl)) ?_
 refine vb (q_pick rfl rfl (pk_and' (g:=(decide (1≤d.s))) (y:=(decide (d.s≤16))))) ?_
 refine mv (v:=.bool ((decide (1≤d.s))&&(decide (d.s≤16)))) ?_
 refine vg1 rfl rfl rfl rfl rfl (λhg5=>QV.qo (q_fl 1 fld_112_1 rfl rfl rfl)) ?_
 refine vg1 rfl rfl rfl rfl rfl (λhg6=>QV.qo (q_ldl (i:=0) (v:=.int .i64 d.n) rfl rfl Tryz.isAgg2 (gu hg6 rfl) rfl)) ?_
 refine vg1 rfl rfl rfl rfl rfl (λhg7=>QV.qo (q_geq rfl (gu hg7 rfl) rfl)) ?_
 refine vb (q_pick rfl rfl (pk_and' (g:=((decide (1≤d.s))&&(decide (d.s≤16)))) (y:=(decide (1≤d.n))))) ?_
 refine mv (v:=.bool (((decide (1≤d.s))&&(decide (d.s≤16)))&&(decide (1≤d.n)))) ?_
 refine vg1 rfl rfl rfl rfl rfl (λhg8=>QV.qo (q_fl 1 fld_112_1 rfl rfl rfl)) ?_
 refine vg1 rfl rfl rfl rfl rfl (λhg9=>QV.qo (q_ldl (i:=0) (v:=.int .i64 d.n) rfl rfl Tryz.isAgg2 (gu hg9 rfl) rfl)) ?_
 refine vg1 rfl rfl rfl rfl rfl (λhg10=>QV.qo (q_leq rfl (gu hg10 rfl) rfl)) ?_
 refine vb (q_pick rfl rfl (pk_and' (g:=(((decide (1≤d.s))&&(decide (d.s≤16)))&&(decide (1≤d.n)))) (y:=(decide (d.n≤4611686018427387904))))) ?_
 refine as_ (v:=.bool ((((decide (1≤d.s))&&(decide (d.s≤16)))&&(decide (1≤d.n)))&&(decide (d.n≤4611686018427387904)))) ?_
 refine a6 ?_
 refine ac ?_
 intro w hw
 cases h
 subst hF
 exact⟨by kernel_rfl,hw.fr⟩
theorem t_firthref03_Right{Γ:Gh}{w0:World}{Al:Option Addr}{cl:Nat}{l:List Span}(hl:Sl spanT Γ Al l)(hlc:l.length≤cl)(hs:Sat Γ w0){r:Bool}(h:m_firthref03_Right l=some r):Calls Tryz.prog 117 #[.slice Al l.length cl] w0 (λe w'=>e = .returned (.bool r)∧Fr no w0 w'):=by
 refine calls_of (N:=99) (rs:=[2]) (args:=[.slice Al l.length cl]) Tryz.func117 rfl Tryz.ntmps117 Tryz.results117 rfl ?_
 obtain⟨F,hF⟩:∃F:Fm,F=⟨no,w0,Γ⟩:=⟨_,rfl⟩
 refine aa (C:=CC F Γ []) ?_ (hF▸Cur.start0 hs)
 refine a7 ?_
 refine as_ (v:=.bool false) ?_
 refine a6 ?_
 refine a8 ?_
 refine a7 ?_
 refine mv (v:=.slice Al l.length cl) ?_
 refine vb (q_len_slice rfl Tryz.underlying113 rfl) ?_
 refine vb (q_gtr rfl rfl rfl) ?_
 refine a6 ?_
 refine aj h (by kernel_rfl) (λhb1 h=>?_) (λhb1 h=>?_)
 ·
  refine a7 ?_
  refine as_ (v:=.bool false) ?_
  refine a6 ?_
  refine ac ?_
  intro w hw
  cases h
  subst hF
  exact⟨by kernel_rfl,hw.fr⟩
 ·
  refine ae ?_
  change WC _ _ _ _ _ _
  refine a8 ?_
  refine a7 ?_
  refine as_ (v:=.int .i64 0) ?_
  refine a6 ?_
  refine af ?_
  refine ap h (λ(i3:Nat) (s:Unit) σ w=>match s with | ()=>slots σ [(0,.slice Al l.length cl),(3,.int .i64 ((i3:Nat):Int))]∧CC F Γ [] w∧True) ?_ ?_
  ·
   intro w hw
   exact⟨(sl_ (by kernel_rfl)),hw,trivial⟩
  rintro f2 i3 ⟨⟩ σ w hi4 hlt5 hge6 ⟨hsl,hw,-⟩
  refine Wpt.slots hsl ?_
  refine aa (C:=CC F Γ []) ?_ hw
  clear hw hsl
  refine a8 ?_
  refine a7 ?_
  refine mv (v:=.int .i64 ((i3:Nat):Int)) ?_
  refine mv (v:=.slice Al l.length cl) ?_
  refine vb (q_len_slice rfl Tryz.underlying113 rfl) ?_
  refine vb (q_lss rfl rfl rfl) ?_
  refine a6 ?_
  refine WC.cond (b:=(decide (((i3:Nat):Int)<((l.length:Nat):Int)))) (by kernel_rfl) (λhb7=>?_) (λhb7=>?_)
  ·
   have hl8:=ilt hb7
   have h:=hlt5 hl8
   refine ae ?_
   change WC _ _ _ _ _ _
   refine a8 ?_
   refine af ?_
   refine a8 ?_
   refine a8 ?_
   refine ay (by kernel_rfl) (by kernel_rfl) (λw hw=>hw.drawn _) ?_
   refine wa rfl rfl rfl (q_move (v:=.slice Al l.length cl) rfl (by kernel_rfl)) ?_
   refine wa rfl rfl rfl (q_move (v:=.int .i64 ((i3:Nat):Int)) rfl (by kernel_rfl)) ?_
   refine wa rfl rfl rfl (q_ixn (i:=i3) Tryz.underlying113 Tryz.sizeOf117 rfl rfl rfl hl8 (hl.some_ hl8)) ?_
   refine wa rfl rfl rfl (q_field_addr (i3*3) fld_117_0 rfl rfl (hl.some_ hl8) rfl) ?_
   refine wa rfl rfl rfl (q_ld (c:=0) (v:=.int .i64 (gt l i3).s) (hl.spanT_at hl8).2 rfl Tryz.isAgg3 rfl rfl) ?_
   refine wa rfl rfl rfl (q_move (v:=.slice Al l.length cl) rfl (by kernel_rfl)) ?_
   refine wa rfl rfl rfl (q_move (v:=.int .i64 ((i3:Nat):Int)) rfl (by kernel_rfl)) ?_
   refine wa rfl rfl rfl (q_ixn (i:=i3) Tryz.underlying113 Tryz.sizeOf117 rfl rfl rfl hl8 (hl.some_ hl8)) ?_
   refine wa rfl rfl rfl (q_field_addr (i3*3+1) fld_117_1 rfl rfl (hl.some_ hl8) rfl) ?_
   refine wa rfl rfl rfl (q_ld (c:=1) (v:=.int .i64 (gt l i3).f) (hl.spanT_at hl8).2 rfl Tryz.isAgg2 rfl rfl) ?_
   refine wa rfl rfl rfl (q_build' (v:=.agg #[.int .i64 (gt l i3).s,.int .i64 (gt l i3).f]) rfl (bargs2 rfl rfl) (λw=>by kernel_rfl)) ?_
   obtain⟨z9,hz10,h⟩:=bnd h
   refine wc rfl rfl rfl (q_call (call_run Tryz.call116 rfl rfl (by kernel_rfl)) (λw hw=>t_firthref03_Dot (Γ:=Gh.all w) (⟨(gt l i3).s,(gt l i3).f⟩:Dot) ⟨(hl.spanT_at hl8).1.1,(hl.spanT_at hl8).1.2.1⟩ (Sat.all w) hz10)) ?_
   refine wa rfl rfl rfl (q_not rfl rfl) ?_
   refine wa rfl rfl rfl (q_move (v:=.bool (!z9)) rfl (by kernel_rfl)) ?_
   refine wg0 rfl rfl rfl rfl rfl (λhg11=>QV.qo (q_move (v:=.slice Al l.length cl) rfl (by kernel_rfl))) ?_
   refine wg0 rfl rfl rfl rfl rfl (λhg12=>QV.qo (q_move (v:=.int .i64 ((i3:Nat):Int)) rfl (by kernel_rfl))) ?_
   refine wg0 rfl rfl rfl rfl rfl (λhg13=>QV.qo (q_ixn (i:=i3) Tryz.underlying113 Tryz.sizeOf117 rfl (gu hg13 rfl) (gu hg13 rfl) hl8 (hl.some_ hl8))) ?_
   refine wg0 rfl rfl rfl rfl rfl (λhg14=>QV.qo (q_field_addr (i3*3) fld_117_0 rfl (gu hg14 rfl) (hl.some_ hl8) rfl)) ?_
   refine wg0 rfl rfl rfl rfl rfl (λhg15=>QV.qo (q_ld (c:=0) (v:=.int .i64 (gt l i3).s) (hl.spanT_at hl8).2 rfl Tryz.isAgg3 (gu hg15 rfl) rfl)) ?_
   refine wg0 rfl rfl rfl rfl rfl (λhg16=>QV.qo (q_move (v:=.slice Al l.length cl) rfl (by kernel_rfl))) ?_
   refine wg0 rfl rfl rfl rfl rfl (λhg17=>QV.qo (q_move (v:=.int .i64 ((i3:Nat):Int)) rfl (by kernel_rfl))) ?_
   refine wg0 rfl rfl rfl rfl rfl (λhg18=>QV.qo (q_ixn (i:=i3) Tryz.underlying113 Tryz.sizeOf117 rfl (gu hg18 rfl) (gu hg18 rfl) hl8 (hl.some_ hl8))) ?_
   refine wg0 rfl rfl rfl rfl rfl (λhg19=>QV.qo (q_field_addr (i3*3+2) fld_117_2 rfl (gu hg19 rfl) (hl.some_ hl8) rfl)) ?_
   refine wg0 rfl rfl rfl rfl rfl (λhg20=>QV.qo (q_ld (c:=2) (v:=.int .i64 (gt l i3).t) (hl.spanT_at hl8).2 rfl Tryz.isAgg2 (gu hg20 rfl) rfl)) ?_
   refine wg0 rfl rfl rfl rfl rfl (λhg21=>QV.qo (q_build' (v:=.agg #[.int .i64 (gt l i3).s,.int .i64 (gt l i3).t]) rfl (bargs2 (gu hg21 rfl) (gu hg21 rfl)) (λw=>by kernel_rfl))) ?_
   obtain⟨z23,hz24,h⟩:=bnd h
   refine wg0 rfl rfl rfl rfl rfl (λhg22=>(q_call (call_run Tryz.call116 rfl rfl (args1 (gu hg22 rfl))) (λw hw=>t_firthref03_Dot (Γ:=Gh.all w) (⟨(gt l i3).s,(gt l i3).t⟩:Dot) ⟨(hl.spanT_at hl8).1.1,(hl.spanT_at hl8).1.2.2⟩ (Sat.all w) (gc_of hz24 hg22)))) ?_
   refine wg0 rfl rfl rfl rfl rfl (λhg25=>QV.qo (q_not rfl (gu hg25 rfl))) ?_
   refine wa rfl rfl rfl (q_pick rfl rfl (pk_or' (g:=(!z9)) (y:=(!z23)))) ?_
   refine wa rfl rfl rfl (q_move (v:=.bool ((!z9)||(!z23))) rfl (by kernel_rfl)) ?_
   refine wg0 rfl rfl rfl rfl rfl (λhg26=>QV.qo (q_move (v:=.slice Al l.length cl) rfl (by kernel_rfl))) ?_
   refine wg0 rfl rfl rfl rfl rfl (λhg27=>QV.qo (q_move (v:=.int .i64 ((i3:Nat):Int)) rfl (by kernel_rfl))) ?_
   refine wg0 rfl rfl rfl rfl rfl (λhg28=>QV.qo (q_ixn (i:=i3) Tryz.underlying113 Tryz.sizeOf117 rfl (gu hg28 rfl) (gu hg28 rfl) hl8 (hl.some_ hl8))) ?_
   refine wg0 rfl rfl rfl rfl rfl (λhg29=>QV.qo (q_field_addr (i3*3+1) fld_117_1 rfl (gu hg29 rfl) (hl.some_ hl8) rfl)) ?_
   refine wg0 rfl rfl rfl rfl rfl (λhg30=>QV.qo (q_ld (c:=1) (v:=.int .i64 (gt l i3).f) (hl.spanT_at hl8).2 rfl Tryz.isAgg2 (gu hg30 rfl) rfl)) ?_
   refine wg0 rfl rfl rfl rfl rfl (λhg31=>QV.qo (q_move (v:=.slice Al l.length cl) rfl (by kernel_rfl))) ?_
   refine wg0 rfl rfl rfl rfl rfl (λhg32=>QV.qo (q_move (v:=.int .i64 ((i3:Nat):Int)) rfl (by kernel_rfl))) ?_
   refine wg0 rfl rfl rfl rfl rfl (λhg33=>QV.qo (q_ixn (i:=i3) Tryz.underlying113 Tryz.sizeOf117 rfl (gu hg33 rfl) (gu hg33 rfl) hl8 (hl.some_ hl8))) ?_
   refine wg0 rfl rfl rfl rfl rfl (λhg34=>QV.qo (q_field_addr (i3*3+2) fld_117_2 rfl (gu hg34 rfl) (hl.some_ hl8) rfl)) ?_
   refine wg0 rfl rfl rfl rfl rfl (λhg35=>QV.qo (q_ld (c:=2) (v:=.int .i64 (gt l i3).t) (hl.spanT_at hl8).2 rfl Tryz.isAgg2 (gu hg35 rfl) rfl)) ?_
   refine wg0 rfl rfl rfl rfl rfl (λhg36=>QV.qo (q_gtr rfl (gu hg36 rfl) (gu hg36 rfl))) ?_
   refine wa rfl rfl rfl (q_pick rfl rfl (pk_or' (g:=((!z9)||(!z23))) (y:=(decide ((gt l i3).t<(gt l i3).f))))) ?_
   refine aw ?_
   change WC _ _ _ _ _ _
   refine aj h (by kernel_rfl) (λhb37 h=>?_) (λhb37 h=>?_)
   ·
    refine a7 ?_
    refine as_ (v:=.bool false) ?_
    refine a6 ?_
    refine ac ?_
    intro w hw
    cases h
    subst hF
    exact⟨by kernel_rfl,hw.fr⟩
   ·
    refine ae ?_
    change WC _ _ _ _ _ _
    refine a8 ?_
    refine ay (by kernel_rfl) (by kernel_rfl) (λw hw=>hw.drawn _) ?_
    refine wa rfl rfl rfl (q_move (v:=.int .i64 ((i3:Nat):Int)) rfl (by kernel_rfl)) ?_
    refine wa rfl rfl rfl (q_gtr rfl rfl rfl) ?_
    refine wa rfl rfl rfl (q_move (v:=.bool (decide (0<((i3:Nat):Int)))) rfl (by kernel_rfl)) ?_
    refine wg1 rfl rfl rfl rfl rfl (λhg38=>QV.qo (q_move (v:=.slice Al l.length cl) rfl (by kernel_rfl))) ?_
    refine wg1 rfl rfl rfl rfl rfl (λhg39=>QV.qo (q_move (v:=.int .i64 ((i3:Nat):Int)) rfl (by kernel_rfl))) ?_
    refine wg1 rfl rfl rfl rfl rfl (λhg40=>QV.qo (q_ixn (i:=i3) Tryz.underlying113 Tryz.sizeOf117 rfl (gu hg40 rfl) (gu hg40 rfl) hl8 (hl.some_ hl8))) ?_
    refine wg1 rfl rfl rfl rfl rfl (λhg41=>QV.qo (q_field_addr (i3*3) fld_117_0 rfl (gu hg41 rfl) (hl.some_ hl8) rfl)) ?_
    refine wg1 rfl rfl rfl rfl rfl (λhg42=>QV.qo (q_ld (c:=0) (v:=.int .i64 (gt l i3).s) (hl.spanT_at hl8).2 rfl Tryz.isAgg3 (gu hg42 rfl) rfl)) ?_
    refine wg1 rfl rfl rfl rfl rfl (λhg43=>QV.qo (q_move (v:=.slice Al l.length cl) rfl (by kernel_rfl))) ?_
    refine wg1 rfl rfl rfl rfl rfl (λhg44=>QV.qo (q_move (v:=.int .i64 ((i3:Nat):Int)) rfl (by kernel_rfl))) ?_
    refine wg1 rfl rfl rfl rfl rfl (λhg45=>QV.qo (q_sub rfl (gu hg45 rfl) rfl)) ?_
    obtain⟨hk47,h⟩:=chk_some h
    refine wg1 rfl rfl rfl rfl rfl (λhg46=>QV.qo (q_ix Tryz.underlying113 Tryz.sizeOf117 rfl (gu hg46 rfl) (gu hg46 rfl) (imp_of hk47 hg46) (hl.some_ (inb_lt (imp_of hk47 hg46))))) ?_
    refine wg1 rfl rfl rfl rfl rfl (λhg48=>QV.qo (q_field_addr (((w64 (((i3:Nat):Int) - 1)).toNat)*3) fld_117_0 rfl (gu hg48 rfl) (hl.some_ (inb_lt (imp_of hk47 hg48))) rfl)) ?_
    refine wg1 rfl rfl rfl rfl rfl (λhg49=>QV.qo (q_ld (c:=0) (v:=.int .i64 (gt l ((w64 (((i3:Nat):Int) - 1)).toNat)).s) (hl.spanT_at (inb_lt (imp_of hk47 hg49))).2 rfl Tryz.isAgg3 (gu hg49 rfl) rfl)) ?_
    refine wg1 rfl rfl rfl rfl rfl (λhg50=>QV.qo (q_lss rfl (gu hg50 rfl) (gu hg50 rfl))) ?_
    refine wg1 rfl rfl rfl rfl rfl (λhg51=>QV.qo (q_move (v:=.bool (decide ((gt l i3).s<(gt l ((w64 (((i3:Nat):Int) - 1)).toNat)).s))) rfl (gu hg51 rfl))) ?_
    refine wh0 (c0:=(decide (0<((i3:Nat):Int)))) (g:=(decide ((gt l i3).s<(gt l ((w64 (((i3:Nat):Int) - 1)).toNat)).s))) rfl rfl rfl rfl rfl (λhg52=>QV.qo (q_move (v:=.slice Al l.length cl) rfl (by kernel_rfl))) ?_
    refine wh0 (c0:=(decide (0<((i3:Nat):Int)))) (g:=(decide ((gt l i3).s<(gt l ((w64 (((i3:Nat):Int) - 1)).toNat)).s))) rfl rfl rfl rfl rfl (λhg53=>QV.qo (q_move (v:=.int .i64 ((i3:Nat):Int)) rfl (by kernel_rfl))) ?_
    refine wh0 (c0:=(decide (0<((i3:Nat):Int)))) (g:=(decide ((gt l i3).s<(gt l ((w64 (((i3:Nat):Int) - 1)).toNat)).s))) rfl rfl rfl rfl rfl (λhg54=>QV.qo (q_ixn (i:=i3) Tryz.underlying113 Tryz.sizeOf117 rfl (gu hg54 rfl) (gu hg54 rfl) hl8 (hl.some_ hl8))) ?_
    refine wh0 (c0:=(decide (0<((i3:Nat):Int)))) (g:=(decide ((gt l i3).s<(gt l ((w64 (((i3:Nat):Int) - 1)).toNat)).s))) rfl rfl rfl rfl rfl (λhg55=>QV.qo (q_field_addr (i3*3) fld_117_0 rfl (gu hg55 rfl) (hl.some_ hl8) rfl)) ?_
    refine wh0 (c0:=(decide (0<((i3:Nat):Int)))) (g:=(decide ((gt l i3).s<(gt l ((w64 (((i3:Nat):Int) - 1)).toNat)).s))) rfl rfl rfl rfl rfl (λhg56=>QV.qo (q_ld (c:=0) (v:=.int .i64 (gt l i3).s) (hl.spanT_at hl8).2 rfl Tryz.isAgg3 (gu hg56 rfl) rfl)) ?_
    refine wh0 (c0:=(decide (0<((i3:Nat):Int)))) (g:=(decide ((gt l i3).s<(gt l ((w64 (((i3:Nat):Int) - 1)).toNat)).s))) rfl rfl rfl rfl rfl (λhg57=>QV.qo (q_move (v:=.slice Al l.length cl) rfl (by kernel_rfl))) ?_
    refine wh0 (c0:=(decide (0<((i3:Nat):Int)))) (g:=(decide ((gt l i3).s<(gt l ((w64 (((i3:Nat):Int) - 1)).toNat)).s))) rfl rfl rfl rfl rfl (λhg58=>QV.qo (q_move (v:=.int .i64 ((i3:Nat):Int)) rfl (by kernel_rfl))) ?_
    refine wh0 (c0:=(decide (0<((i3:Nat):Int)))) (g:=(decide ((gt l i3).s<(gt l ((w64 (((i3:Nat):Int) - 1)).toNat)).s))) rfl rfl rfl rfl rfl (λhg59=>QV.qo (q_sub rfl (gu hg59 rfl) rfl)) ?_
    refine wh0 (c0:=(decide (0<((i3:Nat):Int)))) (g:=(decide ((gt l i3).s<(gt l ((w64 (((i3:Nat):Int) - 1)).toNat)).s))) rfl rfl rfl rfl rfl (λhg60=>QV.qo (q_ix Tryz.underlying113 Tryz.sizeOf117 rfl (gu hg60 rfl) (gu hg60 rfl) (imp_of hk47 (and_l hg60)) (hl.some_ (inb_lt (imp_of hk47 (and_l hg60)))))) ?_
    refine wh0 (c0:=(decide (0<((i3:Nat):Int)))) (g:=(decide ((gt l i3).s<(gt l ((w64 (((i3:Nat):Int) - 1)).toNat)).s))) rfl rfl rfl rfl rfl (λhg61=>QV.qo (q_field_addr (((w64 (((i3:Nat):Int) - 1)).toNat)*3) fld_117_0 rfl (gu hg61 rfl) (hl.some_ (inb_lt (imp_of hk47 (and_l hg61)))) rfl)) ?_
    refine wh0 (c0:=(decide (0<((i3:Nat):Int)))) (g:=(decide ((gt l i3).s<(gt l ((w64 (((i3:Nat):Int) - 1)).toNat)).s))) rfl rfl rfl rfl rfl (λhg62=>QV.qo (q_ld (c:=0) (v:=.int .i64 (gt l ((w64 (((i3:Nat):Int) - 1)).toNat)).s) (hl.spanT_at (inb_lt (imp_of hk47 (and_l hg62)))).2 rfl Tryz.isAgg3 (gu hg62 rfl) rfl)) ?_
    refine wh0 (c0:=(decide (0<((i3:Nat):Int)))) (g:=(decide ((gt l i3).s<(gt l ((w64 (((i3:Nat):Int) - 1)).toNat)).s))) rfl rfl rfl rfl rfl (λhg63=>QV.qo (q_eql rfl (gu hg63 rfl) (gu hg63 rfl))) ?_
    refine wh0 (c0:=(decide (0<((i3:Nat):Int)))) (g:=(decide ((gt l i3).s<(gt l ((w64 (((i3:Nat):Int) - 1)).toNat)).s))) rfl rfl rfl rfl rfl (λhg64=>QV.qo (q_move (v:=.bool ((gt l i3).s==(gt l ((w64 (((i3:Nat):Int) - 1)).toNat)).s)) rfl (gu hg64 rfl))) ?_
    refine wh1 (c0:=((decide (0<((i3:Nat):Int)))&&(!(decide ((gt l i3).s<(gt l ((w64 (((i3:Nat):Int) - 1)).toNat)).s))))) (g:=((gt l i3).s==(gt l ((w64 (((i3:Nat):Int) - 1)).toNat)).s)) rfl rfl rfl rfl rfl (λhg65=>QV.qo (q_move (v:=.slice Al l.length cl) rfl (by kernel_rfl))) ?_
    refine wh1 (c0:=((decide (0<((i3:Nat):Int)))&&(!(decide ((gt l i3).s<(gt l ((w64 (((i3:Nat):Int) - 1)).toNat)).s))))) (g:=((gt l i3).s==(gt l ((w64 (((i3:Nat):Int) - 1)).toNat)).s)) rfl rfl rfl rfl rfl (λhg66=>QV.qo (q_move (v:=.int .i64 ((i3:Nat):Int)) rfl (by kernel_rfl))) ?_
    refine wh1 (c0:=((decide (0<((i3:Nat):Int)))&&(!(decide ((gt l i3).s<(gt l ((w64 (((i3:Nat):Int) - 1)).toNat)).s))))) (g:=((gt l i3).s==(gt l ((w64 (((i3:Nat):Int) - 1)).toNat)).s)) rfl rfl rfl rfl rfl (λhg67=>QV.qo (q_ixn (i:=i3) Tryz.underlying113 Tryz.sizeOf117 rfl (gu hg67 rfl) (gu hg67 rfl) hl8 (hl.some_ hl8))) ?_
    refine wh1 (c0:=((decide (0<((i3:Nat):Int)))&&(!(decide ((gt l i3).s<(gt l ((w64 (((i3:Nat):Int) - 1)).toNat)).s))))) (g:=((gt l i3).s==(gt l ((w64 (((i3:Nat):Int) - 1)).toNat)).s)) rfl rfl rfl rfl rfl (λhg68=>QV.qo (q_field_addr (i3*3+1) fld_117_1 rfl (gu hg68 rfl) (hl.some_ hl8) rfl)) ?_
    refine wh1 (c0:=((decide (0<((i3:Nat):Int)))&&(!(decide ((gt l i3).s<(gt l ((w64 (((i3:Nat):Int) - 1)).toNat)).s))))) (g:=((gt l i3).s==(gt l ((w64 (((i3:Nat):Int) - 1)).toNat)).s)) rfl rfl rfl rfl rfl (λhg69=>QV.qo (q_ld (c:=1) (v:=.int .i64 (gt l i3).f) (hl.spanT_at hl8).2 rfl Tryz.isAgg2 (gu hg69 rfl) rfl)) ?_
    refine wh1 (c0:=((decide (0<((i3:Nat):Int)))&&(!(decide ((gt l i3).s<(gt l ((w64 (((i3:Nat):Int) - 1)).toNat)).s))))) (g:=((gt l i3).s==(gt l ((w64 (((i3:Nat):Int) - 1)).toNat)).s)) rfl rfl rfl rfl rfl (λhg70=>QV.qo (q_sub rfl (gu hg70 rfl) rfl)) ?_
    refine wh1 (c0:=((decide (0<((i3:Nat):Int)))&&(!(decide ((gt l i3).s<(gt l ((w64 (((i3:Nat):Int) - 1)).toNat)).s))))) (g:=((gt l i3).s==(gt l ((w64 (((i3:Nat):Int) - 1)).toNat)).s)) rfl rfl rfl rfl rfl (λhg71=>QV.qo (q_move (v:=.slice Al l.length cl) rfl (by kernel_rfl))) ?_
    refine wh1 (c0:=((decide (0<((i3:Nat):Int)))&&(!(decide ((gt l i3).s<(gt l ((w64 (((i3:Nat):Int) - 1)).toNat)).s))))) (g:=((gt l i3).s==(gt l ((w64 (((i3:Nat):Int) - 1)).toNat)).s)) rfl rfl rfl rfl rfl (λhg72=>QV.qo (q_move (v:=.int .i64 ((i3:Nat):Int)) rfl (by kernel_rfl))) ?_
    refine wh1 (c0:=((decide (0<((i3:Nat):Int)))&&(!(decide ((gt l i3).s<(gt l ((w64 (((i3:Nat):Int) - 1)).toNat)).s))))) (g:=((gt l i3).s==(gt l ((w64 (((i3:Nat):Int) - 1)).toNat)).s)) rfl rfl rfl rfl rfl (λhg73=>QV.qo (q_sub rfl (gu hg73 rfl) rfl)) ?_
    refine wh1 (c0:=((decide (0<((i3:Nat):Int)))&&(!(decide ((gt l i3).s<(gt l ((w64 (((i3:Nat):Int) - 1)).toNat)).s))))) (g:=((gt l i3).s==(gt l ((w64 (((i3:Nat):Int) - 1)).toNat)).s)) rfl rfl rfl rfl rfl (λhg74=>QV.qo (q_ix Tryz.underlying113 Tryz.sizeOf117 rfl (gu hg74 rfl) (gu hg74 rfl) (imp_of hk47 (and_l (and_l hg74))) (hl.some_ (inb_lt (imp_of hk47 (and_l (and_l hg74))))))) ?_
    refine wh1 (c0:=((decide (0<((i3:Nat):Int)))&&(!(decide ((gt l i3).s<(gt l ((w64 (((i3:Nat):Int) - 1)).toNat)).s))))) (g:=((gt l i3).s==(gt l ((w64 (((i3:Nat):Int) - 1)).toNat)).s)) rfl rfl rfl rfl rfl (λhg75=>QV.qo (q_field_addr (((w64 (((i3:Nat):Int) - 1)).toNat)*3+2) fld_117_2 rfl (gu hg75 rfl) (hl.some_ (inb_lt (imp_of hk47 (and_l (and_l hg75))))) rfl)) ?_
    refine wh1 (c0:=((decide (0<((i3:Nat):Int)))&&(!(decide ((gt l i3).s<(gt l ((w64 (((i3:Nat):Int) - 1)).toNat)).s))))) (g:=((gt l i3).s==(gt l ((w64 (((i3:Nat):Int) - 1)).toNat)).s)) rfl rfl rfl rfl rfl (λhg76=>QV.qo (q_ld (c:=2) (v:=.int .i64 (gt l ((w64 (((i3:Nat):Int) - 1)).toNat)).t) (hl.spanT_at (inb_lt (imp_of hk47 (and_l (and_l hg76))))).2 rfl Tryz.isAgg2 (gu hg76 rfl) rfl)) ?_
    refine wh1 (c0:=((decide (0<((i3:Nat):Int)))&&(!(decide ((gt l i3).s<(gt l ((w64 (((i3:Nat):Int) - 1)).toNat)).s))))) (g:=((gt l i3).s==(gt l ((w64 (((i3:Nat):Int) - 1)).toNat)).s)) rfl rfl rfl rfl rfl (λhg77=>QV.qo (q_leq rfl (gu hg77 rfl) (gu hg77 rfl))) ?_
    refine wh0 (c0:=(decide (0<((i3:Nat):Int)))) (g:=(decide ((gt l i3).s<(gt l ((w64 (((i3:Nat):Int) - 1)).toNat)).s))) rfl rfl rfl rfl rfl (λhg78=>QV.qo (q_pick rfl (gu hg78 rfl) (pk_and (c:=((decide (0<((i3:Nat):Int)))&&(!(decide ((gt l i3).s<(gt l ((w64 (((i3:Nat):Int) - 1)).toNat)).s))))) (g:=((gt l i3).s==(gt l ((w64 (((i3:Nat):Int) - 1)).toNat)).s)) (y:=(decide ((w64 ((gt l i3).f - 1))≤(gt l ((w64 (((i3:Nat):Int) - 1)).toNat)).t))) hg78))) ?_
    refine wg1 rfl rfl rfl rfl rfl (λhg79=>QV.qo (q_pick rfl (gu hg79 rfl) (pk_or (c:=(decide (0<((i3:Nat):Int)))) (g:=(decide ((gt l i3).s<(gt l ((w64 (((i3:Nat):Int) - 1)).toNat)).s))) (y:=(((gt l i3).s==(gt l ((w64 (((i3:Nat):Int) - 1)).toNat)).s)&&(decide ((w64 ((gt l i3).f - 1))≤(gt l ((w64 (((i3:Nat):Int) - 1)).toNat)).t)))) hg79))) ?_
    refine wa rfl rfl rfl (q_pick rfl rfl (pk_and' (g:=(decide (0<((i3:Nat):Int)))) (y:=((decide ((gt l i3).s<(gt l ((w64 (((i3:Nat):Int) - 1)).toNat)).s))||(((gt l i3).s==(gt l ((w64 (((i3:Nat):Int) - 1)).toNat)).s)&&(decide ((w64 ((gt l i3).f - 1))≤(gt l ((w64 (((i3:Nat):Int) - 1)).toNat)).t))))))) ?_
    refine aw ?_
    change WC _ _ _ _ _ _
    refine aj h (by kernel_rfl) (λhb80 h=>?_) (λhb80 h=>?_)
    ·
     refine a7 ?_
     refine as_ (v:=.bool false) ?_
     refine a6 ?_
     refine ac ?_
     intro w hw
     cases h
     subst hF
     exact⟨by kernel_rfl,hw.fr⟩
    ·
     refine ae ?_
     change WC _ _ _ _ _ _
     refine ah ?_
     refine mv (v:=.int .i64 ((i3:Nat):Int)) ?_
     refine vb (q_add_r (r:=((i3+1:Nat):Int)) rfl rfl rfl (ctr_len hl8 hl.le)) ?_
     refine as_ (v:=.int .i64 ((i3+1:Nat):Int)) ?_
     exact ab λw hw=>⟨hl8,(),h,(sl_ (by kernel_rfl)),hw,trivial⟩
  ·
   have h:=hge6 (ige hb7)
   refine am ?_
   change WC _ _ _ _ _ _
   refine a7 ?_
   refine as_ (v:=.bool true) ?_
   refine a6 ?_
   refine ac ?_
   intro w hw
   cases h
   subst hF
   exact⟨by kernel_rfl,hw.fr⟩
theorem t_firthref03_Top{Γ:Gh}{w0:World}{Al:Option Addr}{cl:Nat}{l:List Span}(hl:Sl spanT Γ Al l)(hlc:l.length≤cl)(s_:Int)(hs_:I64 s_)(hs:Sat Γ w0){r:Int}(h:m_firthref03_Top l s_=some r):Calls Tryz.prog 118 #[.slice Al l.length cl,.int .i64 s_] w0 (λe w'=>e = .returned (.int .i64 r)∧Fr no w0 w'):=by
 refine calls_of (N:=35) (rs:=[4]) (args:=[.slice Al l.length cl,.int .i64 s_]) Tryz.func118 rfl Tryz.ntmps118 Tryz.results118 rfl ?_
 obtain⟨F,hF⟩:∃F:Fm,F=⟨no,w0,Γ⟩:=⟨_,rfl⟩
 refine aa (C:=CC F Γ []) ?_ (hF▸Cur.start0 hs)
 refine a7 ?_
 refine as_ (v:=.int .i64 0) ?_
 refine a6 ?_
 refine a7 ?_
 refine as_ (v:=.int .i64 0) ?_
 refine a6 ?_
 refine a8 ?_
 refine a7 ?_
 refine as_ (v:=.int .i64 0) ?_
 refine a6 ?_
 refine af ?_
 refine ap h (λ(i4:Nat) (n_1:Int) σ w=>slots σ [(0,.slice Al l.length cl),(1,.int .i64 s_),(5,.int .i64 n_1),(6,.int .i64 ((i4:Nat):Int))]∧CC F Γ [] w∧I64 n_1∧True) ?_ ?_
 ·
  intro w hw
  exact⟨(sl_ (by kernel_rfl)),hw,(show I64 0 by decide),trivial⟩
 rintro f3 i4 n_1 σ w hi5 hlt6 hge7 ⟨hsl,hw,hr2,-⟩
 refine Wpt.slots hsl ?_
 refine aa (C:=CC F Γ []) ?_ hw
 clear hw hsl
 refine a8 ?_
 refine a7 ?_
 refine mv (v:=.int .i64 ((i4:Nat):Int)) ?_
 refine mv (v:=.slice Al l.length cl) ?_
 refine vb (q_len_slice rfl Tryz.underlying113 rfl) ?_
 refine vb (q_lss rfl rfl rfl) ?_
 refine a6 ?_
 refine WC.cond (b:=(decide (((i4:Nat):Int)<((l.length:Nat):Int)))) (by kernel_rfl) (λhb8=>?_) (λhb8=>?_)
 ·
  have hl9:=ilt hb8
  have h:=hlt6 hl9
  refine ae ?_
  change WC _ _ _ _ _ _
  refine ax (λσ w => ∃(n_10:Int),m_firthref03_Top_j6 f3 n_10=some r∧slots σ [(0,.slice Al l.length cl),(1,.int .i64 s_),(5,.int .i64 n_10),(6,.int .i64 ((i4:Nat):Int))]∧CC F Γ [] w∧I64 n_10∧True) ?_ ?_
  ·
   refine af ?_
   refine a7 ?_
   refine mv (v:=.slice Al l.length cl) ?_
   refine mv (v:=.int .i64 ((i4:Nat):Int)) ?_
   refine vb (q_ixn (i:=i4) Tryz.underlying113 Tryz.sizeOf117 rfl rfl rfl hl9 (hl.some_ hl9)) ?_
   refine vb (q_field_addr (i4*3) fld_117_0 rfl rfl (hl.some_ hl9) rfl) ?_
   refine vb (q_ld (c:=0) (v:=.int .i64 (gt l i4).s) (hl.spanT_at hl9).2 rfl Tryz.isAgg3 rfl rfl) ?_
   refine mv (v:=.int .i64 s_) ?_
   refine vb (q_eql rfl rfl rfl) ?_
   refine mv (v:=.bool ((gt l i4).s==s_)) ?_
   refine vg1 rfl rfl rfl rfl rfl (λhg12=>QV.qo (q_move (v:=.slice Al l.length cl) rfl (by kernel_rfl))) ?_
   refine vg1 rfl rfl rfl rfl rfl (λhg13=>QV.qo (q_move (v:=.int .i64 ((i4:Nat):Int)) rfl (by kernel_rfl))) ?_
   refine vg1 rfl rfl rfl rfl rfl (λhg14=>QV.qo (q_ixn (i:=i4) Tryz.underlying113 Tryz.sizeOf117 rfl (gu hg14 rfl) (gu hg14 rfl) hl9 (hl.some_ hl9))) ?_
   refine vg1 rfl rfl rfl rfl rfl (λhg15=>QV.qo (q_field_addr (i4*3+2) fld_117_2 rfl (gu hg15 rfl) (hl.some_ hl9) rfl)) ?_
   refine vg1 rfl rfl rfl rfl rfl (λhg16=>QV.qo (q_ld (c:=2) (v:=.int .i64 (gt l i4).t) (hl.spanT_at hl9).2 rfl Tryz.isAgg2 (gu hg16 rfl) rfl)) ?_
   refine vg1 rfl rfl rfl rfl rfl (λhg17=>QV.qo (q_move (v:=.int .i64 n_1) rfl (by kernel_rfl))) ?_
   refine vg1 rfl rfl rfl rfl rfl (λhg18=>QV.qo (q_gtr rfl (gu hg18 rfl) (gu hg18 rfl))) ?_
   refine vb (q_pick rfl rfl (pk_and' (g:=((gt l i4).s==s_)) (y:=(decide (n_1<(gt l i4).t))))) ?_
   refine a6 ?_
   refine aj h (by kernel_rfl) (λhb19 h=>?_) (λhb19 h=>?_)
   ·
    refine ah ?_
    refine mv (v:=.slice Al l.length cl) ?_
    refine mv (v:=.int .i64 ((i4:Nat):Int)) ?_
    refine vb (q_ixn (i:=i4) Tryz.underlying113 Tryz.sizeOf117 rfl rfl rfl hl9 (hl.some_ hl9)) ?_
    refine vb (q_field_addr (i4*3+2) fld_117_2 rfl rfl (hl.some_ hl9) rfl) ?_
    refine vb (q_ld (c:=2) (v:=.int .i64 (gt l i4).t) (hl.spanT_at hl9).2 rfl Tryz.isAgg2 rfl rfl) ?_
    refine as_ (v:=.int .i64 (gt l i4).t) ?_
    exact ab λw hw=>⟨(gt l i4).t,h,(sl_ (by kernel_rfl)),hw,(hl.spanT_at hl9).1.2.2,trivial⟩
   ·
    exact ae λw hw=>⟨n_1,h,(sl_ (by kernel_rfl)),hw,hr2,trivial⟩
  ·
   rintro σ w ⟨n_10,h,hsl,hw,hr11,-⟩
   refine Wpt.slots hsl ?_
   refine aa (C:=CC F Γ []) ?_ hw
   clear hw hsl
   refine ah ?_
   refine mv (v:=.int .i64 ((i4:Nat):Int)) ?_
   refine vb (q_add_r (r:=((i4+1:Nat):Int)) rfl rfl rfl (ctr_len hl9 hl.le)) ?_
   refine as_ (v:=.int .i64 ((i4+1:Nat):Int)) ?_
   exact ab λw hw=>⟨hl9,n_10,h,(sl_ (by kernel_rfl)),hw,hr11,trivial⟩
 ·
  have h:=hge7 (ige hb8)
  refine am ?_
  change WC _ _ _ _ _ _
  refine a7 ?_
  refine mv (v:=.int .i64 n_1) ?_
  refine as_ (v:=.int .i64 n_1) ?_
  refine a6 ?_
  refine ac ?_
  intro w hw
  cases h
  subst hF
  exact⟨by kernel_rfl,hw.fr⟩
theorem t_firthref05_RightOne{Γ:Gh}{w0:World}{Av_2:Option Addr}{cv_2:Nat}(v_:Ver)(hv_:Ver.fits Γ Av_2 cv_2 v_)(hs:Sat Γ w0){r:Bool}(h:m_firthref05_RightOne v_=some r):Calls Tryz.prog 101 #[.agg #[.int .i64 v_.dot.s,.int .i64 v_.dot.n,.slice Av_2 v_.past.length cv_2,.bool v_.gone,.string v_.val]] w0 (λe w'=>e = .returned (.bool r)∧Fr no w0 w'):=by
 refine calls_of (N:=34) (rs:=[2]) (args:=[.agg #[.int .i64 v_.dot.s,.int .i64 v_.dot.n,.slice Av_2 v_.past.length cv_2,.bool v_.gone,.string v_.val]]) Tryz.func101 rfl Tryz.ntmps101 Tryz.results101 rfl ?_
 obtain⟨F,hF⟩:∃F:Fm,F=⟨no,w0,Γ⟩:=⟨_,rfl⟩
 refine aa (C:=CC F Γ []) ?_ (hF▸Cur.start0 hs)
 refine a7 ?_
 refine e_box (v:=.agg #[.int .i64 v_.dot.s,.int .i64 v_.dot.n,.slice Av_2 v_.past.length cv_2,.bool v_.gone,.string v_.val]) rfl rfl rfl rfl (by kernel_rfl) ?_
 intro g1
 refine as_ (v:=.bool false) ?_
 refine a6 ?_
 refine a8 ?_
 refine a8 ?_
 refine ay (by kernel_rfl) (by kernel_rfl) (λw hw=>hw.drawn _) ?_
 refine wa rfl rfl rfl (q_fl 0 fld_115_0 rfl rfl rfl) ?_
 refine wa rfl rfl rfl (q_ldla (i:=0) (vs:=[.int .i64 v_.dot.s,.int .i64 v_.dot.n]) rfl rfl Tryz.isAgg112 Tryz.sizeOf112 rfl rfl) ?_
 obtain⟨z2,hz3,h⟩:=bnd h
 refine wc rfl rfl rfl (q_call (call_run Tryz.call116 rfl rfl (by kernel_rfl)) (λw hw=>t_firthref03_Dot (Γ:=Gh.all w) v_.dot ⟨hv_.1,hv_.2.1⟩ (Sat.all w) hz3)) ?_
 refine wa rfl rfl rfl (q_not rfl rfl) ?_
 refine wa rfl rfl rfl (q_move (v:=.bool (!z2)) rfl (by kernel_rfl)) ?_
 refine wg0 rfl rfl rfl rfl rfl (λhg4=>QV.qo (q_fl 2 fld_115_1 rfl rfl rfl)) ?_
 refine wg0 rfl rfl rfl rfl rfl (λhg5=>QV.qo (q_ldl (i:=0) (v:=.slice Av_2 v_.past.length cv_2) rfl rfl Tryz.isAgg113 (gu hg5 rfl) rfl)) ?_
 obtain⟨z7,hz8,h⟩:=bnd h
 refine wg0 rfl rfl rfl rfl rfl (λhg6=>(q_call (call_run Tryz.call117 rfl rfl (args1 (gu hg6 rfl))) (λw hw=>t_firthref03_Right (Γ:=Gh.all w) (hv_.2.2.1.2.mono hw.sat.le_all) hv_.2.2.1.1 (Sat.all w) (gc_of hz8 hg6)))) ?_
 refine wg0 rfl rfl rfl rfl rfl (λhg9=>QV.qo (q_not rfl (gu hg9 rfl))) ?_
 refine wa rfl rfl rfl (q_pick rfl rfl (pk_or' (g:=(!z2)) (y:=(!z7)))) ?_
 refine wa rfl rfl rfl (q_move (v:=.bool ((!z2)||(!z7))) rfl (by kernel_rfl)) ?_
 refine wg0 rfl rfl rfl rfl rfl (λhg10=>QV.qo (q_fl 2 fld_115_1 rfl rfl rfl)) ?_
 refine wg0 rfl rfl rfl rfl rfl (λhg11=>QV.qo (q_ldl (i:=0) (v:=.slice Av_2 v_.past.length cv_2) rfl rfl Tryz.isAgg113 (gu hg11 rfl) rfl)) ?_
 refine wg0 rfl rfl rfl rfl rfl (λhg12=>QV.qo (q_fl 0 fld_115_0 rfl rfl rfl)) ?_
 refine wg0 rfl rfl rfl rfl rfl (λhg13=>QV.qo (q_fl 0 fld_112_0 rfl (gu hg13 rfl) rfl)) ?_
 refine wg0 rfl rfl rfl rfl rfl (λhg14=>QV.qo (q_ldl (i:=0) (v:=.int .i64 v_.dot.s) rfl rfl Tryz.isAgg3 (gu hg14 rfl) rfl)) ?_
 obtain⟨z16,hz17,h⟩:=bnd h
 refine wg0 rfl rfl rfl rfl rfl (λhg15=>(q_call (call_run Tryz.call118 rfl rfl (args2 (gu hg15 rfl) (gu hg15 rfl))) (λw hw=>t_firthref03_Top (Γ:=Gh.all w) (hv_.2.2.1.2.mono hw.sat.le_all) hv_.2.2.1.1 v_.dot.s hv_.1 (Sat.all w) (gc_of hz17 hg15)))) ?_
 refine wg0 rfl rfl rfl rfl rfl (λhg18=>QV.qo (q_fl 0 fld_115_0 rfl rfl rfl)) ?_
 refine wg0 rfl rfl rfl rfl rfl (λhg19=>QV.qo (q_fl 1 fld_112_1 rfl (gu hg19 rfl) rfl)) ?_
 refine wg0 rfl rfl rfl rfl rfl (λhg20=>QV.qo (q_ldl (i:=0) (v:=.int .i64 v_.dot.n) rfl rfl Tryz.isAgg2 (gu hg20 rfl) rfl)) ?_
 refine wg0 rfl rfl rfl rfl rfl (λhg21=>QV.qo (q_geq rfl (gu hg21 rfl) (gu hg21 rfl))) ?_
 refine wa rfl rfl rfl (q_pick rfl rfl (pk_or' (g:=((!z2)||(!z7))) (y:=(decide (v_.dot.n≤z16))))) ?_
 refine aw ?_
 change WC _ _ _ _ _ _
 refine aj h (by kernel_rfl) (λhb22 h=>?_) (λhb22 h=>?_)
 ·
  refine a7 ?_
  refine as_ (v:=.bool false) ?_
  refine a6 ?_
  refine ac ?_
  intro w hw
  cases h
  subst hF
  exact⟨by kernel_rfl,hw.fr⟩
 ·
  refine ae ?_
  change WC _ _ _ _ _ _
  refine a8 ?_
  refine a7 ?_
  refine vb (q_fl 3 fld_115_2 rfl rfl rfl) ?_
  refine vb (q_ldl (i:=0) (v:=.bool v_.gone) rfl rfl Tryz.isAgg4 rfl rfl) ?_
  refine a6 ?_
  refine aj h (by kernel_rfl) (λhb23 h=>?_) (λhb23 h=>?_)
  ·
   refine a7 ?_
   refine vb (q_fl 4 fld_115_3 rfl rfl rfl) ?_
   refine vb (q_ldl (i:=0) (v:=.string v_.val) rfl rfl Tryz.isAgg9 rfl rfl) ?_
   refine vb (q_seql rfl rfl rfl) ?_
   refine as_ (v:=.bool (v_.val==ByteArray.empty)) ?_
   refine a6 ?_
   refine ac ?_
   intro w hw
   cases h
   subst hF
   exact⟨by kernel_rfl,hw.fr⟩
  ·
   refine ae ?_
   change WC _ _ _ _ _ _
   refine a7 ?_
   refine vb (q_fl 4 fld_115_3 rfl rfl rfl) ?_
   refine vb (q_ldl (i:=0) (v:=.string v_.val) rfl rfl Tryz.isAgg9 rfl rfl) ?_
   refine vb (q_len_str rfl Tryz.underlying9 rfl) ?_
   refine vb (q_leq rfl rfl rfl) ?_
   refine as_ (v:=.bool (decide (((v_.val.size:Nat):Int)≤256))) ?_
   refine a6 ?_
   refine ac ?_
   intro w hw
   cases h
   subst hF
   exact⟨by kernel_rfl,hw.fr⟩
theorem t_firthref03_Has{Γ:Gh}{w0:World}{Al:Option Addr}{cl:Nat}{l:List Span}(hl:Sl spanT Γ Al l)(hlc:l.length≤cl)(d:Dot)(hd:Dot.fits Γ  d)(hs:Sat Γ w0){r:Bool}(h:m_firthref03_Has l d=some r):Calls Tryz.prog 119 #[.slice Al l.length cl,.agg #[.int .i64 d.s,.int .i64 d.n]] w0 (λe w'=>e = .returned (.bool r)∧Fr no w0 w'):=by
 refine calls_of (N:=40) (rs:=[4]) (args:=[.slice Al l.length cl,.agg #[.int .i64 d.s,.int .i64 d.n]]) Tryz.func119 rfl Tryz.ntmps119 Tryz.results119 rfl ?_
 obtain⟨F,hF⟩:∃F:Fm,F=⟨no,w0,Γ⟩:=⟨_,rfl⟩
 refine aa (C:=CC F Γ []) ?_ (hF▸Cur.start0 hs)
 refine a7 ?_
 refine e_box (v:=.agg #[.int .i64 d.s,.int .i64 d.n]) rfl rfl rfl rfl (by kernel_rfl) ?_
 intro g1
 refine as_ (v:=.bool false) ?_
 refine a6 ?_
 refine a8 ?_
 refine a7 ?_
 refine as_ (v:=.int .i64 0) ?_
 refine a6 ?_
 refine af ?_
 refine ap h (λ(i3:Nat) (s:Unit) σ w=>match s with | ()=>slots σ [(0,.slice Al l.length cl),(3,(pq g1)),(5,.int .i64 ((i3:Nat):Int))]∧CC F Γ [[(g1,.cells #[.int .i64 d.s,.int .i64 d.n] 112 (0,0))]] w∧True) ?_ ?_
 ·
  intro w hw
  exact⟨(sl_ (by kernel_rfl)),hw,trivial⟩
 rintro f2 i3 ⟨⟩ σ w hi4 hlt5 hge6 ⟨hsl,hw,-⟩
 refine Wpt.slots hsl ?_
 refine aa (C:=CC F Γ [[(g1,.cells #[.int .i64 d.s,.int .i64 d.n] 112 (0,0))]]) ?_ hw
 clear hw hsl
 refine a8 ?_
 refine a7 ?_
 refine mv (v:=.int .i64 ((i3:Nat):Int)) ?_
 refine mv (v:=.slice Al l.length cl) ?_
 refine vb (q_len_slice rfl Tryz.underlying113 rfl) ?_
 refine vb (q_lss rfl rfl rfl) ?_
 refine a6 ?_
 refine WC.cond (b:=(decide (((i3:Nat):Int)<((l.length:Nat):Int)))) (by kernel_rfl) (λhb7=>?_) (λhb7=>?_)
 ·
  have hl8:=ilt hb7
  have h:=hlt5 hl8
  refine ae ?_
  change WC _ _ _ _ _ _
  refine a8 ?_
  refine af ?_
  refine a8 ?_
  refine ay (by kernel_rfl) (by kernel_rfl) (λw hw=>hw.drawn _) ?_
  refine wa rfl rfl rfl (q_move (v:=.slice Al l.length cl) rfl (by kernel_rfl)) ?_
  refine wa rfl rfl rfl (q_move (v:=.int .i64 ((i3:Nat):Int)) rfl (by kernel_rfl)) ?_
  refine wa rfl rfl rfl (q_ixn (i:=i3) Tryz.underlying113 Tryz.sizeOf117 rfl rfl rfl hl8 (hl.some_ hl8)) ?_
  refine wa rfl rfl rfl (q_field_addr (i3*3) fld_117_0 rfl rfl (hl.some_ hl8) rfl) ?_
  refine wa rfl rfl rfl (q_ld (c:=0) (v:=.int .i64 (gt l i3).s) (hl.spanT_at hl8).2 rfl Tryz.isAgg3 rfl rfl) ?_
  refine wa rfl rfl rfl (q_fl 0 fld_112_0 rfl rfl rfl) ?_
  refine wa rfl rfl rfl (q_ldl (i:=0) (v:=.int .i64 d.s) rfl rfl Tryz.isAgg3 rfl rfl) ?_
  refine wa rfl rfl rfl (q_eql rfl rfl rfl) ?_
  refine wa rfl rfl rfl (q_move (v:=.bool ((gt l i3).s==d.s)) rfl (by kernel_rfl)) ?_
  refine wg1 rfl rfl rfl rfl rfl (λhg9=>QV.qo (q_fl 1 fld_112_1 rfl rfl rfl)) ?_
  refine wg1 rfl rfl rfl rfl rfl (λhg10=>QV.qo (q_ldl (i:=0) (v:=.int .i64 d.n) rfl rfl Tryz.isAgg2 (gu hg10 rfl) rfl)) ?_
  refine wg1 rfl rfl rfl rfl rfl (λhg11=>QV.qo (q_move (v:=.slice Al l.length cl) rfl (by kernel_rfl))) ?_
  refine wg1 rfl rfl rfl rfl rfl (λhg12=>QV.qo (q_move (v:=.int .i64 ((i3:Nat):Int)) rfl (by kernel_rfl))) ?_
  refine wg1 rfl rfl rfl rfl rfl (λhg13=>QV.qo (q_ixn (i:=i3) Tryz.underlying113 Tryz.sizeOf117 rfl (gu hg13 rfl) (gu hg13 rfl) hl8 (hl.some_ hl8))) ?_
  refine wg1 rfl rfl rfl rfl rfl (λhg14=>QV.qo (q_field_addr (i3*3+1) fld_117_1 rfl (gu hg14 rfl) (hl.some_ hl8) rfl)) ?_
  refine wg1 rfl rfl rfl rfl rfl (λhg15=>QV.qo (q_ld (c:=1) (v:=.int .i64 (gt l i3).f) (hl.spanT_at hl8).2 rfl Tryz.isAgg2 (gu hg15 rfl) rfl)) ?_
  refine wg1 rfl rfl rfl rfl rfl (λhg16=>QV.qo (q_geq rfl (gu hg16 rfl) (gu hg16 rfl))) ?_
  refine wa rfl rfl rfl (q_pick rfl rfl (pk_and' (g:=((gt l i3).s==d.s)) (y:=(decide ((gt l i3).f≤d.n))))) ?_
  refine wa rfl rfl rfl (q_move (v:=.bool (((gt l i3).s==d.s)&&(decide ((gt l i3).f≤d.n)))) rfl (by kernel_rfl)) ?_
  refine wg1 rfl rfl rfl rfl rfl (λhg17=>QV.qo (q_fl 1 fld_112_1 rfl rfl rfl)) ?_
  refine wg1 rfl rfl rfl rfl rfl (λhg18=>QV.qo (q_ldl (i:=0) (v:=.int .i64 d.n) rfl rfl Tryz.isAgg2 (gu hg18 rfl) rfl)) ?_
  refine wg1 rfl rfl rfl rfl rfl (λhg19=>QV.qo (q_move (v:=.slice Al l.length cl) rfl (by kernel_rfl))) ?_
  refine wg1 rfl rfl rfl rfl rfl (λhg20=>QV.qo (q_move (v:=.int .i64 ((i3:Nat):Int)) rfl (by kernel_rfl))) ?_
  refine wg1 rfl rfl rfl rfl rfl (λhg21=>QV.qo (q_ixn (i:=i3) Tryz.underlying113 Tryz.sizeOf117 rfl (gu hg21 rfl) (gu hg21 rfl) hl8 (hl.some_ hl8))) ?_
  refine wg1 rfl rfl rfl rfl rfl (λhg22=>QV.qo (q_field_addr (i3*3+2) fld_117_2 rfl (gu hg22 rfl) (hl.some_ hl8) rfl)) ?_
  refine wg1 rfl rfl rfl rfl rfl (λhg23=>QV.qo (q_ld (c:=2) (v:=.int .i64 (gt l i3).t) (hl.spanT_at hl8).2 rfl Tryz.isAgg2 (gu hg23 rfl) rfl)) ?_
  refine wg1 rfl rfl rfl rfl rfl (λhg24=>QV.qo (q_leq rfl (gu hg24 rfl) (gu hg24 rfl))) ?_
  refine wa rfl rfl rfl (q_pick rfl rfl (pk_and' (g:=(((gt l i3).s==d.s)&&(decide ((gt l i3).f≤d.n)))) (y:=(decide (d.n≤(gt l i3).t))))) ?_
  refine aw ?_
  change WC _ _ _ _ _ _
  refine aj h (by kernel_rfl) (λhb25 h=>?_) (λhb25 h=>?_)
  ·
   refine a7 ?_
   refine as_ (v:=.bool true) ?_
   refine a6 ?_
   refine ac ?_
   intro w hw
   cases h
   subst hF
   exact⟨by kernel_rfl,hw.fr⟩
  ·
   refine ae ?_
   change WC _ _ _ _ _ _
   refine ah ?_
   refine mv (v:=.int .i64 ((i3:Nat):Int)) ?_
   refine vb (q_add_r (r:=((i3+1:Nat):Int)) rfl rfl rfl (ctr_len hl8 hl.le)) ?_
   refine as_ (v:=.int .i64 ((i3+1:Nat):Int)) ?_
   exact ab λw hw=>⟨hl8,(),h,(sl_ (by kernel_rfl)),hw,trivial⟩
 ·
  have h:=hge6 (ige hb7)
  refine am ?_
  change WC _ _ _ _ _ _
  refine a7 ?_
  refine as_ (v:=.bool false) ?_
  refine a6 ?_
  refine ac ?_
  intro w hw
  cases h
  subst hF
  exact⟨by kernel_rfl,hw.fr⟩
theorem t_firthref05_Behind{Γ:Gh}{w0:World}{Al:Option Addr}{cl:Nat}{l:List Ver}(hl:Sl verT Γ Al l)(hlc:l.length≤cl)(d:Dot)(hd:Dot.fits Γ  d)(hs:Sat Γ w0){r:Bool}(h:m_firthref05_Behind l d=some r):Calls Tryz.prog 102 #[.slice Al l.length cl,.agg #[.int .i64 d.s,.int .i64 d.n]] w0 (λe w'=>e = .returned (.bool r)∧Fr no w0 w'):=by
 refine calls_of (N:=19) (rs:=[4]) (args:=[.slice Al l.length cl,.agg #[.int .i64 d.s,.int .i64 d.n]]) Tryz.func102 rfl Tryz.ntmps102 Tryz.results102 rfl ?_
 obtain⟨F,hF⟩:∃F:Fm,F=⟨no,w0,Γ⟩:=⟨_,rfl⟩
 refine aa (C:=CC F Γ []) ?_ (hF▸Cur.start0 hs)
 refine a7 ?_
 refine e_box (v:=.agg #[.int .i64 d.s,.int .i64 d.n]) rfl rfl rfl rfl (by kernel_rfl) ?_
 intro g1
 refine as_ (v:=.bool false) ?_
 refine a6 ?_
 refine a8 ?_
 refine a7 ?_
 refine as_ (v:=.int .i64 0) ?_
 refine a6 ?_
 refine af ?_
 refine ap h (λ(i3:Nat) (s:Unit) σ w=>match s with | ()=>slots σ [(0,.slice Al l.length cl),(3,(pq g1)),(5,.int .i64 ((i3:Nat):Int))]∧CC F Γ [[(g1,.cells #[.int .i64 d.s,.int .i64 d.n] 112 (0,0))]] w∧True) ?_ ?_
 ·
  intro w hw
  exact⟨(sl_ (by kernel_rfl)),hw,trivial⟩
 rintro f2 i3 ⟨⟩ σ w hi4 hlt5 hge6 ⟨hsl,hw,-⟩
 refine Wpt.slots hsl ?_
 refine aa (C:=CC F Γ [[(g1,.cells #[.int .i64 d.s,.int .i64 d.n] 112 (0,0))]]) ?_ hw
 clear hw hsl
 refine a8 ?_
 refine a7 ?_
 refine mv (v:=.int .i64 ((i3:Nat):Int)) ?_
 refine mv (v:=.slice Al l.length cl) ?_
 refine vb (q_len_slice rfl Tryz.underlying67 rfl) ?_
 refine vb (q_lss rfl rfl rfl) ?_
 refine a6 ?_
 refine WC.cond (b:=(decide (((i3:Nat):Int)<((l.length:Nat):Int)))) (by kernel_rfl) (λhb7=>?_) (λhb7=>?_)
 ·
  have hl8:=ilt hb7
  have h:=hlt5 hl8
  refine ae ?_
  change WC _ _ _ _ _ _
  refine a8 ?_
  refine af ?_
  refine a8 ?_
  refine ay (by kernel_rfl) (by kernel_rfl) (λw hw=>hw.drawn _) ?_
  refine wa rfl rfl rfl (q_move (v:=.slice Al l.length cl) rfl (by kernel_rfl)) ?_
  refine wa rfl rfl rfl (q_move (v:=.int .i64 ((i3:Nat):Int)) rfl (by kernel_rfl)) ?_
  refine wa rfl rfl rfl (q_ixn (i:=i3) Tryz.underlying67 Tryz.sizeOf115 rfl rfl rfl hl8 (hl.some_ hl8)) ?_
  refine wa rfl rfl rfl (q_field_addr (i3*5+2) fld_115_1 rfl rfl (hl.some_ hl8) rfl) ?_
  obtain⟨A9,c10,hx11⟩:=hl.verT_at i3
  refine wa rfl rfl rfl (q_ld (c:=2) (v:=.slice A9 ((gt l i3).past).length c10) (hx11 hl8).2 rfl Tryz.isAgg113 rfl rfl) ?_
  refine wa rfl rfl rfl (q_ldla (i:=0) (vs:=[.int .i64 d.s,.int .i64 d.n]) rfl rfl Tryz.isAgg112 Tryz.sizeOf112 rfl rfl) ?_
  obtain⟨z12,hz13,h⟩:=bnd h
  refine wc rfl rfl rfl (q_call (call_run Tryz.call119 rfl rfl (by kernel_rfl)) (λw hw=>t_firthref03_Has (Γ:=Gh.all w) ((hx11 hl8).1.2.2.1.2.mono hw.sat.le_all) (hx11 hl8).1.2.2.1.1 d hd (Sat.all w) hz13)) ?_
  refine aw ?_
  change WC _ _ _ _ _ _
  refine aj h (by kernel_rfl) (λhb14 h=>?_) (λhb14 h=>?_)
  ·
   refine a7 ?_
   refine as_ (v:=.bool true) ?_
   refine a6 ?_
   refine ac ?_
   intro w hw
   cases h
   subst hF
   exact⟨by kernel_rfl,hw.fr⟩
  ·
   refine ae ?_
   change WC _ _ _ _ _ _
   refine ah ?_
   refine mv (v:=.int .i64 ((i3:Nat):Int)) ?_
   refine vb (q_add_r (r:=((i3+1:Nat):Int)) rfl rfl rfl (ctr_len hl8 hl.le)) ?_
   refine as_ (v:=.int .i64 ((i3+1:Nat):Int)) ?_
   exact ab λw hw=>⟨hl8,(),h,(sl_ (by kernel_rfl)),hw,trivial⟩
 ·
  have h:=hge6 (ige hb7)
  refine am ?_
  change WC _ _ _ _ _ _
  refine a7 ?_
  refine as_ (v:=.bool false) ?_
  refine a6 ?_
  refine ac ?_
  intro w hw
  cases h
  subst hF
  exact⟨by kernel_rfl,hw.fr⟩
theorem t_firthref05_Less{Γ:Gh}{w0:World}(a:Dot)(ha:Dot.fits Γ  a)(b:Dot)(hb:Dot.fits Γ  b)(hs:Sat Γ w0){r:Bool}(h:m_firthref05_Less a b=some r):Calls Tryz.prog 103 #[.agg #[.int .i64 a.s,.int .i64 a.n],.agg #[.int .i64 b.s,.int .i64 b.n]] w0 (λe w'=>e = .returned (.bool r)∧Fr no w0 w'):=by
 refine calls_of (N:=20) (rs:=[4]) (args:=[.agg #[.int .i64 a.s,.int .i64 a.n],.agg #[.int .i64 b.s,.int .i64 b.n]]) Tryz.func103 rfl Tryz.ntmps103 Tryz.results103 rfl ?_
 obtain⟨F,hF⟩:∃F:Fm,F=⟨no,w0,Γ⟩:=⟨_,rfl⟩
 refine aa (C:=CC F Γ []) ?_ (hF▸Cur.start0 hs)
 refine a7 ?_
 refine e_box (v:=.agg #[.int .i64 a.s,.int .i64 a.n]) rfl rfl rfl rfl (by kernel_rfl) ?_
 intro g1
 refine e_box (v:=.agg #[.int .i64 b.s,.int .i64 b.n]) rfl rfl rfl rfl (by kernel_rfl) ?_
 intro g2
 refine as_ (v:=.bool false) ?_
 refine a6 ?_
 refine a8 ?_
 refine a7 ?_
 refine vb (q_fl 0 fld_112_0 rfl rfl rfl) ?_
 refine vb (q_ldl (i:=1) (v:=.int .i64 a.s) rfl rfl Tryz.isAgg3 rfl rfl) ?_
 refine vb (q_fl 0 fld_112_0 rfl rfl rfl) ?_
 refine vb (q_ldl (i:=0) (v:=.int .i64 b.s) rfl rfl Tryz.isAgg3 rfl rfl) ?_
 refine vb (q_neq rfl rfl rfl) ?_
 refine a6 ?_
 refine aj h (by kernel_rfl) (λhb3 h=>?_) (λhb3 h=>?_)
 ·
  refine a7 ?_
  refine vb (q_fl 0 fld_112_0 rfl rfl rfl) ?_
  refine vb (q_ldl (i:=1) (v:=.int .i64 a.s) rfl rfl Tryz.isAgg3 rfl rfl) ?_
  refine vb (q_fl 0 fld_112_0 rfl rfl rfl) ?_
  refine vb (q_ldl (i:=0) (v:=.int .i64 b.s) rfl rfl Tryz.isAgg3 rfl rfl) ?_
  refine vb (q_lss rfl rfl rfl) ?_
  refine as_ (v:=.bool (decide (a.s<b.s))) ?_
  refine a6 ?_
  refine ac ?_
  intro w hw
  cases h
  subst hF
  exact⟨by kernel_rfl,hw.fr⟩
 ·
  refine ae ?_
  change WC _ _ _ _ _ _
  refine a7 ?_
  refine vb (q_fl 1 fld_112_1 rfl rfl rfl) ?_
  refine vb (q_ldl (i:=1) (v:=.int .i64 a.n) rfl rfl Tryz.isAgg2 rfl rfl) ?_
  refine vb (q_fl 1 fld_112_1 rfl rfl rfl) ?_
  refine vb (q_ldl (i:=0) (v:=.int .i64 b.n) rfl rfl Tryz.isAgg2 rfl rfl) ?_
  refine vb (q_lss rfl rfl rfl) ?_
  refine as_ (v:=.bool (decide (a.n<b.n))) ?_
  refine a6 ?_
  refine ac ?_
  intro w hw
  cases h
  subst hF
  exact⟨by kernel_rfl,hw.fr⟩
theorem t_firthref05_Right{Γ:Gh}{w0:World}{Al:Option Addr}{cl:Nat}{l:List Ver}(hl:Sl verT Γ Al l)(hlc:l.length≤cl)(hs:Sat Γ w0){r:Bool}(h:m_firthref05_Right l=some r):Calls Tryz.prog 87 #[.slice Al l.length cl] w0 (λe w'=>e = .returned (.bool r)∧Fr no w0 w'):=by
 refine calls_of (N:=45) (rs:=[2]) (args:=[.slice Al l.length cl]) Tryz.func87 rfl Tryz.ntmps87 Tryz.results87 rfl ?_
 obtain⟨F,hF⟩:∃F:Fm,F=⟨no,w0,Γ⟩:=⟨_,rfl⟩
 refine aa (C:=CC F Γ []) ?_ (hF▸Cur.start0 hs)
 refine a7 ?_
 refine as_ (v:=.bool false) ?_
 refine a6 ?_
 refine a8 ?_
 refine a7 ?_
 refine mv (v:=.slice Al l.length cl) ?_
 refine vb (q_len_slice rfl Tryz.underlying67 rfl) ?_
 refine vb (q_gtr rfl rfl rfl) ?_
 refine a6 ?_
 refine aj h (by kernel_rfl) (λhb1 h=>?_) (λhb1 h=>?_)
 ·
  refine a7 ?_
  refine as_ (v:=.bool false) ?_
  refine a6 ?_
  refine ac ?_
  intro w hw
  cases h
  subst hF
  exact⟨by kernel_rfl,hw.fr⟩
 ·
  refine ae ?_
  change WC _ _ _ _ _ _
  refine a8 ?_
  refine a7 ?_
  refine as_ (v:=.int .i64 0) ?_
  refine a6 ?_
  refine af ?_
  refine ap h (λ(i3:Nat) (s:Unit) σ w=>match s with | ()=>slots σ [(0,.slice Al l.length cl),(3,.int .i64 ((i3:Nat):Int))]∧CC F Γ [] w∧True) ?_ ?_
  ·
   intro w hw
   exact⟨(sl_ (by kernel_rfl)),hw,trivial⟩
  rintro f2 i3 ⟨⟩ σ w hi4 hlt5 hge6 ⟨hsl,hw,-⟩
  refine Wpt.slots hsl ?_
  refine aa (C:=CC F Γ []) ?_ hw
  clear hw hsl
  refine a8 ?_
  refine a7 ?_
  refine mv (v:=.int .i64 ((i3:Nat):Int)) ?_
  refine mv (v:=.slice Al l.length cl) ?_
  refine vb (q_len_slice rfl Tryz.underlying67 rfl) ?_
  refine vb (q_lss rfl rfl rfl) ?_
  refine a6 ?_
  refine WC.cond (b:=(decide (((i3:Nat):Int)<((l.length:Nat):Int)))) (by kernel_rfl) (λhb7=>?_) (λhb7=>?_)
  ·
   have hl8:=ilt hb7
   have h:=hlt5 hl8
   refine ae ?_
   change WC _ _ _ _ _ _
   refine a8 ?_
   refine af ?_
   refine a8 ?_
   refine a7 ?_
   refine mv (v:=.slice Al l.length cl) ?_
   refine mv (v:=.int .i64 ((i3:Nat):Int)) ?_
   refine vb (q_ixn (i:=i3) Tryz.underlying67 Tryz.sizeOf115 rfl rfl rfl hl8 (hl.some_ hl8)) ?_
   obtain⟨A9,c10,hx11⟩:=hl.verT_at i3
   refine vb (q_lda (c:=0) (vs:=[.int .i64 (gt l i3).dot.s,.int .i64 (gt l i3).dot.n,.slice A9 ((gt l i3).past).length c10,.bool (gt l i3).gone,.string (gt l i3).val]) (hx11 hl8).2 rfl Tryz.isAgg115 Tryz.sizeOf115 rfl rfl rfl) ?_
   obtain⟨z12,hz13,h⟩:=bnd h
   refine vc rfl rfl rfl (q_call (call_run Tryz.call101 rfl rfl (by kernel_rfl)) (λw hw=>t_firthref05_RightOne (Γ:=Gh.all w) (gt l i3) (Ver.fits_mono (hx11 hl8).1 hw.sat.le_all) (Sat.all w) hz13)) ?_
   refine vb (q_not rfl rfl) ?_
   refine mv (v:=.bool (!z12)) ?_
   refine vg0 rfl rfl rfl rfl rfl (λhg14=>QV.qo (q_move (v:=.slice Al l.length cl) rfl (by kernel_rfl))) ?_
   refine vg0 rfl rfl rfl rfl rfl (λhg15=>QV.qo (q_move (v:=.slice Al l.length cl) rfl (by kernel_rfl))) ?_
   refine vg0 rfl rfl rfl rfl rfl (λhg16=>QV.qo (q_move (v:=.int .i64 ((i3:Nat):Int)) rfl (by kernel_rfl))) ?_
   refine vg0 rfl rfl rfl rfl rfl (λhg17=>QV.qo (q_ixn (i:=i3) Tryz.underlying67 Tryz.sizeOf115 rfl (gu hg17 rfl) (gu hg17 rfl) hl8 (hl.some_ hl8))) ?_
   refine vg0 rfl rfl rfl rfl rfl (λhg18=>QV.qo (q_field_addr (i3*5) fld_115_0 rfl (gu hg18 rfl) (hl.some_ hl8) rfl)) ?_
   refine vg0 rfl rfl rfl rfl rfl (λhg19=>QV.qo (q_lda (c:=0) (vs:=[.int .i64 (gt l i3).dot.s,.int .i64 (gt l i3).dot.n]) (hx11 hl8).2 rfl Tryz.isAgg112 Tryz.sizeOf112 (gu hg19 rfl) rfl rfl)) ?_
   obtain⟨z21,hz22,h⟩:=bnd h
   refine vg0 rfl rfl rfl rfl rfl (λhg20=>(q_call (call_run Tryz.call102 rfl rfl (args2 (gu hg20 rfl) (gu hg20 rfl))) (λw hw=>t_firthref05_Behind (Γ:=Gh.all w) (hl.mono hw.sat.le_all) hlc ((gt l i3).dot) ⟨(hx11 hl8).1.1,(hx11 hl8).1.2.1⟩ (Sat.all w) (gc_of hz22 hg20)))) ?_
   refine vb (q_pick rfl rfl (pk_or' (g:=(!z12)) (y:=z21))) ?_
   refine a6 ?_
   refine aj h (by kernel_rfl) (λhb23 h=>?_) (λhb23 h=>?_)
   ·
    refine a7 ?_
    refine as_ (v:=.bool false) ?_
    refine a6 ?_
    refine ac ?_
    intro w hw
    cases h
    subst hF
    exact⟨by kernel_rfl,hw.fr⟩
   ·
    refine ae ?_
    change WC _ _ _ _ _ _
    refine a8 ?_
    refine ay (by kernel_rfl) (by kernel_rfl) (λw hw=>hw.drawn _) ?_
    refine wa rfl rfl rfl (q_move (v:=.int .i64 ((i3:Nat):Int)) rfl (by kernel_rfl)) ?_
    refine wa rfl rfl rfl (q_gtr rfl rfl rfl) ?_
    refine wa rfl rfl rfl (q_move (v:=.bool (decide (0<((i3:Nat):Int)))) rfl (by kernel_rfl)) ?_
    refine wg1 rfl rfl rfl rfl rfl (λhg24=>QV.qo (q_move (v:=.slice Al l.length cl) rfl (by kernel_rfl))) ?_
    refine wg1 rfl rfl rfl rfl rfl (λhg25=>QV.qo (q_move (v:=.int .i64 ((i3:Nat):Int)) rfl (by kernel_rfl))) ?_
    refine wg1 rfl rfl rfl rfl rfl (λhg26=>QV.qo (q_sub rfl (gu hg26 rfl) rfl)) ?_
    obtain⟨hk28,h⟩:=chk_some h
    refine wg1 rfl rfl rfl rfl rfl (λhg27=>QV.qo (q_ix Tryz.underlying67 Tryz.sizeOf115 rfl (gu hg27 rfl) (gu hg27 rfl) (imp_of hk28 hg27) (hl.some_ (inb_lt (imp_of hk28 hg27))))) ?_
    refine wg1 rfl rfl rfl rfl rfl (λhg29=>QV.qo (q_field_addr (((w64 (((i3:Nat):Int) - 1)).toNat)*5) fld_115_0 rfl (gu hg29 rfl) (hl.some_ (inb_lt (imp_of hk28 hg29))) rfl)) ?_
    obtain⟨A31,c32,hx33⟩:=hl.verT_at ((w64 (((i3:Nat):Int) - 1)).toNat)
    refine wg1 rfl rfl rfl rfl rfl (λhg30=>QV.qo (q_lda (c:=0) (vs:=[.int .i64 (gt l ((w64 (((i3:Nat):Int) - 1)).toNat)).dot.s,.int .i64 (gt l ((w64 (((i3:Nat):Int) - 1)).toNat)).dot.n]) (hx33 (inb_lt (imp_of hk28 hg30))).2 rfl Tryz.isAgg112 Tryz.sizeOf112 (gu hg30 rfl) rfl rfl)) ?_
    refine wg1 rfl rfl rfl rfl rfl (λhg34=>QV.qo (q_move (v:=.slice Al l.length cl) rfl (by kernel_rfl))) ?_
    refine wg1 rfl rfl rfl rfl rfl (λhg35=>QV.qo (q_move (v:=.int .i64 ((i3:Nat):Int)) rfl (by kernel_rfl))) ?_
    refine wg1 rfl rfl rfl rfl rfl (λhg36=>QV.qo (q_ixn (i:=i3) Tryz.underlying67 Tryz.sizeOf115 rfl (gu hg36 rfl) (gu hg36 rfl) hl8 (hl.some_ hl8))) ?_
    refine wg1 rfl rfl rfl rfl rfl (λhg37=>QV.qo (q_field_addr (i3*5) fld_115_0 rfl (gu hg37 rfl) (hl.some_ hl8) rfl)) ?_
    refine wg1 rfl rfl rfl rfl rfl (λhg38=>QV.qo (q_lda (c:=0) (vs:=[.int .i64 (gt l i3).dot.s,.int .i64 (gt l i3).dot.n]) (hx11 hl8).2 rfl Tryz.isAgg112 Tryz.sizeOf112 (gu hg38 rfl) rfl rfl)) ?_
    obtain⟨z40,hz41,h⟩:=bnd h
    refine wg1 rfl rfl rfl rfl rfl (λhg39=>(q_call (call_run Tryz.call103 rfl rfl (args2 (gu hg39 rfl) (gu hg39 rfl))) (λw hw=>t_firthref05_Less (Γ:=Gh.all w) ((gt l ((w64 (((i3:Nat):Int) - 1)).toNat)).dot) ⟨(hx33 (inb_lt (imp_of hk28 hg39))).1.1,(hx33 (inb_lt (imp_of hk28 hg39))).1.2.1⟩ ((gt l i3).dot) ⟨(hx11 hl8).1.1,(hx11 hl8).1.2.1⟩ (Sat.all w) (gc_of hz41 hg39)))) ?_
    refine wg1 rfl rfl rfl rfl rfl (λhg42=>QV.qo (q_not rfl (gu hg42 rfl))) ?_
    refine wa rfl rfl rfl (q_pick rfl rfl (pk_and' (g:=(decide (0<((i3:Nat):Int)))) (y:=(!z40)))) ?_
    refine aw ?_
    change WC _ _ _ _ _ _
    refine aj h (by kernel_rfl) (λhb43 h=>?_) (λhb43 h=>?_)
    ·
     refine a7 ?_
     refine as_ (v:=.bool false) ?_
     refine a6 ?_
     refine ac ?_
     intro w hw
     cases h
     subst hF
     exact⟨by kernel_rfl,hw.fr⟩
    ·
     refine ae ?_
     change WC _ _ _ _ _ _
     refine ah ?_
     refine mv (v:=.int .i64 ((i3:Nat):Int)) ?_
     refine vb (q_add_r (r:=((i3+1:Nat):Int)) rfl rfl rfl (ctr_len hl8 hl.le)) ?_
     refine as_ (v:=.int .i64 ((i3+1:Nat):Int)) ?_
     exact ab λw hw=>⟨hl8,(),h,(sl_ (by kernel_rfl)),hw,trivial⟩
  ·
   have h:=hge6 (ige hb7)
   refine am ?_
   change WC _ _ _ _ _ _
   refine a7 ?_
   refine as_ (v:=.bool true) ?_
   refine a6 ?_
   refine ac ?_
   intro w hw
   cases h
   subst hF
   exact⟨by kernel_rfl,hw.fr⟩
theorem t_firthref06_RightRec{Γ:Gh}{w0:World}{Ar_1:Option Addr}{cr_1:Nat}(r_:Rec)(hr_:Rec.fits Γ Ar_1 cr_1 r_)(hs:Sat Γ w0){r:Bool}(h:m_firthref06_RightRec r_=some r):Calls Tryz.prog 67 #[.agg #[.string r_.key,.slice Ar_1 r_.vers.length cr_1]] w0 (λe w'=>e = .returned (.bool r)∧Fr no w0 w'):=by
 refine calls_of (N:=17) (rs:=[2]) (args:=[.agg #[.string r_.key,.slice Ar_1 r_.vers.length cr_1]]) Tryz.func67 rfl Tryz.ntmps67 Tryz.results67 rfl ?_
 obtain⟨F,hF⟩:∃F:Fm,F=⟨no,w0,Γ⟩:=⟨_,rfl⟩
 refine aa (C:=CC F Γ []) ?_ (hF▸Cur.start0 hs)
 refine a7 ?_
 refine e_box (v:=.agg #[.string r_.key,.slice Ar_1 r_.vers.length cr_1]) rfl rfl rfl rfl (by kernel_rfl) ?_
 intro g1
 refine as_ (v:=.bool false) ?_
 refine a6 ?_
 refine a7 ?_
 refine vb (q_fl 0 fld_70_0 rfl rfl rfl) ?_
 refine vb (q_ldl (i:=0) (v:=.string r_.key) rfl rfl Tryz.isAgg9 rfl rfl) ?_
 refine vb (q_sneq rfl rfl rfl) ?_
 refine mv (v:=.bool (r_.key != ByteArray.empty)) ?_
 refine vg1 rfl rfl rfl rfl rfl (λhg2=>QV.qo (q_fl 0 fld_70_0 rfl rfl rfl)) ?_
 refine vg1 rfl rfl rfl rfl rfl (λhg3=>QV.qo (q_ldl (i:=0) (v:=.string r_.key) rfl rfl Tryz.isAgg9 (gu hg3 rfl) rfl)) ?_
 refine vg1 rfl rfl rfl rfl rfl (λhg4=>QV.qo (q_len_str rfl Tryz.underlying9 (gu hg4 rfl))) ?_
 refine vg1 rfl rfl rfl rfl rfl (λhg5=>QV.qo (q_leq rfl (gu hg5 rfl) rfl)) ?_
 refine vb (q_pick rfl rfl (pk_and' (g:=(r_.key != ByteArray.empty)) (y:=(decide (((r_.key.size:Nat):Int)≤32))))) ?_
 refine mv (v:=.bool ((r_.key != ByteArray.empty)&&(decide (((r_.key.size:Nat):Int)≤32)))) ?_
 refine vg1 rfl rfl rfl rfl rfl (λhg6=>QV.qo (q_fl 1 fld_70_1 rfl rfl rfl)) ?_
 refine vg1 rfl rfl rfl rfl rfl (λhg7=>QV.qo (q_ldl (i:=0) (v:=.slice Ar_1 r_.vers.length cr_1) rfl rfl Tryz.isAgg67 (gu hg7 rfl) rfl)) ?_
 obtain⟨z9,hz10,h⟩:=bnd h
 refine vg1 rfl rfl rfl rfl rfl (λhg8=>(q_call (call_run Tryz.call87 rfl rfl (args1 (gu hg8 rfl))) (λw hw=>t_firthref05_Right (Γ:=Gh.all w) (hr_.2.2.mono hw.sat.le_all) hr_.2.1 (Sat.all w) (gc_of hz10 hg8)))) ?_
 refine vb (q_pick rfl rfl (pk_and' (g:=((r_.key != ByteArray.empty)&&(decide (((r_.key.size:Nat):Int)≤32)))) (y:=z9))) ?_
 refine as_ (v:=.bool (((r_.key != ByteArray.empty)&&(decide (((r_.key.size:Nat):Int)≤32)))&&z9)) ?_
 refine a6 ?_
 refine ac ?_
 intro w hw
 cases h
 subst hF
 exact⟨by kernel_rfl,hw.fr⟩
abbrev r_firthref10_With(r:List Rec)(U:List Rowb)(Γ:Gh)(v:Value):Prop := ∃(A0:Option Addr), ∃(c0:Nat), ∃(row0:Rowb),v = .slice A0 r.length c0∧U = [row0]∧Own recT Γ 70 row0 A0 c0 r∧True
theorem t_firthref10_With{Γ:Gh}{w0:World}{Al:Option Addr}{cl:Nat}{l:List Rec}(hl:Sl recT Γ Al l)(hlc:l.length≤cl){Ar_1:Option Addr}{cr_1:Nat}(r_:Rec)(hr_:Rec.fits Γ Ar_1 cr_1 r_)(hp:Pre [] Γ w0){r:List Rec}(h:m_firthref10_With l r_=some r):Calls Tryz.prog 40 #[.slice Al l.length cl,.agg #[.string r_.key,.slice Ar_1 r_.vers.length cr_1]] w0 (Outc Γ [] w0 (r_firthref10_With r)):=by
 refine calls_of (N:=56) (rs:=[4]) (args:=[.slice Al l.length cl,.agg #[.string r_.key,.slice Ar_1 r_.vers.length cr_1]]) Tryz.func40 rfl Tryz.ntmps40 Tryz.results40 rfl ?_
 obtain⟨F,hF⟩:∃F:Fm,F=⟨ids [],w0,Γ⟩:=⟨_,rfl⟩
 refine aa (C:=CC F Γ []) ?_ (hF▸hp.start)
 refine a7 ?_
 refine e_box (v:=.agg #[.string r_.key,.slice Ar_1 r_.vers.length cr_1]) rfl rfl rfl rfl (by kernel_rfl) ?_
 intro g1
 refine as_ (v:=.slice none 0 0) ?_
 refine a6 ?_
 refine a7 ?_
 refine as_ (v:=.slice none 0 0) ?_
 refine a6 ?_
 refine a7 ?_
 refine vb (q_fl 1 fld_70_1 rfl rfl rfl) ?_
 refine vb (q_ldl (i:=0) (v:=.slice Ar_1 r_.vers.length cr_1) rfl rfl Tryz.isAgg67 rfl rfl) ?_
 refine vb (q_len_slice rfl Tryz.underlying67 rfl) ?_
 refine vb (q_eql rfl rfl rfl) ?_
 refine as_ (v:=.bool (((r_.vers.length:Nat):Int)==0)) ?_
 refine a6 ?_
 refine a8 ?_
 refine a7 ?_
 refine as_ (v:=.int .i64 0) ?_
 refine a6 ?_
 refine af ?_
 refine ap h (λ(i9:Nat) (s:(List Rec)×Bool) σ w=>match s with | (out_2,laid_7) => ∃(A3:Option Addr), ∃(c4:Nat), ∃(row5:Rowb),slots σ [(0,.slice Al l.length cl),(3,(pq g1)),(5,.slice A3 out_2.length c4),(6,.bool laid_7),(7,.int .i64 ((i9:Nat):Int))]∧CC F Γ [row5,[(g1,.cells #[.string r_.key,.slice Ar_1 r_.vers.length cr_1] 70 (0,0))]] w∧Own recT Γ 70 row5 A3 c4 out_2∧True) ?_ ?_
 ·
  intro w hw
  have hw:=hw.pad
  exact⟨none,0,[],(sl_ (by kernel_rfl)),hw,(Own.nil recT _ 70),trivial⟩
 rintro f8 i9 ⟨out_2,laid_7⟩ σ w hi10 hlt11 hge12 ⟨A3,c4,row5,hsl,hw,ho6,-⟩
 refine Wpt.slots hsl ?_
 refine aa (C:=CC F Γ [row5,[(g1,.cells #[.string r_.key,.slice Ar_1 r_.vers.length cr_1] 70 (0,0))]]) ?_ hw
 clear hw hsl
 refine a8 ?_
 refine a7 ?_
 refine mv (v:=.int .i64 ((i9:Nat):Int)) ?_
 refine mv (v:=.slice Al l.length cl) ?_
 refine vb (q_len_slice rfl Tryz.underlying23 rfl) ?_
 refine vb (q_lss rfl rfl rfl) ?_
 refine a6 ?_
 refine WC.cond (b:=(decide (((i9:Nat):Int)<((l.length:Nat):Int)))) (by kernel_rfl) (λhb13=>?_) (λhb13=>?_)
 ·
  have hl14:=ilt hb13
  have h:=hlt11 hl14
  refine ae ?_
  change WC _ _ _ _ _ _
  refine ax (λσ w => ∃(out_15:List Rec), ∃(laid_20:Bool), ∃(A16:Option Addr), ∃(c17:Nat), ∃(row18:Rowb),m_firthref10_With_j11 f8 out_15 laid_20=some r∧slots σ [(0,.slice Al l.length cl),(3,(pq g1)),(5,.slice A16 out_15.length c17),(6,.bool laid_20),(7,.int .i64 ((i9:Nat):Int))]∧CC F Γ [row18,[(g1,.cells #[.string r_.key,.slice Ar_1 r_.vers.length cr_1] 70 (0,0))]] w∧Own recT Γ 70 row18 A16 c17 out_15∧True) ?_ ?_
  ·
   refine af ?_
   refine a8 ?_
   refine a8 ?_
   refine ay (by kernel_rfl) (by kernel_rfl) (λw hw=>hw.drawn _) ?_
   refine wa rfl rfl rfl (q_move (v:=.slice Al l.length cl) rfl (by kernel_rfl)) ?_
   refine wa rfl rfl rfl (q_move (v:=.int .i64 ((i9:Nat):Int)) rfl (by kernel_rfl)) ?_
   refine wa rfl rfl rfl (q_ixn (i:=i9) Tryz.underlying23 Tryz.sizeOf70 rfl rfl rfl hl14 (hl.some_ hl14)) ?_
   refine wa rfl rfl rfl (q_field_addr (i9*2) fld_70_0 rfl rfl (hl.some_ hl14) rfl) ?_
   obtain⟨A21,c22,hx23⟩:=hl.recT_at i9
   refine wa rfl rfl rfl (q_ld (c:=0) (v:=.string (gt l i9).key) (hx23 hl14).2 rfl Tryz.isAgg9 rfl rfl) ?_
   refine wa rfl rfl rfl (q_fl 0 fld_70_0 rfl rfl rfl) ?_
   refine wa rfl rfl rfl (q_ldl (i:=1) (v:=.string r_.key) rfl rfl Tryz.isAgg9 rfl rfl) ?_
   refine wa rfl rfl rfl (q_seql rfl rfl rfl) ?_
   refine aw ?_
   change WC _ _ _ _ _ _
   refine aj h (by kernel_rfl) (λhb24 h=>?_) (λhb24 h=>?_)
   ·
    exact am λw hw=>⟨out_2,laid_7,A3,c4,row5,h,(sl_ (by kernel_rfl)),hw,ho6,trivial⟩
   ·
    refine ae ?_
    change WC _ _ _ _ _ _
    refine ax (λσ w => ∃(out_25:List Rec), ∃(laid_30:Bool), ∃(A26:Option Addr), ∃(c27:Nat), ∃(row28:Rowb),m_firthref10_With_j13 l f8 i9 out_25 laid_30=some r∧slots σ [(0,.slice Al l.length cl),(3,(pq g1)),(5,.slice A26 out_25.length c27),(6,.bool laid_30),(7,.int .i64 ((i9:Nat):Int))]∧CC F Γ [row28,[(g1,.cells #[.string r_.key,.slice Ar_1 r_.vers.length cr_1] 70 (0,0))]] w∧Own recT Γ 70 row28 A26 c27 out_25∧True) ?_ ?_
    ·
     refine a8 ?_
     refine ay (by kernel_rfl) (by kernel_rfl) (λw hw=>hw.drawn _) ?_
     refine wa rfl rfl rfl (q_move (v:=.bool laid_7) rfl (by kernel_rfl)) ?_
     refine wa rfl rfl rfl (q_not rfl rfl) ?_
     refine wa rfl rfl rfl (q_move (v:=.bool (!laid_7)) rfl (by kernel_rfl)) ?_
     refine wg1 rfl rfl rfl rfl rfl (λhg31=>QV.qo (q_fl 0 fld_70_0 rfl rfl rfl)) ?_
     refine wg1 rfl rfl rfl rfl rfl (λhg32=>QV.qo (q_ldl (i:=1) (v:=.string r_.key) rfl rfl Tryz.isAgg9 (gu hg32 rfl) rfl)) ?_
     refine wg1 rfl rfl rfl rfl rfl (λhg33=>QV.qo (q_move (v:=.slice Al l.length cl) rfl (by kernel_rfl))) ?_
     refine wg1 rfl rfl rfl rfl rfl (λhg34=>QV.qo (q_move (v:=.int .i64 ((i9:Nat):Int)) rfl (by kernel_rfl))) ?_
     refine wg1 rfl rfl rfl rfl rfl (λhg35=>QV.qo (q_ixn (i:=i9) Tryz.underlying23 Tryz.sizeOf70 rfl (gu hg35 rfl) (gu hg35 rfl) hl14 (hl.some_ hl14))) ?_
     refine wg1 rfl rfl rfl rfl rfl (λhg36=>QV.qo (q_field_addr (i9*2) fld_70_0 rfl (gu hg36 rfl) (hl.some_ hl14) rfl)) ?_
     refine wg1 rfl rfl rfl rfl rfl (λhg37=>QV.qo (q_ld (c:=0) (v:=.string (gt l i9).key) (hx23 hl14).2 rfl Tryz.isAgg9 (gu hg37 rfl) rfl)) ?_
     refine wg1 rfl rfl rfl rfl rfl (λhg38=>QV.qo (q_slss rfl (gu hg38 rfl) (gu hg38 rfl))) ?_
     refine wa rfl rfl rfl (q_pick rfl rfl (pk_and' (g:=(!laid_7)) (y:=(strLt r_.key ((gt l i9).key))))) ?_
     refine aw ?_
     change WC _ _ _ _ _ _
     refine aj h (by kernel_rfl) (λhb39 h=>?_) (λhb39 h=>?_)
     ·
      refine a7 ?_
      refine mv (v:=.slice A3 out_2.length c4) ?_
      refine vb (q_ldla (i:=1) (vs:=[.string r_.key,.slice Ar_1 r_.vers.length cr_1]) rfl rfl Tryz.isAgg70 Tryz.sizeOf70 rfl rfl) ?_
      refine e_buildSlice (cs:=#[.string r_.key,.slice Ar_1 r_.vers.length cr_1]) (e:=70) rfl rfl rfl rfl (λw=>by kernel_rfl) ?_
      intro g40
      obtain⟨hk41,h⟩:=chk_some h
      refine e_append (T:=recT) (xs:=out_2) (ys:=[r_]) elem_23 (i:=1) rfl rfl rfl rfl rfl rfl rfl ho6 (of_decide_eq_true hk41) (λw hw=>src_one (T:=recT) (y:=r_) (i:=0) rfl (by exact⟨Ar_1,cr_1,rfl,hr_⟩) hw) ?_
      intro row42 A43 c44 ho45
      refine as_ (v:=.slice A43 (out_2++[r_]).length c44) ?_
      refine a6 ?_
      refine ah ?_
      refine as_ (v:=.bool true) ?_
      exact ab λw hw=>⟨(out_2++[r_]),true,A43,c44,row42,h,(sl_ (by kernel_rfl)),(hw.only (is:=[1,1]) rfl),ho45,trivial⟩
     ·
      exact ae λw hw=>⟨out_2,laid_7,A3,c4,row5,h,(sl_ (by kernel_rfl)),hw,ho6,trivial⟩
    ·
     rintro σ w ⟨out_25,laid_30,A26,c27,row28,h,hsl,hw,ho29,-⟩
     refine Wpt.slots hsl ?_
     refine aa (C:=CC F Γ [row28,[(g1,.cells #[.string r_.key,.slice Ar_1 r_.vers.length cr_1] 70 (0,0))]]) ?_ hw
     clear hw hsl
     refine ah ?_
     refine mv (v:=.slice A26 out_25.length c27) ?_
     refine mv (v:=.slice Al l.length cl) ?_
     refine mv (v:=.int .i64 ((i9:Nat):Int)) ?_
     refine vb (q_ixn (i:=i9) Tryz.underlying23 Tryz.sizeOf70 rfl rfl rfl hl14 (hl.some_ hl14)) ?_
     obtain⟨A46,c47,hx48⟩:=hl.recT_at i9
     refine vb (q_lda (c:=0) (vs:=[.string (gt l i9).key,.slice A46 ((gt l i9).vers).length c47]) (hx48 hl14).2 rfl Tryz.isAgg70 Tryz.sizeOf70 rfl rfl rfl) ?_
     refine e_buildSlice (cs:=#[.string (gt l i9).key,.slice A46 ((gt l i9).vers).length c47]) (e:=70) rfl rfl rfl rfl (λw=>by kernel_rfl) ?_
     intro g49
     obtain⟨hk50,h⟩:=chk_some h
     refine e_append (T:=recT) (xs:=out_25) (ys:=[(gt l i9)]) elem_23 (i:=1) rfl rfl rfl rfl rfl rfl rfl ho29 (of_decide_eq_true hk50) (λw hw=>src_one (T:=recT) (y:=(gt l i9)) (i:=0) rfl (by exact⟨A46,c47,rfl,(hx48 hl14).1⟩) hw) ?_
     intro row51 A52 c53 ho54
     refine as_ (v:=.slice A52 (out_25++[(gt l i9)]).length c53) ?_
     exact ab λw hw=>⟨(out_25++[(gt l i9)]),laid_30,A52,c53,row51,h,(sl_ (by kernel_rfl)),(hw.only (is:=[1,1]) rfl),ho54,trivial⟩
  ·
   rintro σ w ⟨out_15,laid_20,A16,c17,row18,h,hsl,hw,ho19,-⟩
   refine Wpt.slots hsl ?_
   refine aa (C:=CC F Γ [row18,[(g1,.cells #[.string r_.key,.slice Ar_1 r_.vers.length cr_1] 70 (0,0))]]) ?_ hw
   clear hw hsl
   refine ah ?_
   refine mv (v:=.int .i64 ((i9:Nat):Int)) ?_
   refine vb (q_add_r (r:=((i9+1:Nat):Int)) rfl rfl rfl (ctr_len hl14 hl.le)) ?_
   refine as_ (v:=.int .i64 ((i9+1:Nat):Int)) ?_
   exact ab λw hw=>⟨hl14,(out_15,laid_20),h,A16,c17,row18,(sl_ (by kernel_rfl)),hw,ho19,trivial⟩
 ·
  have h:=hge12 (ige hb13)
  refine am ?_
  change WC _ _ _ _ _ _
  refine a8 ?_
  refine a7 ?_
  refine mv (v:=.bool laid_7) ?_
  refine vb (q_not rfl rfl) ?_
  refine a6 ?_
  refine aj h (by kernel_rfl) (λhb55 h=>?_) (λhb55 h=>?_)
  ·
   refine ah ?_
   refine mv (v:=.slice A3 out_2.length c4) ?_
   refine vb (q_ldla (i:=1) (vs:=[.string r_.key,.slice Ar_1 r_.vers.length cr_1]) rfl rfl Tryz.isAgg70 Tryz.sizeOf70 rfl rfl) ?_
   refine e_buildSlice (cs:=#[.string r_.key,.slice Ar_1 r_.vers.length cr_1]) (e:=70) rfl rfl rfl rfl (λw=>by kernel_rfl) ?_
   intro g56
   obtain⟨hk57,h⟩:=chk_some h
   refine e_append (T:=recT) (xs:=out_2) (ys:=[r_]) elem_23 (i:=1) rfl rfl rfl rfl rfl rfl rfl ho6 (of_decide_eq_true hk57) (λw hw=>src_one (T:=recT) (y:=r_) (i:=0) rfl (by exact⟨Ar_1,cr_1,rfl,hr_⟩) hw) ?_
   intro row58 A59 c60 ho61
   refine as_ (v:=.slice A59 (out_2++[r_]).length c60) ?_
   refine ab ?_
   change WC _ _ _ _ _ _
   refine a7 ?_
   refine mv (v:=.slice A59 (out_2++[r_]).length c60) ?_
   refine as_ (v:=.slice A59 (out_2++[r_]).length c60) ?_
   refine a6 ?_
   refine ac ?_
   intro w hw
   cases h
   subst hF
   exact end_e (is:=[1]) (by kernel_rfl) hw rfl ⟨A59,c60,row58,rfl,rfl,ho61,trivial⟩
  ·
   refine ae ?_
   change WC _ _ _ _ _ _
   refine a7 ?_
   refine mv (v:=.slice A3 out_2.length c4) ?_
   refine as_ (v:=.slice A3 out_2.length c4) ?_
   refine a6 ?_
   refine ac ?_
   intro w hw
   cases h
   subst hF
   exact end_e (is:=[0]) (by kernel_rfl) hw rfl ⟨A3,c4,row5,rfl,rfl,ho6,trivial⟩
abbrev r_firthref14_Held(r:(List Rec)×Bool)(U:List Rowb)(Γ:Gh)(v:Value):Prop := ∃(A0:Option Addr), ∃(c0:Nat), ∃(row0:Rowb),v = .tuple #[.slice A0 r.1.length c0,.bool r.2]∧U = [row0]∧Own recT Γ 70 row0 A0 c0 r.1∧True
theorem t_firthref14_Held{Γ:Gh}{w0:World}{Al:Option Addr}{cl:Nat}{l:List Rec}(hl:Sl recT Γ Al l)(hlc:l.length≤cl)(hp:Pre [] Γ w0){r:(List Rec)×Bool}(h:m_firthref14_Held l=some r):Calls Tryz.prog 35 #[.slice Al l.length cl] w0 (Outc Γ [] w0 (r_firthref14_Held r)):=by
 refine calls_of (N:=25) (rs:=[2,3]) (args:=[.slice Al l.length cl]) Tryz.func35 rfl Tryz.ntmps35 Tryz.results35 rfl ?_
 obtain⟨F,hF⟩:∃F:Fm,F=⟨ids [],w0,Γ⟩:=⟨_,rfl⟩
 refine aa (C:=CC F Γ []) ?_ (hF▸hp.start)
 refine a7 ?_
 refine as_ (v:=.slice none 0 0) ?_
 refine as_ (v:=.bool false) ?_
 refine a6 ?_
 refine a7 ?_
 refine as_ (v:=.slice none 0 0) ?_
 refine a6 ?_
 refine a8 ?_
 refine a7 ?_
 refine as_ (v:=.int .i64 0) ?_
 refine a6 ?_
 refine af ?_
 refine ap h (λ(i9:Nat) (out_3:List Rec) σ w => ∃(Γ1:Gh), ∃(A4:Option Addr), ∃(c5:Nat), ∃(row6:Rowb),slots σ [(0,.slice Al l.length cl),(4,.slice A4 out_3.length c5),(5,.int .i64 ((i9:Nat):Int))]∧CC F Γ1 [row6] w∧Gh.le Γ Γ1∧Own recT Γ1 70 row6 A4 c5 out_3∧True) ?_ ?_
 ·
  intro w hw
  have hw:=hw.pad
  exact⟨Γ,none,0,[],(sl_ (by kernel_rfl)),hw,(Gh.refl _),(Own.nil recT _ 70),trivial⟩
 rintro f8 i9 out_3 σ w hi10 hlt11 hge12 ⟨Γ1,A4,c5,row6,hsl,hw,hl2,ho7,-⟩
 refine Wpt.slots hsl ?_
 refine aa (C:=CC F Γ1 [row6]) ?_ hw
 clear hw hsl
 refine a8 ?_
 refine a7 ?_
 refine mv (v:=.int .i64 ((i9:Nat):Int)) ?_
 refine mv (v:=.slice Al l.length cl) ?_
 refine vb (q_len_slice rfl Tryz.underlying23 rfl) ?_
 refine vb (q_lss rfl rfl rfl) ?_
 refine a6 ?_
 refine WC.cond (b:=(decide (((i9:Nat):Int)<((l.length:Nat):Int)))) (by kernel_rfl) (λhb13=>?_) (λhb13=>?_)
 ·
  have hl14:=ilt hb13
  have h:=hlt11 hl14
  refine ae ?_
  change WC _ _ _ _ _ _
  refine a8 ?_
  refine af ?_
  refine a8 ?_
  refine a7 ?_
  refine mv (v:=.slice Al l.length cl) ?_
  refine mv (v:=.int .i64 ((i9:Nat):Int)) ?_
  refine vb (q_ixn (i:=i9) Tryz.underlying23 Tryz.sizeOf70 rfl rfl rfl hl14 ((hl.mono hl2).some_ hl14)) ?_
  obtain⟨A15,c16,hx17⟩:=(hl.mono hl2).recT_at i9
  refine vb (q_lda (c:=0) (vs:=[.string (gt l i9).key,.slice A15 ((gt l i9).vers).length c16]) (hx17 hl14).2 rfl Tryz.isAgg70 Tryz.sizeOf70 rfl rfl rfl) ?_
  obtain⟨z18,hz19,h⟩:=bnd h
  refine vc rfl rfl rfl (q_call (call_run Tryz.call67 rfl rfl (by kernel_rfl)) (λw hw=>t_firthref06_RightRec (Γ:=Gh.all w) (gt l i9) (Rec.fits_mono (hx17 hl14).1 hw.sat.le_all) (Sat.all w) hz19)) ?_
  refine vb (q_not rfl rfl) ?_
  refine a6 ?_
  refine aj h (by kernel_rfl) (λhb20 h=>?_) (λhb20 h=>?_)
  ·
   refine a7 ?_
   refine as_ (v:=.slice none 0 0) ?_
   refine as_ (v:=.bool false) ?_
   refine a6 ?_
   refine ac ?_
   intro w hw
   have hw:=hw.pad
   cases h
   subst hF
   exact end_e (is:=[0]) (by kernel_rfl) hw rfl ⟨none,0,[],rfl,rfl,(Own.nil recT _ 70),trivial⟩
  ·
   refine ae ?_
   change WC _ _ _ _ _ _
   refine ah ?_
   refine mv (v:=.slice A4 out_3.length c5) ?_
   refine mv (v:=.slice Al l.length cl) ?_
   refine mv (v:=.int .i64 ((i9:Nat):Int)) ?_
   refine vb (q_ixn (i:=i9) Tryz.underlying23 Tryz.sizeOf70 rfl rfl rfl hl14 ((hl.mono hl2).some_ hl14)) ?_
   refine vb (q_lda (c:=0) (vs:=[.string (gt l i9).key,.slice A15 ((gt l i9).vers).length c16]) (hx17 hl14).2 rfl Tryz.isAgg70 Tryz.sizeOf70 rfl rfl rfl) ?_
   have hc25:=ho7.capz
   intro w hw; obtain⟨Γ21,hw,hl22,hr23⟩:=hw.seal (i:=0) rfl; have hs24:=ho7.sl hl22 hr23
   refine ao (C:=CC F Γ21 [[]]) ?_ hw
   clear hw
   obtain⟨z26,hz27,h⟩:=bnd h
   refine e_call (is:=[]) rfl rfl (call_run Tryz.call40 rfl rfl (by kernel_rfl)) rfl (λw hp=>t_firthref10_With hs24 hc25 (gt l i9) (Rec.fits_mono (hx17 hl14).1 hl22) hp hz27) ?_
   rintro Γ28 U30 v31 hl29 ⟨A32,c33,row34,rfl,rfl,hr35,_⟩
   change WR _ _ _ (CC F Γ28 [row34,[]]) _ _ (upd _ 23 (.slice A32 z26.length c33))
   refine as_ (v:=.slice A32 z26.length c33) ?_
   refine ab ?_
   change WC _ _ _ _ _ _
   refine ah ?_
   refine mv (v:=.int .i64 ((i9:Nat):Int)) ?_
   refine vb (q_add_r (r:=((i9+1:Nat):Int)) rfl rfl rfl (ctr_len hl14 (hl.mono hl2).le)) ?_
   refine as_ (v:=.int .i64 ((i9+1:Nat):Int)) ?_
   exact ab λw hw=>⟨hl14,z26,h,Γ28,A32,c33,row34,(sl_ (by kernel_rfl)),(hw.only (is:=[0]) rfl),((hl2.trans hl22).trans hl29),hr35,trivial⟩
 ·
  have h:=hge12 (ige hb13)
  refine am ?_
  change WC _ _ _ _ _ _
  refine a7 ?_
  refine mv (v:=.slice A4 out_3.length c5) ?_
  refine as_ (v:=.slice A4 out_3.length c5) ?_
  refine as_ (v:=.bool true) ?_
  refine a6 ?_
  refine ac ?_
  intro w hw
  cases h
  subst hF
  exact end_e (is:=[0]) (by kernel_rfl) hw rfl ⟨A4,c5,row6,rfl,rfl,ho7,trivial⟩
theorem t_firthref04_Right{Γ:Gh}{w0:World}{Av_:Option Addr}{cv_:Nat}{v_:List Int}(hv_:Sl intT Γ Av_ v_)(hv_c:v_.length≤cv_)(hs:Sat Γ w0){r:Bool}(h:m_firthref04_Right v_=some r):Calls Tryz.prog 47 #[.slice Av_ v_.length cv_] w0 (λe w'=>e = .returned (.bool r)∧Fr no w0 w'):=by
 refine calls_of (N:=30) (rs:=[2]) (args:=[.slice Av_ v_.length cv_]) Tryz.func47 rfl Tryz.ntmps47 Tryz.results47 rfl ?_
 obtain⟨F,hF⟩:∃F:Fm,F=⟨no,w0,Γ⟩:=⟨_,rfl⟩
 refine aa (C:=CC F Γ []) ?_ (hF▸Cur.start0 hs)
 refine a7 ?_
 refine as_ (v:=.bool false) ?_
 refine a6 ?_
 refine a8 ?_
 refine a7 ?_
 refine mv (v:=.slice Av_ v_.length cv_) ?_
 refine vb (q_len_slice rfl Tryz.underlying22 rfl) ?_
 refine vb (q_eql rfl rfl rfl) ?_
 refine mv (v:=.bool (((v_.length:Nat):Int)==0)) ?_
 refine vg0 rfl rfl rfl rfl rfl (λhg1=>QV.qo (q_move (v:=.slice Av_ v_.length cv_) rfl (by kernel_rfl))) ?_
 refine vg0 rfl rfl rfl rfl rfl (λhg2=>QV.qo (q_len_slice rfl Tryz.underlying22 (gu hg2 rfl))) ?_
 refine vg0 rfl rfl rfl rfl rfl (λhg3=>QV.qo (q_gtr rfl (gu hg3 rfl) rfl)) ?_
 refine vb (q_pick rfl rfl (pk_or' (g:=(((v_.length:Nat):Int)==0)) (y:=(decide (16<((v_.length:Nat):Int)))))) ?_
 refine a6 ?_
 refine aj h (by kernel_rfl) (λhb4 h=>?_) (λhb4 h=>?_)
 ·
  refine a7 ?_
  refine as_ (v:=.bool false) ?_
  refine a6 ?_
  refine ac ?_
  intro w hw
  cases h
  subst hF
  exact⟨by kernel_rfl,hw.fr⟩
 ·
  refine ae ?_
  change WC _ _ _ _ _ _
  refine a8 ?_
  refine a7 ?_
  refine as_ (v:=.int .i64 0) ?_
  refine a6 ?_
  refine af ?_
  refine ap h (λ(i6:Nat) (s:Unit) σ w=>match s with | ()=>slots σ [(0,.slice Av_ v_.length cv_),(3,.int .i64 ((i6:Nat):Int))]∧CC F Γ [] w∧True) ?_ ?_
  ·
   intro w hw
   exact⟨(sl_ (by kernel_rfl)),hw,trivial⟩
  rintro f5 i6 ⟨⟩ σ w hi7 hlt8 hge9 ⟨hsl,hw,-⟩
  refine Wpt.slots hsl ?_
  refine aa (C:=CC F Γ []) ?_ hw
  clear hw hsl
  refine a8 ?_
  refine a7 ?_
  refine mv (v:=.int .i64 ((i6:Nat):Int)) ?_
  refine mv (v:=.slice Av_ v_.length cv_) ?_
  refine vb (q_len_slice rfl Tryz.underlying22 rfl) ?_
  refine vb (q_lss rfl rfl rfl) ?_
  refine a6 ?_
  refine WC.cond (b:=(decide (((i6:Nat):Int)<((v_.length:Nat):Int)))) (by kernel_rfl) (λhb10=>?_) (λhb10=>?_)
  ·
   have hl11:=ilt hb10
   have h:=hlt8 hl11
   refine ae ?_
   change WC _ _ _ _ _ _
   refine a8 ?_
   refine af ?_
   refine a7 ?_
   refine mv (v:=.slice Av_ v_.length cv_) ?_
   refine mv (v:=.int .i64 ((i6:Nat):Int)) ?_
   refine vb (q_ixn (i:=i6) Tryz.underlying22 Tryz.sizeOf2 rfl rfl rfl hl11 (hv_.some_ hl11)) ?_
   refine vb (q_ld (c:=0) (v:=.int .i64 (gt v_ i6)) (hv_.intT_at hl11).2 rfl Tryz.isAgg2 rfl rfl) ?_
   refine vb (q_lss rfl rfl rfl) ?_
   refine mv (v:=.bool (decide ((gt v_ i6)<0))) ?_
   refine vg0 rfl rfl rfl rfl rfl (λhg12=>QV.qo (q_move (v:=.slice Av_ v_.length cv_) rfl (by kernel_rfl))) ?_
   refine vg0 rfl rfl rfl rfl rfl (λhg13=>QV.qo (q_move (v:=.int .i64 ((i6:Nat):Int)) rfl (by kernel_rfl))) ?_
   refine vg0 rfl rfl rfl rfl rfl (λhg14=>QV.qo (q_ixn (i:=i6) Tryz.underlying22 Tryz.sizeOf2 rfl (gu hg14 rfl) (gu hg14 rfl) hl11 (hv_.some_ hl11))) ?_
   refine vg0 rfl rfl rfl rfl rfl (λhg15=>QV.qo (q_ld (c:=0) (v:=.int .i64 (gt v_ i6)) (hv_.intT_at hl11).2 rfl Tryz.isAgg2 (gu hg15 rfl) rfl)) ?_
   refine vg0 rfl rfl rfl rfl rfl (λhg16=>QV.qo (q_gtr rfl (gu hg16 rfl) rfl)) ?_
   refine vb (q_pick rfl rfl (pk_or' (g:=(decide ((gt v_ i6)<0))) (y:=(decide (4611686018427387904<(gt v_ i6)))))) ?_
   refine a6 ?_
   refine aj h (by kernel_rfl) (λhb17 h=>?_) (λhb17 h=>?_)
   ·
    refine a7 ?_
    refine as_ (v:=.bool false) ?_
    refine a6 ?_
    refine ac ?_
    intro w hw
    cases h
    subst hF
    exact⟨by kernel_rfl,hw.fr⟩
   ·
    refine ae ?_
    change WC _ _ _ _ _ _
    refine ah ?_
    refine mv (v:=.int .i64 ((i6:Nat):Int)) ?_
    refine vb (q_add_r (r:=((i6+1:Nat):Int)) rfl rfl rfl (ctr_len hl11 hv_.le)) ?_
    refine as_ (v:=.int .i64 ((i6+1:Nat):Int)) ?_
    exact ab λw hw=>⟨hl11,(),h,(sl_ (by kernel_rfl)),hw,trivial⟩
  ·
   have h:=hge9 (ige hb10)
   refine am ?_
   change WC _ _ _ _ _ _
   refine a7 ?_
   refine as_ (v:=.bool true) ?_
   refine a6 ?_
   refine ac ?_
   intro w hw
   cases h
   subst hF
   exact⟨by kernel_rfl,hw.fr⟩
abbrev r_firthref10_Own(r:Rec)(U:List Rowb)(Γ:Gh)(v:Value):Prop := ∃(A0_1:Option Addr), ∃(c0_1:Nat),v = .agg #[.string r.key,.slice A0_1 r.vers.length c0_1]∧U = []∧Rec.fits Γ A0_1 c0_1 r∧True
theorem t_firthref10_Own{Γ:Gh}{w0:World}{Ar_1:Option Addr}{cr_1:Nat}(r_:Rec)(hr_:Rec.fits Γ Ar_1 cr_1 r_)(hp:Pre [] Γ w0){r:Rec}(h:m_firthref10_Own r_=some r):Calls Tryz.prog 42 #[.agg #[.string r_.key,.slice Ar_1 r_.vers.length cr_1]] w0 (Outc Γ [] w0 (r_firthref10_Own r)):=by
 refine calls_of_r (N:=35) (rs:=[.cell 2 70]) (args:=[.agg #[.string r_.key,.slice Ar_1 r_.vers.length cr_1]]) Tryz.func42 rfl Tryz.ntmps42 Tryz.results42 rfl ?_
 obtain⟨F,hF⟩:∃F:Fm,F=⟨ids [],w0,Γ⟩:=⟨_,rfl⟩
 refine aa (C:=CC F Γ []) ?_ (hF▸hp.start)
 refine a7 ?_
 refine e_box (v:=.agg #[.string r_.key,.slice Ar_1 r_.vers.length cr_1]) rfl rfl rfl rfl (by kernel_rfl) ?_
 intro g1
 refine e_alloc Tryz.zeroValue70 rfl rfl rfl rfl ?_
 intro g2
 refine a6 ?_
 refine a7 ?_
 refine vb (q_fl 0 fld_70_0 rfl rfl rfl) ?_
 refine vb (q_ldl (i:=1) (v:=.string r_.key) rfl rfl Tryz.isAgg9 rfl rfl) ?_
 refine vb (q_build' (v:=.agg #[.string r_.key,.slice none 0 0]) rfl (bargs1 rfl) (λw=>by kernel_rfl)) ?_
 refine e_alloc Tryz.zeroValue70 rfl rfl rfl rfl ?_
 intro g3
 refine e_st (i:=0) (v:=.agg #[.string r_.key,.slice none 0 0]) (new:=#[.string r_.key,.slice none 0 0]) rfl Tryz.sizeOf70 rfl rfl rfl rfl (by kernel_rfl) rfl rfl rfl rfl ?_
 refine a6 ?_
 refine a8 ?_
 refine a7 ?_
 refine as_ (v:=.int .i64 0) ?_
 refine a6 ?_
 refine af ?_
 refine ap h (λ(i12:Nat) (x6:List Ver) σ w => ∃(Γ4:Gh), ∃(A7:Option Addr), ∃(c8:Nat), ∃(row9:Rowb),slots σ [(1,(pq g1)),(2,(pq g2)),(3,(pq g3)),(4,.int .i64 ((i12:Nat):Int))]∧CC F Γ4 [row9,[(g3,.cells #[.string r_.key,.slice A7 x6.length c8] 70 (0,0))],[(g2,.cells #[.string ByteArray.empty,.slice none 0 0] 70 (0,0))],[(g1,.cells #[.string r_.key,.slice Ar_1 r_.vers.length cr_1] 70 (0,0))]] w∧Gh.le Γ Γ4∧Own verT Γ4 115 row9 A7 c8 x6∧True) ?_ ?_
 ·
  intro w hw
  have hw:=hw.pad
  exact⟨Γ,none,0,[],(sl_ (by kernel_rfl)),hw,(Gh.refl _),(Own.nil verT _ 115),trivial⟩
 rintro f11 i12 x6 σ w hi13 hlt14 hge15 ⟨Γ4,A7,c8,row9,hsl,hw,hl5,ho10,-⟩
 refine Wpt.slots hsl ?_
 refine aa (C:=CC F Γ4 [row9,[(g3,.cells #[.string r_.key,.slice A7 x6.length c8] 70 (0,0))],[(g2,.cells #[.string ByteArray.empty,.slice none 0 0] 70 (0,0))],[(g1,.cells #[.string r_.key,.slice Ar_1 r_.vers.length cr_1] 70 (0,0))]]) ?_ hw
 clear hw hsl
 refine a8 ?_
 refine a7 ?_
 refine mv (v:=.int .i64 ((i12:Nat):Int)) ?_
 refine vb (q_fl 1 fld_70_1 rfl rfl rfl) ?_
 refine vb (q_ldl (i:=3) (v:=.slice Ar_1 r_.vers.length cr_1) rfl rfl Tryz.isAgg67 rfl rfl) ?_
 refine vb (q_len_slice rfl Tryz.underlying67 rfl) ?_
 refine vb (q_lss rfl rfl rfl) ?_
 refine a6 ?_
 refine WC.cond (b:=(decide (((i12:Nat):Int)<((r_.vers.length:Nat):Int)))) (by kernel_rfl) (λhb16=>?_) (λhb16=>?_)
 ·
  have hl17:=ilt hb16
  have h:=hlt14 hl17
  refine ae ?_
  change WC _ _ _ _ _ _
  refine a8 ?_
  refine af ?_
  refine a7 ?_
  refine vb (q_fl 1 fld_70_1 rfl rfl rfl) ?_
  refine vb (q_ldl (i:=3) (v:=.slice Ar_1 r_.vers.length cr_1) rfl rfl Tryz.isAgg67 rfl rfl) ?_
  refine mv (v:=.int .i64 ((i12:Nat):Int)) ?_
  refine vb (q_ixn (i:=i12) Tryz.underlying67 Tryz.sizeOf115 rfl rfl rfl hl17 ((hr_.2.2.mono hl5).some_ hl17)) ?_
  obtain⟨A18,c19,hx20⟩:=(hr_.2.2.mono hl5).verT_at i12
  refine vb (q_lda (c:=0) (vs:=[.int .i64 (gt r_.vers i12).dot.s,.int .i64 (gt r_.vers i12).dot.n,.slice A18 ((gt r_.vers i12).past).length c19,.bool (gt r_.vers i12).gone,.string (gt r_.vers i12).val]) (hx20 hl17).2 rfl Tryz.isAgg115 Tryz.sizeOf115 rfl rfl rfl) ?_
  refine e_alloc Tryz.zeroValue115 rfl rfl rfl rfl ?_
  intro g21
  refine e_st (i:=0) (v:=.agg #[.int .i64 (gt r_.vers i12).dot.s,.int .i64 (gt r_.vers i12).dot.n,.slice A18 ((gt r_.vers i12).past).length c19,.bool (gt r_.vers i12).gone,.string (gt r_.vers i12).val]) (new:=#[.int .i64 (gt r_.vers i12).dot.s,.int .i64 (gt r_.vers i12).dot.n,.slice A18 ((gt r_.vers i12).past).length c19,.bool (gt r_.vers i12).gone,.string (gt r_.vers i12).val]) rfl Tryz.sizeOf115 rfl rfl rfl rfl (by kernel_rfl) rfl rfl rfl rfl ?_
  refine a6 ?_
  refine a7 ?_
  refine as_ (v:=.slice none 0 0) ?_
  refine a6 ?_
  refine a7 ?_
  refine mv (v:=.slice none 0 0) ?_
  refine vb (q_fl 2 fld_115_1 rfl rfl rfl) ?_
  refine vb (q_ldl (i:=0) (v:=.slice A18 ((gt r_.vers i12).past).length c19) rfl rfl Tryz.isAgg113 rfl rfl) ?_
  refine WR.sub (λw hw=>hw.pad) ?_
  obtain⟨hk22,h⟩:=chk_some h
  refine e_append (T:=spanT) (xs:=[]) (ys:=(gt r_.vers i12).past) elem_113 (i:=0) rfl rfl rfl rfl (by kernel_rfl) rfl rfl (Own.nil spanT Γ4 117) (of_decide_eq_true hk22) (λw hw=>src_sl (hx20 hl17).1.2.2.1.2 hw) ?_
  intro row23 A24 c25 ho26
  refine as_ (v:=.slice A24 (gt r_.vers i12).past.length c25) ?_
  refine a6 ?_
  refine a7 ?_
  refine mv (v:=.slice A24 (gt r_.vers i12).past.length c25) ?_
  refine vb (q_fl 2 fld_115_1 rfl rfl rfl) ?_
  refine e_st (i:=1) (v:=.slice A24 (gt r_.vers i12).past.length c25) (new:=#[.int .i64 (gt r_.vers i12).dot.s,.int .i64 (gt r_.vers i12).dot.n,.slice A24 (gt r_.vers i12).past.length c25,.bool (gt r_.vers i12).gone,.string (gt r_.vers i12).val]) rfl Tryz.sizeOf113 rfl rfl rfl rfl (by kernel_rfl) rfl rfl rfl rfl ?_
  refine a6 ?_
  refine ah ?_
  refine vb (q_fl 1 fld_70_1 rfl rfl rfl) ?_
  refine vb (q_ldl (i:=3) (v:=.slice A7 x6.length c8) rfl rfl Tryz.isAgg67 rfl rfl) ?_
  refine vb (q_ldla (i:=1) (vs:=[.int .i64 (gt r_.vers i12).dot.s,.int .i64 (gt r_.vers i12).dot.n,.slice A24 (gt r_.vers i12).past.length c25,.bool (gt r_.vers i12).gone,.string (gt r_.vers i12).val]) rfl rfl Tryz.isAgg115 Tryz.sizeOf115 rfl rfl) ?_
  have hc31:=ho26.capz
  intro w hw; obtain⟨Γ27,hw,hl28,hr29⟩:=hw.seal (i:=0) rfl; have hs30:=ho26.sl hl28 hr29
  refine ao (C:=CC F Γ27 [[],[(g21,.cells #[.int .i64 (gt r_.vers i12).dot.s,.int .i64 (gt r_.vers i12).dot.n,.slice A24 ((gt r_.vers i12).past).length c25,.bool (gt r_.vers i12).gone,.string (gt r_.vers i12).val] 115 (0,0))],row9,[(g3,.cells #[.string r_.key,.slice A7 x6.length c8] 70 (0,0))],[(g2,.cells #[.string ByteArray.empty,.slice none 0 0] 70 (0,0))],[(g1,.cells #[.string r_.key,.slice Ar_1 r_.vers.length cr_1] 70 (0,0))]]) ?_ hw
  clear hw
  refine e_buildSlice (cs:=#[.int .i64 (gt r_.vers i12).dot.s,.int .i64 (gt r_.vers i12).dot.n,.slice A24 ((gt r_.vers i12).past).length c25,.bool (gt r_.vers i12).gone,.string (gt r_.vers i12).val]) (e:=115) rfl rfl rfl rfl (λw=>by kernel_rfl) ?_
  intro g32
  obtain⟨hk33,h⟩:=chk_some h
  refine e_append (T:=verT) (xs:=x6) (ys:=[(gt r_.vers i12)]) elem_67 (i:=3) rfl rfl rfl rfl rfl rfl rfl (ho10.mono hl28) (of_decide_eq_true hk33) (λw hw=>src_one (T:=verT) (y:=(gt r_.vers i12)) (i:=0) rfl (by exact⟨A24,c25,rfl,⟨(hx20 hl17).1.1,(hx20 hl17).1.2.1,⟨hc31,hs30⟩,(hx20 hl17).1.2.2.2⟩⟩) hw) ?_
  intro row34 A35 c36 ho37
  refine vb (q_fl 1 fld_70_1 rfl rfl rfl) ?_
  refine e_st (i:=4) (v:=.slice A35 (x6++[(gt r_.vers i12)]).length c36) (new:=#[.string r_.key,.slice A35 (x6++[(gt r_.vers i12)]).length c36]) rfl Tryz.sizeOf67 rfl rfl rfl rfl (by kernel_rfl) rfl rfl rfl rfl ?_
  refine ab ?_
  change WC _ _ _ _ _ _
  refine ah ?_
  refine mv (v:=.int .i64 ((i12:Nat):Int)) ?_
  refine vb (q_add_r (r:=((i12+1:Nat):Int)) rfl rfl rfl (ctr_len hl17 (hr_.2.2.mono hl5).le)) ?_
  refine as_ (v:=.int .i64 ((i12+1:Nat):Int)) ?_
  exact ab λw hw=>⟨hl17,(x6++[(gt r_.vers i12)]),h,Γ27,A35,c36,row34,(sl_ (by kernel_rfl)),(hw.only (is:=[3,3,3,3]) rfl),(hl5.trans hl28),ho37,trivial⟩
 ·
  have h:=hge15 (ige hb16)
  refine am ?_
  change WC _ _ _ _ _ _
  refine a7 ?_
  refine vb (q_ldla (i:=1) (vs:=[.string r_.key,.slice A7 x6.length c8]) rfl rfl Tryz.isAgg70 Tryz.sizeOf70 rfl rfl) ?_
  refine e_st (i:=2) (v:=.agg #[.string r_.key,.slice A7 x6.length c8]) (new:=#[.string r_.key,.slice A7 x6.length c8]) rfl Tryz.sizeOf70 rfl rfl rfl rfl (by kernel_rfl) rfl rfl rfl rfl ?_
  refine a6 ?_
  refine ac ?_
  intro w hw
  have hc42:=ho10.capz
  obtain⟨Γ38,hw,hl39,hr40⟩:=hw.seal (i:=0) rfl; have hs41:=ho10.sl hl39 hr40
  cases h
  subst hF
  exact⟨[.agg #[.string r_.key,.slice A7 x6.length c8]],(rr_agg (i:=2) (us:=[.string r_.key,.slice A7 x6.length c8]) hw rfl Tryz.isAgg70 Tryz.sizeOf70 (by kernel_rfl) rfl rr_nil),end_e (is:=[]) (by kernel_rfl) hw rfl ⟨A7,c8,rfl,rfl,⟨hr_.1,⟨hc42,hs41⟩⟩,trivial⟩⟩
abbrev r_firthref19_recs(r:List Rec)(U:List Rowb)(Γ:Gh)(v:Value):Prop := ∃(A0:Option Addr), ∃(c0:Nat), ∃(row0:Rowb),v = .slice A0 r.length c0∧U = [row0]∧Own recT Γ 70 row0 A0 c0 r∧True
theorem t_firthref19_recs{Γ:Gh}{w0:World}{Al:Option Addr}{cl:Nat}{l:List Rec}(hl:Sl recT Γ Al l)(hlc:l.length≤cl)(hp:Pre [] Γ w0){r:List Rec}(h:m_firthref19_recs l=some r):Calls Tryz.prog 48 #[.slice Al l.length cl] w0 (Outc Γ [] w0 (r_firthref19_recs r)):=by
 refine calls_of (N:=20) (rs:=[2]) (args:=[.slice Al l.length cl]) Tryz.func48 rfl Tryz.ntmps48 Tryz.results48 rfl ?_
 obtain⟨F,hF⟩:∃F:Fm,F=⟨ids [],w0,Γ⟩:=⟨_,rfl⟩
 refine aa (C:=CC F Γ []) ?_ (hF▸hp.start)
 refine a7 ?_
 refine as_ (v:=.slice none 0 0) ?_
 refine a6 ?_
 refine a7 ?_
 refine as_ (v:=.slice none 0 0) ?_
 refine a6 ?_
 refine a8 ?_
 refine a7 ?_
 refine as_ (v:=.int .i64 0) ?_
 refine a6 ?_
 refine af ?_
 refine ap h (λ(i9:Nat) (out_3:List Rec) σ w => ∃(Γ1:Gh), ∃(A4:Option Addr), ∃(c5:Nat), ∃(row6:Rowb),slots σ [(0,.slice Al l.length cl),(3,.slice A4 out_3.length c5),(4,.int .i64 ((i9:Nat):Int))]∧CC F Γ1 [row6] w∧Gh.le Γ Γ1∧Own recT Γ1 70 row6 A4 c5 out_3∧True) ?_ ?_
 ·
  intro w hw
  have hw:=hw.pad
  exact⟨Γ,none,0,[],(sl_ (by kernel_rfl)),hw,(Gh.refl _),(Own.nil recT _ 70),trivial⟩
 rintro f8 i9 out_3 σ w hi10 hlt11 hge12 ⟨Γ1,A4,c5,row6,hsl,hw,hl2,ho7,-⟩
 refine Wpt.slots hsl ?_
 refine aa (C:=CC F Γ1 [row6]) ?_ hw
 clear hw hsl
 refine a8 ?_
 refine a7 ?_
 refine mv (v:=.int .i64 ((i9:Nat):Int)) ?_
 refine mv (v:=.slice Al l.length cl) ?_
 refine vb (q_len_slice rfl Tryz.underlying23 rfl) ?_
 refine vb (q_lss rfl rfl rfl) ?_
 refine a6 ?_
 refine WC.cond (b:=(decide (((i9:Nat):Int)<((l.length:Nat):Int)))) (by kernel_rfl) (λhb13=>?_) (λhb13=>?_)
 ·
  have hl14:=ilt hb13
  have h:=hlt11 hl14
  refine ae ?_
  change WC _ _ _ _ _ _
  refine a8 ?_
  refine af ?_
  refine ah ?_
  refine mv (v:=.slice A4 out_3.length c5) ?_
  refine mv (v:=.slice Al l.length cl) ?_
  refine mv (v:=.int .i64 ((i9:Nat):Int)) ?_
  refine vb (q_ixn (i:=i9) Tryz.underlying23 Tryz.sizeOf70 rfl rfl rfl hl14 ((hl.mono hl2).some_ hl14)) ?_
  obtain⟨A15,c16,hx17⟩:=(hl.mono hl2).recT_at i9
  refine vb (q_lda (c:=0) (vs:=[.string (gt l i9).key,.slice A15 ((gt l i9).vers).length c16]) (hx17 hl14).2 rfl Tryz.isAgg70 Tryz.sizeOf70 rfl rfl rfl) ?_
  obtain⟨z18,hz19,h⟩:=bnd h
  refine e_call (is:=[]) rfl rfl (call_run Tryz.call42 rfl rfl (by kernel_rfl)) rfl (λw hp=>t_firthref10_Own (gt l i9) (hx17 hl14).1 hp hz19) ?_
  rintro Γ20 U22 v23 hl21 ⟨A24,c25,rfl,rfl,hr26,_⟩
  change WR _ _ _ (CC F Γ20 [row6]) _ _ (upd _ 16 (.agg #[.string z18.key,.slice A24 z18.vers.length c25]))
  refine e_buildSlice (cs:=#[.string z18.key,.slice A24 z18.vers.length c25]) (e:=70) rfl rfl rfl rfl (λw=>by kernel_rfl) ?_
  intro g27
  obtain⟨hk28,h⟩:=chk_some h
  refine e_append (T:=recT) (xs:=out_3) (ys:=[z18]) elem_23 (i:=1) rfl rfl rfl rfl rfl rfl rfl (ho7.mono hl21) (of_decide_eq_true hk28) (λw hw=>src_one (T:=recT) (y:=z18) (i:=0) rfl (by exact⟨A24,c25,rfl,hr26⟩) hw) ?_
  intro row29 A30 c31 ho32
  refine as_ (v:=.slice A30 (out_3++[z18]).length c31) ?_
  refine ab ?_
  change WC _ _ _ _ _ _
  refine ah ?_
  refine mv (v:=.int .i64 ((i9:Nat):Int)) ?_
  refine vb (q_add_r (r:=((i9+1:Nat):Int)) rfl rfl rfl (ctr_len hl14 (hl.mono hl2).le)) ?_
  refine as_ (v:=.int .i64 ((i9+1:Nat):Int)) ?_
  exact ab λw hw=>⟨hl14,(out_3++[z18]),h,Γ20,A30,c31,row29,(sl_ (by kernel_rfl)),(hw.only (is:=[1]) rfl),(hl2.trans hl21),ho32,trivial⟩
 ·
  have h:=hge12 (ige hb13)
  refine am ?_
  change WC _ _ _ _ _ _
  refine a7 ?_
  refine mv (v:=.slice A4 out_3.length c5) ?_
  refine as_ (v:=.slice A4 out_3.length c5) ?_
  refine a6 ?_
  refine ac ?_
  intro w hw
  cases h
  subst hF
  exact end_e (is:=[0]) (by kernel_rfl) hw rfl ⟨A4,c5,row6,rfl,rfl,ho7,trivial⟩
abbrev r_firthref19_NewCut(r:(Option Ofirthref19_Cut)×Int)(U:List Rowb)(Γ:Gh)(v:Value):Prop := ∃(g0:Nat), ∃(row0:Rowb),v = .tuple #[optp r.1 g0,.int .i64 r.2]∧U = [row0]∧optob (Ofirthref19_Cut.ob 41 Γ g0) row0 r.1∧I64 r.2∧True
theorem t_firthref19_NewCut{Γ:Gh}{w0:World}(id:Int)(hid:I64 id){Avec:Option Addr}{cvec:Nat}{vec:List Int}(hvec:Sl intT Γ Avec vec)(hvecc:vec.length≤cvec){Alist:Option Addr}{clist:Nat}{list:List Rec}(hlist:Sl recT Γ Alist list)(hlistc:list.length≤clist)(hp:Pre [] Γ w0){r:(Option Ofirthref19_Cut)×Int}(h:m_firthref19_NewCut id vec list=some r):Calls Tryz.prog 11 #[.int .i64 id,.slice Avec vec.length cvec,.slice Alist list.length clist] w0 (Outc Γ [] w0 (r_firthref19_NewCut r)):=by
 refine calls_of (N:=30) (rs:=[6,7]) (args:=[.int .i64 id,.slice Avec vec.length cvec,.slice Alist list.length clist]) Tryz.func11 rfl Tryz.ntmps11 Tryz.results11 rfl ?_
 obtain⟨F,hF⟩:∃F:Fm,F=⟨ids [],w0,Γ⟩:=⟨_,rfl⟩
 refine aa (C:=CC F Γ []) ?_ (hF▸hp.start)
 refine a7 ?_
 refine as_ (v:=.pointer none) ?_
 refine as_ (v:=.int .i64 0) ?_
 refine a6 ?_
 refine a7 ?_
 refine mv (v:=.slice Alist list.length clist) ?_
 obtain⟨z1,hz2,h⟩:=bnd h
 refine e_call (is:=[]) rfl rfl (call_run Tryz.call35 rfl rfl (by kernel_rfl)) rfl (λw hp=>t_firthref14_Held hlist hlistc hp hz2) ?_
 rintro Γ3 U5 v6 hl4 ⟨A7,c8,row9,rfl,rfl,hr10,_⟩
 change WR _ _ _ (CC F Γ3 [row9]) _ _ (upd _ 12 (.tuple #[.slice A7 z1.1.length c8,.bool z1.2]))
 refine mv (v:=.tuple #[.slice A7 z1.1.length c8,.bool z1.2]) ?_
 refine vb (q_extract (v:=.slice A7 z1.1.length c8) rfl rfl rfl) ?_
 refine vb (q_extract (v:=.bool z1.2) rfl rfl rfl) ?_
 refine as_ (v:=.slice A7 z1.1.length c8) ?_
 refine as_ (v:=.bool z1.2) ?_
 refine a6 ?_
 refine a8 ?_
 refine a7 ?_
 refine mv (v:=.bool z1.2) ?_
 refine vb (q_not rfl rfl) ?_
 refine mv (v:=.bool (!z1.2)) ?_
 refine vg0 rfl rfl rfl rfl rfl (λhg11=>QV.qo (q_move (v:=.slice Avec vec.length cvec) rfl (by kernel_rfl))) ?_
 obtain⟨z13,hz14,h⟩:=bnd h
 refine vg0 rfl rfl rfl rfl rfl (λhg12=>(q_call (call_run Tryz.call47 rfl rfl (args1 (gu hg12 rfl))) (λw hw=>t_firthref04_Right (Γ:=Gh.all w) ((hvec.mono hl4).mono hw.sat.le_all) hvecc (Sat.all w) (gc_of hz14 hg12)))) ?_
 refine vg0 rfl rfl rfl rfl rfl (λhg15=>QV.qo (q_not rfl (gu hg15 rfl))) ?_
 refine vb (q_pick rfl rfl (pk_or' (g:=(!z1.2)) (y:=(!z13)))) ?_
 refine a6 ?_
 refine aj h (by kernel_rfl) (λhb16 h=>?_) (λhb16 h=>?_)
 ·
  refine a7 ?_
  refine as_ (v:=.pointer none) ?_
  refine as_ (v:=.int .i64 1) ?_
  refine a6 ?_
  refine ac ?_
  intro w hw
  have hw:=hw.pad
  cases h
  subst hF
  exact end_e (is:=[0]) (by kernel_rfl) hw rfl ⟨0,[],rfl,rfl,rfl,(show I64 1 by decide),trivial⟩
 ·
  refine ae ?_
  change WC _ _ _ _ _ _
  refine a7 ?_
  refine mv (v:=.int .i64 id) ?_
  refine e_buildSlice (cs:=#[]) (e:=2) rfl rfl rfl rfl (λw=>by kernel_rfl) ?_
  intro g17
  refine mv (v:=.slice Avec vec.length cvec) ?_
  have ho18:Own intT Γ3 2 [(g17,.cells #[] 2 (0,0))] (some ⟨g17,0,none⟩) 0 ([]:List Int):=aq (T:=intT) (ys:=([]:List Int)) [] rfl (show 0≤lim by decide) (show True from trivial)
  obtain⟨hk19,h⟩:=chk_some h
  refine e_append (T:=intT) (xs:=([]:List Int)) (ys:=vec) elem_22 (i:=0) rfl rfl rfl rfl rfl rfl rfl ho18 (of_decide_eq_true hk19) (λw hw=>src_sl (hvec.mono hl4) hw) ?_
  intro row20 A21 c22 ho23
  refine mv (v:=.slice A7 z1.1.length c8) ?_
  have hc28:=hr10.capz
  intro w hw; obtain⟨Γ24,hw,hl25,hr26⟩:=hw.seal (i:=1) rfl; have hs27:=hr10.sl hl25 hr26
  refine ao (C:=CC F Γ24 [row20,[]]) ?_ hw
  clear hw
  obtain⟨z29,hz30,h⟩:=bnd h
  refine e_call (is:=[]) rfl rfl (call_run Tryz.call48 rfl rfl (by kernel_rfl)) rfl (λw hp=>t_firthref19_recs hs27 hc28 hp hz30) ?_
  rintro Γ31 U33 v34 hl32 ⟨A35,c36,row37,rfl,rfl,hr38,_⟩
  change WR _ _ _ (CC F Γ31 [row37,row20,[]]) _ _ (upd _ 27 (.slice A35 z29.length c36))
  refine vb (q_build' (v:=.agg #[.int .i64 id,.slice A21 (([]:List Int)++vec).length c22,.slice A35 z29.length c36]) rfl (bargs3 rfl rfl rfl) (λw=>by kernel_rfl)) ?_
  refine e_box (v:=.agg #[.int .i64 id,.slice A21 (([]:List Int)++vec).length c22,.slice A35 z29.length c36]) rfl rfl rfl rfl (by kernel_rfl) ?_
  intro g39
  refine as_ (v:=(pq g39)) ?_
  refine as_ (v:=.int .i64 0) ?_
  refine a6 ?_
  refine ac ?_
  intro w hw
  have hc44:=(ho23.mono (hl25.trans hl32)).capz
  obtain⟨Γ40,hw,hl41,hr42⟩:=hw.seal (i:=2) rfl; have hs43:=(ho23.mono (hl25.trans hl32)).sl hl41 hr42
  have hc49:=(hr38.mono hl41).capz
  obtain⟨Γ45,hw,hl46,hr47⟩:=hw.seal (i:=1) rfl; have hs48:=(hr38.mono hl41).sl hl46 hr47
  obtain⟨row_50,hrow_50,hob_50⟩:∃rw:Rowb,rw=([[(g39,.cells #[.int .i64 id,.slice A21 (([]:List Int)++vec).length c22,.slice A35 z29.length c36] 41 (0,0))]]:List Rowb).flatten∧Ofirthref19_Cut.ob 41 Γ45 g39 rw (⟨id,(([]:List Int)++vec),z29⟩:Ofirthref19_Cut):=⟨_,rfl,A21,c22,A35,c36,rfl,hid,hc44,(hs43.mono hl46),hc49,hs48,trivial⟩
  have hw:=hw.fold (is:=[0]) rfl hrow_50
  cases h
  subst hF
  exact end_e (is:=[0]) (by kernel_rfl) hw rfl ⟨g39,row_50,rfl,rfl,hob_50,(show I64 0 by decide),trivial⟩
abbrev r_firthlaw19_k(r:List Rec)(U:List Rowb)(Γ:Gh)(v:Value):Prop := ∃(A0:Option Addr), ∃(c0:Nat), ∃(row0:Rowb),v = .slice A0 r.length c0∧U = [row0]∧Own recT Γ 70 row0 A0 c0 r∧True
theorem t_firthlaw19_k{Γ:Gh}{w0:World}(hp:Pre [] Γ w0){r:List Rec}(h:m_firthlaw19_k=some r):Calls Tryz.prog 49 #[] w0 (Outc Γ [] w0 (r_firthlaw19_k r)):=by
 refine calls_of (N:=6) (rs:=[0]) (args:=[]) Tryz.func49 rfl Tryz.ntmps49 Tryz.results49 rfl ?_
 obtain⟨F,hF⟩:∃F:Fm,F=⟨ids [],w0,Γ⟩:=⟨_,rfl⟩
 refine aa (C:=CC F Γ []) ?_ (hF▸hp.start)
 refine a7 ?_
 refine as_ (v:=.slice none 0 0) ?_
 refine a6 ?_
 refine a7 ?_
 refine vb (q_build' (v:=.agg #[.int .i64 1,.int .i64 1]) rfl (bargs2 rfl rfl) (λw=>by kernel_rfl)) ?_
 refine vb (q_build' (v:=.agg #[.int .i64 1,.int .i64 1,.slice none 0 0,.bool false,.string ⟨#[118]⟩]) rfl (bargs2 rfl rfl) (λw=>by kernel_rfl)) ?_
 refine e_buildSlice (cs:=#[.int .i64 1,.int .i64 1,.slice none 0 0,.bool false,.string ⟨#[118]⟩]) (e:=115) rfl rfl rfl rfl (λw=>by kernel_rfl) ?_
 intro g1
 refine vb (q_build' (v:=.agg #[.string ⟨#[107]⟩,.slice (some ⟨g1,0,none⟩) 1 1]) rfl (bargs2 rfl rfl) (λw=>by kernel_rfl)) ?_
 have ho2:Own verT Γ 115 [(g1,.cells #[.int .i64 1,.int .i64 1,.slice none 0 0,.bool false,.string ⟨#[118]⟩] 115 (0,0))] (some ⟨g1,0,none⟩) 1 [(⟨(⟨1,1⟩:Dot),[],false,⟨#[118]⟩⟩:Ver)]:=aq (T:=verT) (ys:=[(⟨(⟨1,1⟩:Dot),[],false,⟨#[118]⟩⟩:Ver)]) [[.int .i64 1,.int .i64 1,.slice none 0 0,.bool false,.string ⟨#[118]⟩]] rfl (show 1≤lim by decide) (show Ty.rd verT Γ [.int .i64 1,.int .i64 1,.slice none 0 0,.bool false,.string ⟨#[118]⟩] (⟨(⟨1,1⟩:Dot),[],false,⟨#[118]⟩⟩:Ver)∧True from ⟨⟨none,0,rfl,⟨(show I64 1 by decide),(show I64 1 by decide),⟨Nat.zero_le _,Sl.nil _ _ _⟩,(show (⟨#[118]⟩:ByteArray).size≤lim by decide)⟩⟩,trivial⟩)
 have hc7:=ho2.capz
 intro w hw; obtain⟨Γ3,hw,hl4,hr5⟩:=hw.seal (i:=0) rfl; have hs6:=ho2.sl hl4 hr5
 refine ao (C:=CC F Γ3 [[]]) ?_ hw
 clear hw
 refine e_buildSlice (cs:=#[.string ⟨#[107]⟩,.slice (some ⟨g1,0,none⟩) [(⟨(⟨1,1⟩:Dot),[],false,⟨#[118]⟩⟩:Ver)].length 1]) (e:=70) rfl rfl rfl rfl (λw=>by kernel_rfl) ?_
 intro g8
 refine as_ (v:=.slice (some ⟨g8,0,none⟩) 1 1) ?_
 refine a6 ?_
 refine ac ?_
 intro w hw
 have ho9:Own recT Γ3 70 [(g8,.cells #[.string ⟨#[107]⟩,.slice (some ⟨g1,0,none⟩) [(⟨(⟨1,1⟩:Dot),[],false,⟨#[118]⟩⟩:Ver)].length 1] 70 (0,0))] (some ⟨g8,0,none⟩) 1 [(⟨⟨#[107]⟩,[(⟨(⟨1,1⟩:Dot),[],false,⟨#[118]⟩⟩:Ver)]⟩:Rec)]:=aq (T:=recT) (ys:=[(⟨⟨#[107]⟩,[(⟨(⟨1,1⟩:Dot),[],false,⟨#[118]⟩⟩:Ver)]⟩:Rec)]) [[.string ⟨#[107]⟩,.slice (some ⟨g1,0,none⟩) [(⟨(⟨1,1⟩:Dot),[],false,⟨#[118]⟩⟩:Ver)].length 1]] rfl (show 1≤lim by decide) (show Ty.rd recT Γ3 [.string ⟨#[107]⟩,.slice (some ⟨g1,0,none⟩) [(⟨(⟨1,1⟩:Dot),[],false,⟨#[118]⟩⟩:Ver)].length 1] (⟨⟨#[107]⟩,[(⟨(⟨1,1⟩:Dot),[],false,⟨#[118]⟩⟩:Ver)]⟩:Rec)∧True from ⟨⟨(some ⟨g1,0,none⟩),1,rfl,⟨(show (⟨#[107]⟩:ByteArray).size≤lim by decide),⟨hc7,hs6⟩⟩⟩,trivial⟩)
 cases h
 subst hF
 exact end_e (is:=[0]) (by kernel_rfl) hw rfl ⟨(some ⟨g8,0,none⟩),1,[(g8,.cells #[.string ⟨#[107]⟩,.slice (some ⟨g1,0,none⟩) [(⟨(⟨1,1⟩:Dot),[],false,⟨#[118]⟩⟩:Ver)].length 1] 70 (0,0))],rfl,rfl,ho9,trivial⟩
end Fw
end Go.Proofs.YtiakfgdgafljnaaGreat
