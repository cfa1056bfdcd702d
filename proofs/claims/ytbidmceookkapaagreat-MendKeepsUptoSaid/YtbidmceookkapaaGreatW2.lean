/- Walks through the functions that the law reaches (printed by a program). No condition. -/
import Derived.Test.YtbidmceookkapaaGreatW1
namespace Go.Proofs.YtbidmceookkapaaGreat
namespace Fw
set_option linter.unusedVariables false
set_option linter.unusedSimpArgs false
set_option linter.unusedSectionVars false
open Go.RowKit
theorem OTree.back {e : TypeId} {k : Int × Int × Int} {gs : Nat} {l : List ((Int × Int × Int) × Nat)} {Γ : Gh} {g : Nat} {row : Rowb} {x : OTree} {hv : Int} (h : OTree.ob (e, (k, gs) :: l) Γ g row x) (hu : U64 hv) : OTree.ob (e, l) Γ g (row ++ [sumO 142 gs hv]) ⟨x.leaves, x.sums ++ [(k, hv)]⟩ := by
  obtain ⟨cs, rowL, sm, rowS, h1, h2, h3, h4, -⟩ := h
  exact ⟨cs, rowL, sm, rowS ++ [sumO 142 gs hv], by rw [h1]; simp only [List.flatten_cons, List.flatten_nil, List.append_nil, List.append_assoc], h2, h3, h4.back hu, trivial⟩
set_option maxRecDepth 100000 in
set_option maxHeartbeats 400000 in
theorem t_hash1 {H : OTree → List Int → Option (OTree × Int)} (hH : HashC H) {Γ : Gh} {w0 : World} {gt_ : Nat} {et : TG} {rowt : Rowb} {t : OTree} (ht_ : OTree.ob et Γ gt_ rowt t) {A : Option Addr} {c : Nat} {path : List Int} (hpath : Sl intT Γ A path) (hc : path.length ≤ c) (hlen : ∀ p ∈ et.2, p.1.1 ≤ (path.length : Int)) {b2 b3 b7 gs : Nat} {h0 : Int}
    (hp : Pre [[(b2, .cells #[.pointer (some ⟨gt_, 0, none⟩)] 70 (0, 0))], [(b3, .cells #[.slice A path.length c] 23 (0, 0))], [(b7, .cells #[.pointer (some ⟨gs, 0, none⟩)] 128 (0, 0))], rowt, [(gs, .cells #[.int .u32 0, .int .i32 1, .int .u32 0, .int .u64 h0] 142 (0, 0))]] Γ w0) {r : OTree × Int} (h : m_tree_Tree_reckon H t path = some r) :
    Calls Tryz.prog 89 #[.pointer (some ⟨b2, 0, none⟩), .pointer (some ⟨b3, 0, none⟩), .pointer (some ⟨b7, 0, none⟩)] w0 (Outc Γ [[(b2, .cells #[.pointer (some ⟨gt_, 0, none⟩)] 70 (0, 0))], [(b3, .cells #[.slice A path.length c] 23 (0, 0))], [(b7, .cells #[.pointer (some ⟨gs, 0, none⟩)] 128 (0, 0))], rowt, [(gs, .cells #[.int .u32 0, .int .i32 1, .int .u32 0, .int .u64 h0] 142 (0, 0))]] w0
      fun U Δ v => ∃ rowt' : Rowb, v = .tuple #[] ∧ U = [[(b2, .cells #[.pointer (some ⟨gt_, 0, none⟩)] 70 (0, 0))], [(b3, .cells #[.slice A path.length c] 23 (0, 0))], [(b7, .cells #[.pointer (some ⟨gs, 0, none⟩)] 128 (0, 0))], rowt', [(gs, .cells #[.int .u32 0, .int .i32 1, .int .u32 0, .int .u64 r.2] 142 (0, 0))]] ∧ OTree.ob et Δ gt_ rowt' r.1 ∧ U64 r.2 ∧ True) := by
  refine calls_of (N := 9) (rs := []) (args := [.pointer (some ⟨b2, 0, none⟩), .pointer (some ⟨b3, 0, none⟩), .pointer (some ⟨b7, 0, none⟩)]) Tryz.func89 rfl Tryz.ntmps89 Tryz.results89 rfl ?_
  obtain ⟨F, hF⟩ : ∃ F : Fm, F = ⟨ids [[(b2, .cells #[.pointer (some ⟨gt_, 0, none⟩)] 70 (0, 0))], [(b3, .cells #[.slice A path.length c] 23 (0, 0))], [(b7, .cells #[.pointer (some ⟨gs, 0, none⟩)] 128 (0, 0))], rowt, [(gs, .cells #[.int .u32 0, .int .i32 1, .int .u32 0, .int .u64 h0] 142 (0, 0))]], w0, Γ⟩ := ⟨_, rfl⟩
  refine WC.here (C := CC F Γ [[(b2, .cells #[.pointer (some ⟨gt_, 0, none⟩)] 70 (0, 0))], [(b3, .cells #[.slice A path.length c] 23 (0, 0))], [(b7, .cells #[.pointer (some ⟨gs, 0, none⟩)] 128 (0, 0))], rowt, [(gs, .cells #[.int .u32 0, .int .i32 1, .int .u32 0, .int .u64 h0] 142 (0, 0))]]) ?_ (hF ▸ hp.start)
  intro w hw; have h00 := hw.le
  refine WC.here (C := CC F Γ [[(b2, .cells #[.pointer (some ⟨gt_, 0, none⟩)] 70 (0, 0))], [(b3, .cells #[.slice A path.length c] 23 (0, 0))], [(b7, .cells #[.pointer (some ⟨gs, 0, none⟩)] 128 (0, 0))], rowt, [(gs, .cells #[.int .u32 0, .int .i32 1, .int .u32 0, .int .u64 h0] 142 (0, 0))]]) ?_ hw; clear hw
  refine WC.held (CC F Γ [[(b2, .cells #[.pointer (some ⟨gt_, 0, none⟩)] 70 (0, 0))], [(b3, .cells #[.slice A path.length c] 23 (0, 0))], [(b7, .cells #[.pointer (some ⟨gs, 0, none⟩)] 128 (0, 0))]]) (by kernel_rfl) (fun w hw => hw.drawn _) ?_
  change WH _ _ _ _ (CC F Γ [[(b2, .cells #[.pointer (some ⟨gt_, 0, none⟩)] 70 (0, 0))], [(b3, .cells #[.slice A path.length c] 23 (0, 0))], [(b7, .cells #[.pointer (some ⟨gs, 0, none⟩)] 128 (0, 0))], rowt, [(gs, .cells #[.int .u32 0, .int .i32 1, .int .u32 0, .int .u64 h0] 142 (0, 0))]]) _ 7 #[false, false, false, false, false, false, false] _
  refine ht (i := 0) rfl (by kernel_rfl) rfl rfl rfl (fun w hw => hw.back (Gh.refl _) h00 (.cons_cons _ (.cons_cons _ (.cons_cons _ (.cons _ (.cons _ .slnil)))))) (q_ldl (i := 2) (v := .pointer (some ⟨gs, 0, none⟩)) rfl rfl Tryz.isAgg128 rfl rfl) ?_
  refine ht (i := 1) rfl (by kernel_rfl) rfl rfl rfl (fun w hw => hw.back (Gh.refl _) h00 (.cons_cons _ (.cons_cons _ (.cons_cons _ (.cons _ (.cons _ .slnil)))))) (q_ldl (i := 0) (v := .pointer (some ⟨gt_, 0, none⟩)) rfl rfl Tryz.isAgg70 rfl rfl) ?_
  refine ht (i := 2) rfl (by kernel_rfl) rfl rfl rfl (fun w hw => hw.back (Gh.refl _) h00 (.cons_cons _ (.cons_cons _ (.cons_cons _ (.cons _ (.cons _ .slnil)))))) (q_ldl (i := 1) (v := .slice A path.length c) rfl rfl Tryz.isAgg23 rfl rfl) ?_
  refine WH.lone (i := 3) (by kernel_rfl) rfl ?_
  refine e_call (is := [3]) rfl rfl (call_run Tryz.call90 rfl rfl (by kernel_rfl)) rfl (fun w hp => t_tree_Tree_reckon hH ht_ hpath hc hlen hp h) ?_
  rintro Γ1 U1 v1 hl1 ⟨rowt', rfl, rfl, hob, hu, -⟩
  change WR _ _ _ (CC F Γ1 [rowt', [(b2, .cells #[.pointer (some ⟨gt_, 0, none⟩)] 70 (0, 0))], [(b3, .cells #[.slice A path.length c] 23 (0, 0))], [(b7, .cells #[.pointer (some ⟨gs, 0, none⟩)] 128 (0, 0))], [(gs, .cells #[.int .u32 0, .int .i32 1, .int .u32 0, .int .u64 h0] 142 (0, 0))]]) _ _ (upd _ 6 (.int .u64 r.2))
  refine WR.nil ?_
  refine WH.next (fun w hw => hw.back hl1 h00 (.cons _ (.cons_cons _ (.cons_cons _ (.cons_cons _ (.cons _ .slnil)))))) ?_
  refine ht (i := 4) rfl (by kernel_rfl) rfl rfl rfl (fun w hw => hw.back hl1 h00 (.cons _ (.cons_cons _ (.cons_cons _ (.cons_cons _ (.cons _ .slnil)))))) (q_nil (A := some ⟨gs, 0, none⟩) rfl rfl rfl) ?_
  refine ht (i := 5) rfl (by kernel_rfl) rfl rfl rfl (fun w hw => hw.back hl1 h00 (.cons _ (.cons_cons _ (.cons_cons _ (.cons_cons _ (.cons _ .slnil)))))) (q_fl 3 fld_142_1 rfl rfl rfl) ?_
  refine WH.lone (i := 6) (by kernel_rfl) rfl ?_
  refine e_st (i := 4) (v := .int .u64 r.2) (new := #[.int .u32 0, .int .i32 1, .int .u32 0, .int .u64 r.2]) rfl Tryz.sizeOf67 rfl rfl rfl rfl (by kernel_rfl) rfl rfl rfl rfl ?_
  refine WR.nil ?_
  refine WH.next (fun w hw => hw.back hl1 h00 (.cons _ (.cons_cons _ (.cons_cons _ (.cons_cons _ (.cons _ .slnil)))))) ?_
  refine WH.done (by kernel_rfl) ?_
  intro w hw
  subst hF
  exact end_e (is := [1, 1, 1, 0, 0]) (by kernel_rfl) hw rfl ⟨rowt', rfl, rfl, hob, hu, trivial⟩
set_option maxRecDepth 100000 in
set_option maxHeartbeats 400000 in
theorem t_once {H : OTree → List Int → Option (OTree × Int)} (hH : HashC H) {Γ : Gh} {w0 : World} {gt_ : Nat} {et : TG} {rowt : Rowb} {t : OTree} (ht_ : OTree.ob et Γ gt_ rowt t) {A : Option Addr} {c : Nat} {path : List Int} (hpath : Sl intT Γ A path) (hc : path.length ≤ c) (hlen : ∀ p ∈ et.2, p.1.1 ≤ (path.length : Int)) {b2 b3 b7 gs : Nat} {h0 : Int}
    (hp : Pre [[(b2, .cells #[.pointer (some ⟨gt_, 0, none⟩)] 70 (0, 0))], [(b3, .cells #[.slice A path.length c] 23 (0, 0))], [(b7, .cells #[.pointer (some ⟨gs, 0, none⟩)] 128 (0, 0))], rowt, [(gs, .cells #[.int .u32 0, .int .i32 0, .int .u32 0, .int .u64 h0] 142 (0, 0))]] Γ w0) {r : OTree × Int} (h : m_tree_Tree_reckon H t path = some r) :
    Calls Tryz.prog 88 #[.pointer (some ⟨gs, 0, none⟩), .func (.func 89) #[] #[.pointer (some ⟨b2, 0, none⟩), .pointer (some ⟨b3, 0, none⟩), .pointer (some ⟨b7, 0, none⟩)]] w0 (Outc Γ [[(b2, .cells #[.pointer (some ⟨gt_, 0, none⟩)] 70 (0, 0))], [(b3, .cells #[.slice A path.length c] 23 (0, 0))], [(b7, .cells #[.pointer (some ⟨gs, 0, none⟩)] 128 (0, 0))], rowt, [(gs, .cells #[.int .u32 0, .int .i32 0, .int .u32 0, .int .u64 h0] 142 (0, 0))]] w0
      fun U Δ v => ∃ rowt' : Rowb, v = .tuple #[] ∧ U = [[(b2, .cells #[.pointer (some ⟨gt_, 0, none⟩)] 70 (0, 0))], [(b3, .cells #[.slice A path.length c] 23 (0, 0))], [(b7, .cells #[.pointer (some ⟨gs, 0, none⟩)] 128 (0, 0))], rowt', [(gs, .cells #[.int .u32 1, .int .i32 0, .int .u32 0, .int .u64 r.2] 142 (0, 0))]] ∧ OTree.ob et Δ gt_ rowt' r.1 ∧ U64 r.2 ∧ True) := by
  have hs : w0.heap[gs]? = some (.cells #[.int .u32 0, .int .i32 0, .int .u32 0, .int .u64 h0] 142 (0, 0)) := hp.loc [(gs, .cells #[.int .u32 0, .int .i32 0, .int .u32 0, .int .u64 h0] 142 (0, 0))] (by simp) (gs, .cells #[.int .u32 0, .int .i32 0, .int .u32 0, .int .u64 h0] 142 (0, 0)) (by simp)
  have c1 := hp.start.setCell (i := 4) (j := 1) (v := .int .i32 1) (g := gs) (cs := #[.int .u32 0, .int .i32 0, .int .u32 0, .int .u64 h0]) (new := #[.int .u32 0, .int .i32 1, .int .u32 0, .int .u64 h0]) (t := 142) rfl rfl
  have hcl := t_hash1 hH ht_ hpath hc hlen (b2 := b2) (b3 := b3) (b7 := b7) (gs := gs) (h0 := h0) c1.pre h
  refine (Once.do_first gs 89 #[.pointer (some ⟨b2, 0, none⟩), .pointer (some ⟨b3, 0, none⟩), .pointer (some ⟨b7, 0, none⟩)] (fun w2 => ∃ (Δ : Gh) (rowt' : Rowb), Eff Γ Δ [[(b2, .cells #[.pointer (some ⟨gt_, 0, none⟩)] 70 (0, 0))], [(b3, .cells #[.slice A path.length c] 23 (0, 0))], [(b7, .cells #[.pointer (some ⟨gs, 0, none⟩)] 128 (0, 0))], rowt, [(gs, .cells #[.int .u32 0, .int .i32 1, .int .u32 0, .int .u64 h0] 142 (0, 0))]]
    [[(b2, .cells #[.pointer (some ⟨gt_, 0, none⟩)] 70 (0, 0))], [(b3, .cells #[.slice A path.length c] 23 (0, 0))], [(b7, .cells #[.pointer (some ⟨gs, 0, none⟩)] 128 (0, 0))], rowt', [(gs, .cells #[.int .u32 0, .int .i32 1, .int .u32 0, .int .u64 r.2] 142 (0, 0))]] (w0.setCell ⟨gs, 1, none⟩ (.int .i32 1)) w2 ∧ OTree.ob et Δ gt_ rowt' r.1 ∧ U64 r.2) w0 ?_ ?_ ?_ Tryz.call89 (hcl.mono ?_) ?_).mono ?_
  · rw [cell_of_row _ _ _ _ _ _ hs]; rfl
  · rw [cell_of_row _ _ _ _ _ _ hs]; rfl
  · simp [World.frozen?, hs]
  · rintro e w2 ⟨v, rfl, Δ, U', he, rowt', rfl, rfl, hob, hu, -⟩
    exact ⟨rfl, Δ, rowt', he, hob, hu⟩
  · rintro w2 ⟨Δ, rowt', he, hob, hu⟩
    have hb : w2.heap[gs]? = some (.cells #[.int .u32 0, .int .i32 1, .int .u32 0, .int .u64 r.2] 142 (0, 0)) := he.loc [(gs, .cells #[.int .u32 0, .int .i32 1, .int .u32 0, .int .u64 r.2] 142 (0, 0))] (by simp) (gs, .cells #[.int .u32 0, .int .i32 1, .int .u32 0, .int .u64 r.2] 142 (0, 0)) (by simp)
    exact ⟨by rw [cell_of_row _ _ _ _ _ _ hb]; rfl, by rw [cell_of_row _ _ _ _ _ _ hb]; rfl, by simp [World.frozen?, hb], by simp [World.frozen?, hb]⟩
  · rintro e w' ⟨rfl, w2, ⟨Δ, rowt', he, hob, hu⟩, rfl⟩
    have c2 := Cur.eff (R := []) c1 he
    have c3 := c2.drew.setCell (i := 4) (j := 0) (v := .int .u32 1) (g := gs) (cs := #[.int .u32 0, .int .i32 1, .int .u32 0, .int .u64 r.2]) (new := #[.int .u32 1, .int .i32 1, .int .u32 0, .int .u64 r.2]) (t := 142) rfl rfl
    have c4 := c3.setCell (i := 4) (j := 1) (v := .int .i32 0) (g := gs) (cs := #[.int .u32 1, .int .i32 1, .int .u32 0, .int .u64 r.2]) (new := #[.int .u32 1, .int .i32 0, .int .u32 0, .int .u64 r.2]) (t := 142) rfl rfl
    exact ⟨_, rfl, Δ, _, c4.toEff, rowt', rfl, rfl, hob, hu, trivial⟩
set_option maxRecDepth 100000 in
set_option maxHeartbeats 400000 in
theorem t_hash_step {H : OTree → List Int → Option (OTree × Int)} (hH : HashC H) : HashC (m_hashB H) := by
  intro Γ w0 gt_ et rowt t ht_ A c path hpath hc hlen hp r h
  refine calls_of (N := 40) (rs := [4]) (args := [.pointer (some ⟨gt_, 0, none⟩), .slice A path.length c]) Tryz.func63 rfl Tryz.ntmps63 Tryz.results63 rfl ?_
  obtain ⟨F, hF⟩ : ∃ F : Fm, F = ⟨ids [rowt], w0, Γ⟩ := ⟨_, rfl⟩
  refine WC.here (C := CC F Γ [rowt]) ?_ (hF ▸ hp.start)
  refine WC.rs ?_
  refine e_box (v := .pointer (some ⟨gt_, 0, none⟩)) rfl rfl rfl rfl (by kernel_rfl) ?_
  intro b2
  refine e_box (v := .slice A path.length c) rfl rfl rfl rfl (by kernel_rfl) ?_
  intro b3
  refine va rfl rfl rfl (q_assign (v := .int .u64 0) rfl (by kernel_rfl)) ?_
  refine WR.nil ?_
  change WC _ _ _ _ _ _
  refine WC.rs ?_
  refine va rfl rfl rfl (q_ldl (i := 0) (v := .slice A path.length c) rfl rfl Tryz.isAgg23 rfl rfl) ?_
  obtain ⟨z1, hz2, h⟩ := bnd h
  refine vc rfl rfl rfl (q_call (call_run Tryz.call62 rfl rfl (by kernel_rfl)) (fun w hw => t_tree_at (Γ := Gh.all w) (hpath.mono hw.sat.le_all) hc (Sat.all w) hz2)) ?_
  refine va rfl rfl rfl (q_move (v := .tuple #[.agg #[.int .i64 z1.1.1, .int .i64 z1.1.2.1, .int .i64 z1.1.2.2], .bool z1.2]) rfl (by kernel_rfl)) ?_
  refine va rfl rfl rfl (q_extract (v := .agg #[.int .i64 z1.1.1, .int .i64 z1.1.2.1, .int .i64 z1.1.2.2]) rfl rfl rfl) ?_
  refine va rfl rfl rfl (q_extract (v := .bool z1.2) rfl rfl rfl) ?_
  refine e_alloc Tryz.zeroValue107 rfl rfl rfl rfl ?_
  intro g5
  refine e_st (i := 0) (v := .agg #[.int .i64 z1.1.1, .int .i64 z1.1.2.1, .int .i64 z1.1.2.2]) (new := #[.int .i64 z1.1.1, .int .i64 z1.1.2.1, .int .i64 z1.1.2.2]) rfl Tryz.sizeOf107 rfl rfl rfl rfl (by kernel_rfl) rfl rfl rfl rfl ?_
  refine va rfl rfl rfl (q_assign (v := .bool z1.2) rfl (by kernel_rfl)) ?_
  refine WR.nil ?_
  change WC _ _ _ _ _ _
  refine WC.seq ?_
  refine WC.rs ?_
  refine va rfl rfl rfl (q_move (v := .bool z1.2) rfl (by kernel_rfl)) ?_
  refine va rfl rfl rfl (q_not rfl rfl) ?_
  refine WR.nil ?_
  change WC _ _ _ _ _ _
  refine WC.cif h (by kernel_rfl) (fun hb7 h => ?_) (fun hb7 h => ?_)
  · skip
    refine WC.rs ?_
    refine va rfl rfl rfl (q_assign (v := .int .u64 0) rfl (by kernel_rfl)) ?_
    refine WR.nil ?_
    change WC _ _ _ _ _ _
    refine WC.ret ?_
    intro w hw
    obtain rfl := Option.some.inj h
    subst hF
    exact end_e (is := [3]) (by kernel_rfl) hw rfl ⟨rowt, rfl, rfl, ht_, (show U64 0 by decide), trivial⟩
  skip
  refine WC.skip ?_
  change WC _ _ _ _ _ _
  obtain ⟨hk1, h⟩ := chk_some h
  obtain ⟨hk2, h⟩ := chk_some h
  obtain ⟨hk3, h⟩ := chk_some h
  have hq := ht_
  obtain ⟨cs, rowL, sm, rowS, hrow, hM, hl, hS, -⟩ := hq
  have hx : ∀ p ∈ et.2, p.1 ≠ z1.1 := fun p hp e => by
    have h9 := hlen p hp
    rw [e, of_decide_eq_true hk1] at h9
    omega
  have hblk : (gt_, Obj.cells (cs ++ [Value.map (some sm)]).toArray et.1 (0, 0)) ∈ rowt := hrow ▸ List.mem_flatten.2 ⟨([(gt_, .cells (cs ++ [Value.map (some sm)]).toArray et.1 (0, 0))] : Rowb), List.mem_cons_self .., List.mem_singleton.2 rfl⟩
  rcases hS.look hx (.pointer none) with ⟨hv, gs, rowM, B, hm, hu, hrS, hsum, hat⟩ | ⟨hm, own, rowM, ho1, ho2, hon, hrS, hat⟩
  · simp only [hm] at h
    have hmM : ∀ p ∈ rowM, p ∈ rowt := fun p hp => hrow ▸ List.mem_flatten.2 ⟨rowS, by simp, by rw [hrS]; exact List.mem_append_left _ hp⟩
    have hsum' : (gs, Obj.cells #[.int .u32 1, .int .i32 0, .int .u32 0, .int .u64 hv] 142 (0, 0)) ∈ rowt := hrow ▸ List.mem_flatten.2 ⟨rowS, by simp, hsum⟩
    refine WC.seq ?_
    intro w hw; have h00 := hw.le
    refine WC.here (C := CC F Γ [[(g5, .cells #[.int .i64 z1.1.1, .int .i64 z1.1.2.1, .int .i64 z1.1.2.2] 107 (0, 0))], [(b3, .cells #[.slice A path.length c] 23 (0, 0))], [(b2, .cells #[.pointer (some ⟨gt_, 0, none⟩)] 70 (0, 0))], rowt]) ?_ hw; clear hw
    refine WC.held (CC F Γ [[(g5, .cells #[.int .i64 z1.1.1, .int .i64 z1.1.2.1, .int .i64 z1.1.2.2] 107 (0, 0))], [(b3, .cells #[.slice A path.length c] 23 (0, 0))], [(b2, .cells #[.pointer (some ⟨gt_, 0, none⟩)] 70 (0, 0))], rowt]) (by kernel_rfl) (fun w hw => hw.drawn _) ?_
    change WH _ _ _ _ (CC F Γ [[(g5, .cells #[.int .i64 z1.1.1, .int .i64 z1.1.2.1, .int .i64 z1.1.2.2] 107 (0, 0))], [(b3, .cells #[.slice A path.length c] 23 (0, 0))], [(b2, .cells #[.pointer (some ⟨gt_, 0, none⟩)] 70 (0, 0))], rowt]) _ 8 #[false, false, false, false, false, false, false, false] _
    refine ht (i := 0) rfl (by kernel_rfl) rfl rfl rfl (fun w hw => hw) (q_ldl (i := 2) (v := .pointer (some ⟨gt_, 0, none⟩)) rfl rfl Tryz.isAgg70 rfl rfl) ?_
    refine ht (i := 1) rfl (by kernel_rfl) rfl rfl rfl (fun w hw => hw) (q_nil (A := some ⟨gt_, 0, none⟩) rfl rfl rfl) ?_
    refine ht (i := 2) rfl (by kernel_rfl) rfl rfl rfl (fun w hw => hw) (q_fl 256 fld_105_1 rfl rfl rfl) ?_
    refine ht (i := 3) rfl (by kernel_rfl) rfl rfl rfl (fun w hw => hw) (q_ldr (i := 3) (v := .map (some sm)) rfl hblk rfl Tryz.isAgg100 rfl (blk_end (hM.len.trans hl))) ?_
    refine ht (i := 4) rfl (by kernel_rfl) rfl rfl rfl (fun w hw => hw) (q_ldla (i := 0) (vs := [.int .i64 z1.1.1, .int .i64 z1.1.2.1, .int .i64 z1.1.2.2]) rfl rfl Tryz.isAgg107 Tryz.sizeOf107 rfl rfl) ?_
    refine ht (i := 5) rfl (by kernel_rfl) rfl rfl rfl (fun w hw => hw) (q_lookup1r (row := rowM) (x := z1.1) (v := .pointer (some ⟨gs, 0, none⟩)) (fun w hw p hp => hw.at_ (i := 3) rfl (hmM p hp)) hat rfl Tryz.underlying100 Tryz.zeroValue128 rfl rfl) ?_
    refine WH.lone (i := 6) (by kernel_rfl) rfl ?_
    refine e_alloc Tryz.zeroValue128 rfl rfl rfl rfl ?_
    intro b7
    refine WR.nil ?_
    refine WH.next (fun w hw => hw.back (Gh.refl _) h00 (.cons _ (.cons_cons _ (.cons_cons _ (.cons_cons _ (.cons_cons _ .slnil)))))) ?_
    refine WH.lone (i := 7) (by kernel_rfl) rfl ?_
    refine e_st (i := 0) (v := .pointer (some ⟨gs, 0, none⟩)) (new := #[.pointer (some ⟨gs, 0, none⟩)]) rfl Tryz.sizeOf128 rfl rfl rfl rfl (by kernel_rfl) rfl rfl rfl rfl ?_
    refine WR.nil ?_
    refine WH.next (fun w hw => hw.back (Gh.refl _) h00 (.cons _ (.cons_cons _ (.cons_cons _ (.cons_cons _ (.cons_cons _ .slnil)))))) ?_
    refine WH.done (by kernel_rfl) ?_
    change WC _ _ _ _ _ _
    refine WC.seq ?_
    refine WC.rs ?_
    refine va rfl rfl rfl (q_ldl (i := 0) (v := .pointer (some ⟨gs, 0, none⟩)) rfl rfl Tryz.isAgg128 rfl rfl) ?_
    refine va rfl rfl rfl (q_ptr_eql (a := some ⟨gs, 0, none⟩) Tryz.underlying128 rfl rfl rfl) ?_
    refine WR.nil ?_
    change WC _ _ _ _ _ _
    refine WC.cfk (b := false) (by kernel_rfl) rfl ?_
    refine WC.skip ?_
    change WC _ _ _ _ _ _
    refine WC.rs ?_
    refine va rfl rfl rfl (q_ldl (i := 0) (v := .pointer (some ⟨gs, 0, none⟩)) rfl rfl Tryz.isAgg128 rfl rfl) ?_
    refine va rfl rfl rfl (q_nil (A := some ⟨gs, 0, none⟩) rfl rfl rfl) ?_
    refine va rfl rfl rfl (q_fl 0 fld_142_0 rfl rfl rfl) ?_
    refine va rfl rfl rfl (q_mkfn (v := .func (.func 89) #[] #[.pointer (some ⟨b2, 0, none⟩), .pointer (some ⟨b3, 0, none⟩), .pointer (some ⟨b7, 0, none⟩)]) rfl (by kernel_rfl)) ?_
    refine vc rfl rfl rfl (q_call (v := .tuple #[]) (call_run (args := #[.pointer (some ⟨gs, 0, none⟩), .func (.func 89) #[] #[.pointer (some ⟨b2, 0, none⟩), .pointer (some ⟨b3, 0, none⟩), .pointer (some ⟨b7, 0, none⟩)]]) Tryz.call88 rfl rfl (by kernel_rfl)) (fun w hw => (Once.do_done ⟨gs, 0, none⟩ _ w ((cell_of_row w gs 0 _ _ _ (hw.at_ (i := 4) rfl hsum')).trans rfl)).mono fun e w' ⟨he, hw'⟩ => ⟨he, hw' ▸ Fr.refl _ _⟩)) ?_
    refine WR.nil ?_
    change WC _ _ _ _ _ _
    refine WC.rs ?_
    refine va rfl rfl rfl (q_ldl (i := 0) (v := .pointer (some ⟨gs, 0, none⟩)) rfl rfl Tryz.isAgg128 rfl rfl) ?_
    refine va rfl rfl rfl (q_nil (A := some ⟨gs, 0, none⟩) rfl rfl rfl) ?_
    refine va rfl rfl rfl (q_fl 3 fld_142_1 rfl rfl rfl) ?_
    refine va rfl rfl rfl (q_ldr (i := 4) (v := .int .u64 hv) rfl hsum' rfl Tryz.isAgg67 rfl rfl) ?_
    refine va rfl rfl rfl (q_assign (v := .int .u64 hv) rfl (by kernel_rfl)) ?_
    refine WR.nil ?_
    change WC _ _ _ _ _ _
    refine WC.ret ?_
    intro w hw
    obtain rfl := Option.some.inj h
    subst hF
    exact end_e (is := [4]) (by kernel_rfl) hw rfl ⟨rowt, rfl, rfl, ht_, hu, trivial⟩
  · simp only [hm] at h
    obtain ⟨z, hz, h⟩ := bnd h
    have hmM : ∀ p ∈ rowM, p ∈ rowt := fun p hp => hrow ▸ List.mem_flatten.2 ⟨rowS, by simp, by rw [hrS]; exact List.mem_append_left _ hp⟩
    obtain ⟨B, hB⟩ : ∃ B, B = List.zipWith (fun a b => sumO 142 a.2 b.2) own t.sums := ⟨_, rfl⟩
    have hrow4 : rowt = ([[(gt_, .cells (cs ++ [Value.map (some sm)]).toArray et.1 (0, 0))], rowL, rowM, B] : List Rowb).flatten := by rw [hrow, hrS, hB]; simp only [List.flatten_cons, List.flatten_nil, List.append_nil, List.append_assoc]
    refine WC.seq ?_
    intro w hw; have h00 := hw.le
    refine WC.here (C := CC F Γ [[(g5, .cells #[.int .i64 z1.1.1, .int .i64 z1.1.2.1, .int .i64 z1.1.2.2] 107 (0, 0))], [(b3, .cells #[.slice A path.length c] 23 (0, 0))], [(b2, .cells #[.pointer (some ⟨gt_, 0, none⟩)] 70 (0, 0))], rowt]) ?_ hw; clear hw
    refine WC.held (CC F Γ [[(g5, .cells #[.int .i64 z1.1.1, .int .i64 z1.1.2.1, .int .i64 z1.1.2.2] 107 (0, 0))], [(b3, .cells #[.slice A path.length c] 23 (0, 0))], [(b2, .cells #[.pointer (some ⟨gt_, 0, none⟩)] 70 (0, 0))], rowt]) (by kernel_rfl) (fun w hw => hw.drawn _) ?_
    change WH _ _ _ _ (CC F Γ [[(g5, .cells #[.int .i64 z1.1.1, .int .i64 z1.1.2.1, .int .i64 z1.1.2.2] 107 (0, 0))], [(b3, .cells #[.slice A path.length c] 23 (0, 0))], [(b2, .cells #[.pointer (some ⟨gt_, 0, none⟩)] 70 (0, 0))], rowt]) _ 8 #[false, false, false, false, false, false, false, false] _
    refine ht (i := 0) rfl (by kernel_rfl) rfl rfl rfl (fun w hw => hw) (q_ldl (i := 2) (v := .pointer (some ⟨gt_, 0, none⟩)) rfl rfl Tryz.isAgg70 rfl rfl) ?_
    refine ht (i := 1) rfl (by kernel_rfl) rfl rfl rfl (fun w hw => hw) (q_nil (A := some ⟨gt_, 0, none⟩) rfl rfl rfl) ?_
    refine ht (i := 2) rfl (by kernel_rfl) rfl rfl rfl (fun w hw => hw) (q_fl 256 fld_105_1 rfl rfl rfl) ?_
    refine ht (i := 3) rfl (by kernel_rfl) rfl rfl rfl (fun w hw => hw) (q_ldr (i := 3) (v := .map (some sm)) rfl hblk rfl Tryz.isAgg100 rfl (blk_end (hM.len.trans hl))) ?_
    refine ht (i := 4) rfl (by kernel_rfl) rfl rfl rfl (fun w hw => hw) (q_ldla (i := 0) (vs := [.int .i64 z1.1.1, .int .i64 z1.1.2.1, .int .i64 z1.1.2.2]) rfl rfl Tryz.isAgg107 Tryz.sizeOf107 rfl rfl) ?_
    refine ht (i := 5) rfl (by kernel_rfl) rfl rfl rfl (fun w hw => hw) (q_lookup1r (row := rowM) (x := z1.1) (v := .pointer none) (fun w hw p hp => hw.at_ (i := 3) rfl (hmM p hp)) hat rfl Tryz.underlying100 Tryz.zeroValue128 rfl rfl) ?_
    refine WH.lone (i := 6) (by kernel_rfl) rfl ?_
    refine e_alloc Tryz.zeroValue128 rfl rfl rfl rfl ?_
    intro b7
    refine WR.nil ?_
    refine WH.next (fun w hw => hw.back (Gh.refl _) h00 (.cons _ (.cons_cons _ (.cons_cons _ (.cons_cons _ (.cons_cons _ .slnil)))))) ?_
    refine WH.lone (i := 7) (by kernel_rfl) rfl ?_
    refine e_st (i := 0) (v := .pointer none) (new := #[.pointer none]) rfl Tryz.sizeOf128 rfl rfl rfl rfl (by kernel_rfl) rfl rfl rfl rfl ?_
    refine WR.nil ?_
    refine WH.next (fun w hw => hw.back (Gh.refl _) h00 (.cons _ (.cons_cons _ (.cons_cons _ (.cons_cons _ (.cons_cons _ .slnil)))))) ?_
    refine WH.done (by kernel_rfl) ?_
    change WC _ _ _ _ _ _
    refine WC.seq ?_
    refine WC.rs ?_
    refine va rfl rfl rfl (q_ldl (i := 0) (v := .pointer none) rfl rfl Tryz.isAgg128 rfl rfl) ?_
    refine va rfl rfl rfl (q_ptr_eql (a := none) Tryz.underlying128 rfl rfl rfl) ?_
    refine WR.nil ?_
    change WC _ _ _ _ _ _
    refine WC.ctk (b := true) (by kernel_rfl) rfl ?_
    refine WC.rs ?_
    refine va rfl rfl rfl (q_build (v := .agg #[.int .u32 0, .int .i32 0, .int .u32 0, .int .u64 0]) rfl (fun w => by kernel_rfl)) ?_
    refine e_box (v := .agg #[.int .u32 0, .int .i32 0, .int .u32 0, .int .u64 0]) rfl rfl rfl rfl (by kernel_rfl) ?_
    intro gs
    refine e_st (i := 1) (v := .pointer (some ⟨gs, 0, none⟩)) (new := #[.pointer (some ⟨gs, 0, none⟩)]) rfl Tryz.sizeOf128 rfl rfl rfl rfl (by kernel_rfl) rfl rfl rfl rfl ?_
    refine WR.nil ?_
    change WC _ _ _ _ _ _
    intro w hw; have hw := hw.unfold (i := 5) rfl hrow4; have h01 := hw.le
    refine WC.here (C := CC F Γ [[(gt_, .cells (cs ++ [Value.map (some sm)]).toArray et.1 (0, 0))], rowL, rowM, B, [(gs, .cells #[.int .u32 0, .int .i32 0, .int .u32 0, .int .u64 0] 142 (0, 0))], [(b7, .cells #[.pointer (some ⟨gs, 0, none⟩)] 128 (0, 0))], [(g5, .cells #[.int .i64 z1.1.1, .int .i64 z1.1.2.1, .int .i64 z1.1.2.2] 107 (0, 0))], [(b3, .cells #[.slice A path.length c] 23 (0, 0))], [(b2, .cells #[.pointer (some ⟨gt_, 0, none⟩)] 70 (0, 0))]]) ?_ hw; clear hw
    refine WC.held (CC F Γ [[(gt_, .cells (cs ++ [Value.map (some sm)]).toArray et.1 (0, 0))], [(b7, .cells #[.pointer (some ⟨gs, 0, none⟩)] 128 (0, 0))], [(g5, .cells #[.int .i64 z1.1.1, .int .i64 z1.1.2.1, .int .i64 z1.1.2.2] 107 (0, 0))], [(b2, .cells #[.pointer (some ⟨gt_, 0, none⟩)] 70 (0, 0))]]) (by kernel_rfl) (fun w hw => hw.drawn _) ?_
    change WH _ _ _ _ (CC F Γ [[(gt_, .cells (cs ++ [Value.map (some sm)]).toArray et.1 (0, 0))], rowL, rowM, B, [(gs, .cells #[.int .u32 0, .int .i32 0, .int .u32 0, .int .u64 0] 142 (0, 0))], [(b7, .cells #[.pointer (some ⟨gs, 0, none⟩)] 128 (0, 0))], [(g5, .cells #[.int .i64 z1.1.1, .int .i64 z1.1.2.1, .int .i64 z1.1.2.2] 107 (0, 0))], [(b3, .cells #[.slice A path.length c] 23 (0, 0))], [(b2, .cells #[.pointer (some ⟨gt_, 0, none⟩)] 70 (0, 0))]]) _ 7 #[false, false, false, false, false, false, false] _
    refine ht (i := 0) rfl (by kernel_rfl) rfl rfl rfl (fun w hw => hw.back (Gh.refl _) h01 (.cons_cons _ (.cons _ (.cons _ (.cons _ (.cons _ (.cons_cons _ (.cons_cons _ (.cons _ (.cons_cons _ .slnil)))))))))) (q_ldl (i := 3) (v := .pointer (some ⟨gt_, 0, none⟩)) rfl rfl Tryz.isAgg70 rfl rfl) ?_
    refine ht (i := 1) rfl (by kernel_rfl) rfl rfl rfl (fun w hw => hw.back (Gh.refl _) h01 (.cons_cons _ (.cons _ (.cons _ (.cons _ (.cons _ (.cons_cons _ (.cons_cons _ (.cons _ (.cons_cons _ .slnil)))))))))) (q_nil (A := some ⟨gt_, 0, none⟩) rfl rfl rfl) ?_
    refine ht (i := 2) rfl (by kernel_rfl) rfl rfl rfl (fun w hw => hw.back (Gh.refl _) h01 (.cons_cons _ (.cons _ (.cons _ (.cons _ (.cons _ (.cons_cons _ (.cons_cons _ (.cons _ (.cons_cons _ .slnil)))))))))) (q_fl 256 fld_105_1 rfl rfl rfl) ?_
    refine ht (i := 3) rfl (by kernel_rfl) rfl rfl rfl (fun w hw => hw.back (Gh.refl _) h01 (.cons_cons _ (.cons _ (.cons _ (.cons _ (.cons _ (.cons_cons _ (.cons_cons _ (.cons _ (.cons_cons _ .slnil)))))))))) (q_ldAe (i := 0) (cs := cs) rfl (hM.len.trans hl) rfl Tryz.isAgg100 rfl) ?_
    refine ht (i := 4) rfl (by kernel_rfl) rfl rfl rfl (fun w hw => hw.back (Gh.refl _) h01 (.cons_cons _ (.cons _ (.cons _ (.cons _ (.cons _ (.cons_cons _ (.cons_cons _ (.cons _ (.cons_cons _ .slnil)))))))))) (q_ldla (i := 2) (vs := [.int .i64 z1.1.1, .int .i64 z1.1.2.1, .int .i64 z1.1.2.2]) rfl rfl Tryz.isAgg107 Tryz.sizeOf107 rfl rfl) ?_
    refine ht (i := 5) rfl (by kernel_rfl) rfl rfl rfl (fun w hw => hw.back (Gh.refl _) h01 (.cons_cons _ (.cons _ (.cons _ (.cons _ (.cons _ (.cons_cons _ (.cons_cons _ (.cons _ (.cons_cons _ .slnil)))))))))) (q_ldl (i := 1) (v := .pointer (some ⟨gs, 0, none⟩)) rfl rfl Tryz.isAgg128 rfl rfl) ?_
    refine WH.lone (i := 6) (by kernel_rfl) rfl ?_
    refine e_mapUpdate (i := 2) (x := z1.1) (v := .pointer (some ⟨gs, 0, none⟩)) (a := gs) rfl rfl rfl Tryz.underlying100 rfl rfl (by kernel_rfl) rfl ho2 rfl ⟨by rw [of_decide_eq_true hk1]; exact len_r hpath.le, i64b_of hk2, i64b_of hk3⟩ ?_
    intro rowM' hM'
    refine WR.nil ?_
    refine WH.next (fun w hw => hw.back (Gh.refl _) h01 (.cons_cons _ (.cons _ (.cons _ (.cons _ (.cons _ (.cons_cons _ (.cons_cons _ (.cons _ (.cons_cons _ .slnil)))))))))) ?_
    refine WH.done (by kernel_rfl) ?_
    change WC _ _ _ _ _ _
    have hob1 : OTree.ob (et.1, (z1.1, gs) :: et.2) Γ gt_ ([[(gt_, .cells (cs ++ [Value.map (some sm)]).toArray et.1 (0, 0))], rowL, rowM', B] : List Rowb).flatten t := by
      refine ⟨cs, rowL, sm, rowM' ++ B, by simp only [List.flatten_cons, List.flatten_nil, List.append_nil, List.append_assoc], hM, hl, ?_, trivial⟩
      rw [hB]; exact Sums.lend ho1 hM' hon hS.ok
    obtain ⟨rowt1, hr1⟩ : ∃ rw : Rowb, rw = ([[(gt_, .cells (cs ++ [Value.map (some sm)]).toArray et.1 (0, 0))], rowL, rowM', B] : List Rowb).flatten := ⟨_, rfl⟩
    rw [← hr1] at hob1
    intro w hw; have hw := hw.fold (is := [0, 0, 0, 0]) (row := rowt1) rfl hr1
    refine WC.here (C := CC F Γ [rowt1, [(gs, .cells #[.int .u32 0, .int .i32 0, .int .u32 0, .int .u64 0] 142 (0, 0))], [(b7, .cells #[.pointer (some ⟨gs, 0, none⟩)] 128 (0, 0))], [(g5, .cells #[.int .i64 z1.1.1, .int .i64 z1.1.2.1, .int .i64 z1.1.2.2] 107 (0, 0))], [(b3, .cells #[.slice A path.length c] 23 (0, 0))], [(b2, .cells #[.pointer (some ⟨gt_, 0, none⟩)] 70 (0, 0))]]) ?_ hw; clear hw
    have hlen1 : ∀ p ∈ (et.1, (z1.1, gs) :: et.2).2, p.1.1 ≤ (path.length : Int) := fun p hp => by
      rcases List.mem_cons.1 hp with h9 | h9
      · rw [h9, of_decide_eq_true hk1]; exact Int.le_refl _
      · exact Int.le_of_lt (hlen p h9)
    refine WC.rs ?_
    refine va rfl rfl rfl (q_ldl (i := 2) (v := .pointer (some ⟨gs, 0, none⟩)) rfl rfl Tryz.isAgg128 rfl rfl) ?_
    refine va rfl rfl rfl (q_nil (A := some ⟨gs, 0, none⟩) rfl rfl rfl) ?_
    refine va rfl rfl rfl (q_fl 0 fld_142_0 rfl rfl rfl) ?_
    refine va rfl rfl rfl (q_mkfn (v := .func (.func 89) #[] #[.pointer (some ⟨b2, 0, none⟩), .pointer (some ⟨b3, 0, none⟩), .pointer (some ⟨b7, 0, none⟩)]) rfl (by kernel_rfl)) ?_
    refine e_call (is := [5, 4, 2, 0, 0]) rfl rfl (call_run (args := #[.pointer (some ⟨gs, 0, none⟩), .func (.func 89) #[] #[.pointer (some ⟨b2, 0, none⟩), .pointer (some ⟨b3, 0, none⟩), .pointer (some ⟨b7, 0, none⟩)]]) Tryz.call88 rfl rfl (by kernel_rfl)) rfl (fun w hp => t_once hH hob1 hpath hc hlen1 hp hz) ?_
    rintro Γ1 U1 v1 hl1 ⟨rowt2, rfl, rfl, hob2, hu2, -⟩
    change WR _ _ _ (CC F Γ1 [[(b2, .cells #[.pointer (some ⟨gt_, 0, none⟩)] 70 (0, 0))], [(b3, .cells #[.slice A path.length c] 23 (0, 0))], [(b7, .cells #[.pointer (some ⟨gs, 0, none⟩)] 128 (0, 0))], rowt2, [(gs, .cells #[.int .u32 1, .int .i32 0, .int .u32 0, .int .u64 z.2] 142 (0, 0))], [(g5, .cells #[.int .i64 z1.1.1, .int .i64 z1.1.2.1, .int .i64 z1.1.2.2] 107 (0, 0))]]) _ _ (upd _ 35 (.tuple #[]))
    refine WR.nil ?_
    change WC _ _ _ _ _ _
    refine WC.rs ?_
    refine va rfl rfl rfl (q_ldl (i := 2) (v := .pointer (some ⟨gs, 0, none⟩)) rfl rfl Tryz.isAgg128 rfl rfl) ?_
    refine va rfl rfl rfl (q_nil (A := some ⟨gs, 0, none⟩) rfl rfl rfl) ?_
    refine va rfl rfl rfl (q_fl 3 fld_142_1 rfl rfl rfl) ?_
    refine va rfl rfl rfl (q_ldl (i := 4) (v := .int .u64 z.2) rfl rfl Tryz.isAgg67 rfl rfl) ?_
    refine va rfl rfl rfl (q_assign (v := .int .u64 z.2) rfl (by kernel_rfl)) ?_
    refine WR.nil ?_
    change WC _ _ _ _ _ _
    refine WC.ret ?_
    intro w hw
    have hw := hw.fold (is := [3, 3]) (row := rowt2 ++ [sumO 142 gs z.2]) rfl (by simp [pkU]; rfl)
    obtain rfl := Option.some.inj h
    subst hF
    exact end_e (is := [0]) (by kernel_rfl) hw rfl ⟨rowt2 ++ [sumO 142 gs z.2], rfl, rfl, OTree.back hob2 hu2, hu2, trivial⟩
theorem t_hashN (n : Nat) : HashC (m_hashN n) := by
  induction n with
  | zero => intro Γ w0 gt_ et rowt t ht_ A c path hpath hc hlen hp r h; exact absurd h (by simp [m_hashN])
  | succ n ih => exact t_hash_step ih

theorem t_HashC : HashC m_tree_Tree_Hash := by
  exact t_hashN 3

abbrev r_tree_Differ (r : List Int) (U : List Rowb) (Γ : Gh) (v : Value) : Prop := ∃ (A0 : Option Addr), ∃ (c0 : Nat), ∃ (row0 : Rowb), v = .slice A0 r.length c0 ∧ U = [row0] ∧ Own intT Γ 3 row0 A0 c0 r ∧ True
set_option maxRecDepth 100000 in
set_option maxHeartbeats 400000 in
theorem t_tree_Differ {Γ : Gh} {w0 : World} {Aa : Option Addr} {ca : Nat} {a : List Int} (ha : Sl u64T Γ Aa a) (hac : a.length ≤ ca) {Ab : Option Addr} {cb : Nat} {b : List Int} (hb : Sl u64T Γ Ab b) (hbc : b.length ≤ cb) (hp : Pre [] Γ w0) {r : List Int} (h : m_tree_Differ a b = some r) : Calls Tryz.prog 43 #[.slice Aa a.length ca, .slice Ab b.length cb] w0 (Outc Γ [] w0 (r_tree_Differ r)) := by
  refine calls_of (N := 31) (rs := [4]) (args := [.slice Aa a.length ca, .slice Ab b.length cb]) Tryz.func43 rfl Tryz.ntmps43 Tryz.results43 rfl ?_
  obtain ⟨F, hF⟩ : ∃ F : Fm, F = ⟨ids [], w0, Γ⟩ := ⟨_, rfl⟩
  refine WC.here (C := CC F Γ []) ?_ (hF ▸ hp.start)
  refine WC.rs ?_
  refine va rfl rfl rfl (q_assign (v := .slice none 0 0) rfl (by kernel_rfl)) ?_
  refine WR.nil ?_
  change WC _ _ _ _ _ _
  refine WC.rs ?_
  refine e_alloc Tryz.zeroValue113 rfl rfl rfl rfl ?_
  intro g1
  have ho2 : Own u64T Γ 113 [(g1, .cells #[.int .u64 0, .int .u64 0, .int .u64 0, .int .u64 0, .int .u64 0, .int .u64 0, .int .u64 0, .int .u64 0, .int .u64 0, .int .u64 0, .int .u64 0, .int .u64 0, .int .u64 0, .int .u64 0, .int .u64 0, .int .u64 0] 113 (0, 0))] (some ⟨g1, 0, none⟩) 16 (List.replicate 16 0) := own_zero (T := u64T) 16 [.int .u64 0] 0 rfl ⟨rfl, (show U64 0 by decide)⟩ (by decide)
  refine e_alloc Tryz.zeroValue113 rfl rfl rfl rfl ?_
  intro g3
  have ho4 : Own u64T Γ 113 [(g3, .cells #[.int .u64 0, .int .u64 0, .int .u64 0, .int .u64 0, .int .u64 0, .int .u64 0, .int .u64 0, .int .u64 0, .int .u64 0, .int .u64 0, .int .u64 0, .int .u64 0, .int .u64 0, .int .u64 0, .int .u64 0, .int .u64 0] 113 (0, 0))] (some ⟨g3, 0, none⟩) 16 (List.replicate 16 0) := own_zero (T := u64T) 16 [.int .u64 0] 0 rfl ⟨rfl, (show U64 0 by decide)⟩ (by decide)
  refine WR.nil ?_
  change WC _ _ _ _ _ _
  refine WC.rs ?_
  refine va rfl rfl rfl (q_slarr Tryz.underlying113 Tryz.sizeOf67 rfl rfl) ?_
  refine va rfl rfl rfl (q_move (v := .slice Aa a.length ca) rfl (by kernel_rfl)) ?_
  refine e_copy (T := u64T) (xs := (List.replicate 16 0)) (ys := a) (i := 1) Tryz.underlying24 (by kernel_rfl) rfl rfl rfl rfl rfl rfl rfl ho2 List.length_replicate (fun w hw => src_sl ha hw) ?_
  intro row5 ho6
  refine WR.nil ?_
  change WC _ _ _ _ _ _
  refine WC.rs ?_
  refine va rfl rfl rfl (q_slarr Tryz.underlying113 Tryz.sizeOf67 rfl rfl) ?_
  refine va rfl rfl rfl (q_move (v := .slice Ab b.length cb) rfl (by kernel_rfl)) ?_
  refine e_copy (T := u64T) (xs := (List.replicate 16 0)) (ys := b) (i := 0) Tryz.underlying24 (by kernel_rfl) rfl rfl rfl rfl rfl rfl rfl ho4 List.length_replicate (fun w hw => src_sl hb hw) ?_
  intro row7 ho8
  refine WR.nil ?_
  change WC _ _ _ _ _ _
  refine WC.rs ?_
  refine va rfl rfl rfl (q_assign (v := .slice none 0 0) rfl (by kernel_rfl)) ?_
  refine WR.nil ?_
  change WC _ _ _ _ _ _
  refine WC.seq ?_
  refine WC.rs ?_
  refine va rfl rfl rfl (q_move (v := .int .i64 0) rfl (by kernel_rfl)) ?_
  refine WR.nil ?_
  change WC _ _ _ _ _ _
  refine WC.block ?_
  refine WC.forU h (fun (i15 : Nat) (out_9 : List Int) σ w => ∃ (A10 : Option Addr), ∃ (c11 : Nat), ∃ (row12 : Rowb), slots σ [(5, .pointer (some ⟨g1, 0, none⟩)), (6, .pointer (some ⟨g3, 0, none⟩)), (7, .slice A10 out_9.length c11), (15, .int .i64 ((i15 : Nat) : Int))] ∧ CC F Γ [row12, row7, row5] w ∧ Own intT Γ 3 row12 A10 c11 out_9 ∧ True) ?_ ?_
  · skip
    intro w hw
    have hw := hw.pad
    exact ⟨none, 0, [], (sl_ (by kernel_rfl)), hw, (Own.nil intT _ 3), trivial⟩
  rintro f14 i15 out_9 σ w hi16 hlt17 hge18 ⟨A10, c11, row12, hsl, hw, ho13, -⟩
  refine Wpt.slots hsl ?_
  refine WC.here (C := CC F Γ [row12, row7, row5]) ?_ hw
  clear hw hsl
  refine WC.rs ?_
  refine va rfl rfl rfl (q_lss rfl rfl rfl) ?_
  refine WR.nil ?_
  change WC _ _ _ _ _ _
  refine WC.seq ?_
  refine WC.cond (b := (decide (((i15 : Nat) : Int) < 16))) (by kernel_rfl) (fun hb19 => ?_) (fun hb19 => ?_)
  · skip
    have hl20 := ilt hb19
    have h := hlt17 hl20
    refine WC.skip ?_
    change WC _ _ _ _ _ _
    refine WC.cut (fun σ w => ∃ (out_21 : List Int), ∃ (A22 : Option Addr), ∃ (c23 : Nat), ∃ (row24 : Rowb), m_tree_Differ_j5 f14 out_21 = some r ∧ slots σ [(5, .pointer (some ⟨g1, 0, none⟩)), (6, .pointer (some ⟨g3, 0, none⟩)), (7, .slice A22 out_21.length c23), (15, .int .i64 ((i15 : Nat) : Int))] ∧ CC F Γ [row24, row7, row5] w ∧ Own intT Γ 3 row24 A22 c23 out_21 ∧ True) ?_ ?_
    · skip
      refine WC.block ?_
      refine WC.rs ?_
      refine va rfl rfl rfl (q_move (v := .int .i64 ((i15 : Nat) : Int)) rfl (by kernel_rfl)) ?_
      refine va rfl rfl rfl (q_assign (v := .int .i64 ((i15 : Nat) : Int)) rfl (by kernel_rfl)) ?_
      refine WR.nil ?_
      change WC _ _ _ _ _ _
      refine WC.seq ?_
      refine WC.dr (by kernel_rfl) (by kernel_rfl) (fun w hw => hw.drawn _) ?_
      refine wa rfl rfl rfl (q_move (v := .int .i64 ((i15 : Nat) : Int)) rfl (by kernel_rfl)) ?_
      refine wa rfl rfl rfl (q_ixan (i := i15) Tryz.underlying113 Tryz.sizeOf67 rfl rfl rfl hl20) ?_
      refine wa rfl rfl rfl (q_ldo (c := 0) (v := .int .u64 (gt (List.take (List.replicate 16 0).length a ++ List.drop a.length (List.replicate 16 0)) i15)) (i := 2) rfl (ho6.u64T_at (ltq hl20 ((copy_len _ _).trans List.length_replicate).symm)).2 rfl Tryz.isAgg67 rfl rfl) ?_
      refine wa rfl rfl rfl (q_move (v := .int .i64 ((i15 : Nat) : Int)) rfl (by kernel_rfl)) ?_
      refine wa rfl rfl rfl (q_ixan (i := i15) Tryz.underlying113 Tryz.sizeOf67 rfl rfl rfl hl20) ?_
      refine wa rfl rfl rfl (q_ldo (c := 0) (v := .int .u64 (gt (List.take (List.replicate 16 0).length b ++ List.drop b.length (List.replicate 16 0)) i15)) (i := 1) rfl (ho8.u64T_at (ltq hl20 ((copy_len _ _).trans List.length_replicate).symm)).2 rfl Tryz.isAgg67 rfl rfl) ?_
      refine wa rfl rfl rfl (q_neq rfl rfl rfl) ?_
      refine WQ.nil ?_
      change WC _ _ _ _ _ _
      refine WC.cif h (by kernel_rfl) (fun hb26 h => ?_) (fun hb26 h => ?_)
      · skip
        refine WC.region ?_
        refine va rfl rfl rfl (q_move (v := .slice A10 out_9.length c11) rfl (by kernel_rfl)) ?_
        refine va rfl rfl rfl (q_move (v := .int .i64 ((i15 : Nat) : Int)) rfl (by kernel_rfl)) ?_
        refine e_buildSlice (cs := #[.int .i64 ((i15 : Nat) : Int)]) (e := 3) rfl rfl rfl rfl (fun w => by kernel_rfl) ?_
        intro g27
        obtain ⟨hk28, h⟩ := chk_some h
        refine e_append (T := intT) (xs := out_9) (ys := [((i15 : Nat) : Int)]) elem_23 (i := 1) rfl rfl rfl rfl rfl rfl rfl ho13 (of_decide_eq_true hk28) (fun w hw => src_one (T := intT) (y := ((i15 : Nat) : Int)) (i := 0) rfl (by exact ⟨rfl, (ctr_lit0 hl20 (by decide))⟩) hw) ?_
        intro row29 A30 c31 ho32
        refine va rfl rfl rfl (q_assign (v := .slice A30 (out_9 ++ [((i15 : Nat) : Int)]).length c31) rfl (by kernel_rfl)) ?_
        refine WR.nil ?_
        intro w hw
        exact ⟨(out_9 ++ [((i15 : Nat) : Int)]), A30, c31, row29, h, (sl_ (by kernel_rfl)), (hw.only (is := [1, 1, 1]) rfl), ho32, trivial⟩
      · skip
        refine WC.skip ?_
        intro w hw
        exact ⟨out_9, A10, c11, row12, h, (sl_ (by kernel_rfl)), hw, ho13, trivial⟩
    · skip
      rintro σ w ⟨out_21, A22, c23, row24, h, hsl, hw, ho25, -⟩
      refine Wpt.slots hsl ?_
      refine WC.here (C := CC F Γ [row24, row7, row5]) ?_ hw
      clear hw hsl
      refine WC.region ?_
      refine va rfl rfl rfl (q_add_r (r := ((i15 + 1 : Nat) : Int)) rfl rfl rfl (ctr_lit hl20 (by decide))) ?_
      refine va rfl rfl rfl (q_move (v := .int .i64 ((i15 + 1 : Nat) : Int)) rfl (by kernel_rfl)) ?_
      refine WR.nil ?_
      intro w hw
      exact ⟨hl20, out_21, h, A22, c23, row24, (sl_ (by kernel_rfl)), hw, ho25, trivial⟩
  · skip
    have h := hge18 (ige hb19)
    refine WC.exit ?_
    change WC _ _ _ _ _ _
    refine WC.rs ?_
    refine va rfl rfl rfl (q_move (v := .slice A10 out_9.length c11) rfl (by kernel_rfl)) ?_
    refine va rfl rfl rfl (q_assign (v := .slice A10 out_9.length c11) rfl (by kernel_rfl)) ?_
    refine WR.nil ?_
    change WC _ _ _ _ _ _
    refine WC.ret ?_
    intro w hw
    obtain rfl := Option.some.inj h
    subst hF
    exact end_e (is := [0]) (by kernel_rfl) hw rfl ⟨A10, c11, row12, rfl, rfl, ho13, trivial⟩
abbrev r_mend_Answer_1 (gb0 : Nat) (Ab0v : Option Addr) (cb0v : Nat) (b0v : List Int) (gb1 : Nat) (gb1v : Nat) (b1v : OTree) (rowb1v : Rowb) (r : OTree × Dmend_Step) (U : List Rowb) (Γ : Gh) (v : Value) : Prop := ∃ (rowb1_0 : Rowb), ∃ (A0_0 : Option Addr), ∃ (c0_0 : Nat), ∃ (A0_1 : Option Addr), ∃ (c0_1 : Nat), ∃ (A0_2 : Option Addr), ∃ (c0_2 : Nat), v = .agg #[.slice A0_0 r.2.path.length c0_0, .slice A0_1 r.2.hashes.length c0_1, .slice A0_2 r.2.recs.length c0_2] ∧ U = [[(gb0, .cells #[.slice Ab0v b0v.length cb0v] 23 (0, 0))], [(gb1, .cells #[.pointer (some ⟨gb1v, 0, none⟩)] 70 (0, 0))], rowb1_0] ∧ OTree.ob (tg0 105) Γ gb1v rowb1_0 r.1 ∧ Dmend_Step.fits Γ A0_0 c0_0 A0_1 c0_1 A0_2 c0_2 r.2 ∧ True
set_option maxRecDepth 100000 in
set_option maxHeartbeats 400000 in
theorem t_mend_Answer_1 {Γ : Gh} {w0 : World} (d : Int) (hd : I64 d) {gb0 : Nat} {Ab0v : Option Addr} {cb0v : Nat} {b0v : List Int} (hb0v : Sl intT Γ Ab0v b0v) (hb0vc : b0v.length ≤ cb0v) {gb1 : Nat} {gb1v : Nat} {rowb1v : Rowb} {b1v : OTree} (hb1v : OTree.ob (tg0 105) Γ gb1v rowb1v b1v) (hp : Pre [[(gb0, .cells #[.slice Ab0v b0v.length cb0v] 23 (0, 0))], [(gb1, .cells #[.pointer (some ⟨gb1v, 0, none⟩)] 70 (0, 0))], rowb1v] Γ w0) {r : OTree × Dmend_Step} (h : m_mend_Answer_1 d b0v b1v = some r) : Calls Tryz.prog 40 #[.int .i64 d, .pointer (some ⟨gb0, 0, none⟩), .pointer (some ⟨gb1, 0, none⟩)] w0 (Outc Γ [[(gb0, .cells #[.slice Ab0v b0v.length cb0v] 23 (0, 0))], [(gb1, .cells #[.pointer (some ⟨gb1v, 0, none⟩)] 70 (0, 0))], rowb1v] w0 (r_mend_Answer_1 gb0 Ab0v cb0v b0v gb1 gb1v b1v rowb1v r)) := by
  refine calls_of_r (N := 24) (rs := [.cell 4 42]) (args := [.int .i64 d, .pointer (some ⟨gb0, 0, none⟩), .pointer (some ⟨gb1, 0, none⟩)]) Tryz.func40 rfl Tryz.ntmps40 Tryz.results40 rfl ?_
  obtain ⟨F, hF⟩ : ∃ F : Fm, F = ⟨ids [[(gb0, .cells #[.slice Ab0v b0v.length cb0v] 23 (0, 0))], [(gb1, .cells #[.pointer (some ⟨gb1v, 0, none⟩)] 70 (0, 0))], rowb1v], w0, Γ⟩ := ⟨_, rfl⟩
  refine WC.here (C := CC F Γ [[(gb0, .cells #[.slice Ab0v b0v.length cb0v] 23 (0, 0))], [(gb1, .cells #[.pointer (some ⟨gb1v, 0, none⟩)] 70 (0, 0))], rowb1v]) ?_ (hF ▸ hp.start)
  refine WC.rs ?_
  refine e_alloc Tryz.zeroValue42 rfl rfl rfl rfl ?_
  intro g1
  refine WR.nil ?_
  change WC _ _ _ _ _ _
  refine WC.rs ?_
  refine va rfl rfl rfl (q_ldl (i := 1) (v := .slice Ab0v b0v.length cb0v) rfl rfl Tryz.isAgg23 rfl rfl) ?_
  obtain ⟨z2, hz3, h⟩ := bnd h
  refine e_call (is := []) rfl rfl (call_run Tryz.call41 rfl rfl (by kernel_rfl)) rfl (fun w hp => t_slices_Clone_int_int hb0v hb0vc hp hz3) ?_
  rintro Γ4 U6 v7 hl5 ⟨A8, c9, row10, rfl, rfl, hr11, _⟩
  change WR _ _ _ (CC F Γ4 [row10, [(g1, .cells #[.slice none 0 0, .slice none 0 0, .slice none 0 0] 42 (0, 0))], [(gb0, .cells #[.slice Ab0v b0v.length cb0v] 23 (0, 0))], [(gb1, .cells #[.pointer (some ⟨gb1v, 0, none⟩)] 70 (0, 0))], rowb1v]) _ _ (upd _ 7 (.slice A8 z2.length c9))
  refine va rfl rfl rfl (q_move (v := .int .i64 d) rfl (by kernel_rfl)) ?_
  refine e_buildSlice (cs := #[.int .i64 d]) (e := 3) rfl rfl rfl rfl (fun w => by kernel_rfl) ?_
  intro g12
  obtain ⟨hk13, h⟩ := chk_some h
  refine e_append (T := intT) (xs := z2) (ys := [d]) elem_23 (i := 1) rfl rfl rfl rfl rfl rfl rfl hr11 (of_decide_eq_true hk13) (fun w hw => src_one (T := intT) (y := d) (i := 0) rfl (by exact ⟨rfl, hd⟩) hw) ?_
  intro row14 A15 c16 ho17
  refine va rfl rfl rfl (q_assign (v := .slice A15 (z2 ++ [d]).length c16) rfl (by kernel_rfl)) ?_
  refine WR.nil ?_
  change WC _ _ _ _ _ _
  refine WC.seq ?_
  refine WC.rs ?_
  refine va rfl rfl rfl (q_move (v := .slice A15 (z2 ++ [d]).length c16) rfl (by kernel_rfl)) ?_
  refine va rfl rfl rfl (q_len_slice rfl Tryz.underlying23 rfl) ?_
  refine va rfl rfl rfl (q_eql rfl rfl rfl) ?_
  refine WR.nil ?_
  change WC _ _ _ _ _ _
  refine WC.cif h (by kernel_rfl) (fun hb18 h => ?_) (fun hb18 h => ?_)
  · skip
    refine WC.rs ?_
    refine va rfl rfl rfl (q_move (v := .slice A15 (z2 ++ [d]).length c16) rfl (by kernel_rfl)) ?_
    refine va rfl rfl rfl (q_ldl (i := 4) (v := .pointer (some ⟨gb1v, 0, none⟩)) rfl rfl Tryz.isAgg70 rfl rfl) ?_
    refine va rfl rfl rfl (q_move (v := .slice A15 (z2 ++ [d]).length c16) rfl (by kernel_rfl)) ?_
    have hc23 := ho17.capz
    intro w hw; obtain ⟨Γ19, hw, hl20, hr21⟩ := hw.seal (i := 1) rfl; have hs22 := ho17.sl hl20 hr21
    refine WR.here (C := CC F Γ19 [[(g12, .cells #[.int .i64 d] 3 (0, 0))], [], [(g1, .cells #[.slice none 0 0, .slice none 0 0, .slice none 0 0] 42 (0, 0))], [(gb0, .cells #[.slice Ab0v b0v.length cb0v] 23 (0, 0))], [(gb1, .cells #[.pointer (some ⟨gb1v, 0, none⟩)] 70 (0, 0))], rowb1v]) ?_ hw
    clear hw
    obtain ⟨z24, hz25, h⟩ := bnd h
    refine e_call (is := [5]) rfl rfl (call_run Tryz.call38 rfl rfl (by kernel_rfl)) rfl (fun w hp => t_tree_Tree_Kids t_HashC (hb1v.mono (hl5.trans hl20)) hs22 hc23 (fun p hp => nomatch hp) hp hz25) ?_
    rintro Γ26 U28 v29 hl27 ⟨row30, A32, c33, row34, rfl, rfl, hr31, hr35, hz36, _⟩
    change WR _ _ _ (CC F Γ26 [row30, row34, [(g12, .cells #[.int .i64 d] 3 (0, 0))], [], [(g1, .cells #[.slice none 0 0, .slice none 0 0, .slice none 0 0] 42 (0, 0))], [(gb0, .cells #[.slice Ab0v b0v.length cb0v] 23 (0, 0))], [(gb1, .cells #[.pointer (some ⟨gb1v, 0, none⟩)] 70 (0, 0))]]) _ _ (upd _ 17 (.slice A32 z24.2.length c33))
    refine va rfl rfl rfl (q_build' (v := .agg #[.slice A15 (z2 ++ [d]).length c16, .slice A32 z24.2.length c33, .slice none 0 0]) rfl (bargs2 rfl rfl) (fun w => by kernel_rfl)) ?_
    refine e_st (i := 4) (v := .agg #[.slice A15 (z2 ++ [d]).length c16, .slice A32 z24.2.length c33, .slice none 0 0]) (new := #[.slice A15 (z2 ++ [d]).length c16, .slice A32 z24.2.length c33, .slice none 0 0]) rfl Tryz.sizeOf42 rfl rfl rfl rfl (by kernel_rfl) rfl rfl rfl rfl ?_
    refine WR.nil ?_
    change WC _ _ _ _ _ _
    refine WC.ret ?_
    intro w hw
    have hc41 := hr35.capz
    obtain ⟨Γ37, hw, hl38, hr39⟩ := hw.seal (i := 1) rfl; have hs40 := hr35.sl hl38 hr39
    obtain rfl := Option.some.inj h
    subst hF
    exact ⟨[.agg #[.slice A15 (z2 ++ [d]).length c16, .slice A32 z24.2.length c33, .slice none 0 0]], (rr_agg (i := 4) (us := [.slice A15 (z2 ++ [d]).length c16, .slice A32 z24.2.length c33, .slice none 0 0]) hw rfl Tryz.isAgg42 Tryz.sizeOf42 (by kernel_rfl) rfl rr_nil), end_e (is := [5, 5, 0]) (by kernel_rfl) hw rfl ⟨row30, A15, c16, A32, c33, none, 0, rfl, rfl, (hr31.mono hl38), ⟨⟨hc23, (hs22.mono (hl27.trans hl38))⟩, ⟨hc41, hs40⟩, ⟨Nat.zero_le _, Sl.nil _ _ _⟩⟩, trivial⟩⟩
  · skip
    refine WC.skip ?_
    change WC _ _ _ _ _ _
    refine WC.rs ?_
    refine va rfl rfl rfl (q_move (v := .slice A15 (z2 ++ [d]).length c16) rfl (by kernel_rfl)) ?_
    refine va rfl rfl rfl (q_ldl (i := 4) (v := .pointer (some ⟨gb1v, 0, none⟩)) rfl rfl Tryz.isAgg70 rfl rfl) ?_
    refine va rfl rfl rfl (q_move (v := .slice A15 (z2 ++ [d]).length c16) rfl (by kernel_rfl)) ?_
    have hc46 := ho17.capz
    intro w hw; obtain ⟨Γ42, hw, hl43, hr44⟩ := hw.seal (i := 1) rfl; have hs45 := ho17.sl hl43 hr44
    refine WR.here (C := CC F Γ42 [[(g12, .cells #[.int .i64 d] 3 (0, 0))], [], [(g1, .cells #[.slice none 0 0, .slice none 0 0, .slice none 0 0] 42 (0, 0))], [(gb0, .cells #[.slice Ab0v b0v.length cb0v] 23 (0, 0))], [(gb1, .cells #[.pointer (some ⟨gb1v, 0, none⟩)] 70 (0, 0))], rowb1v]) ?_ hw
    clear hw
    obtain ⟨z47, hz48, h⟩ := bnd h
    refine e_call (is := [5]) rfl rfl (call_run Tryz.call42 rfl rfl (by kernel_rfl)) rfl (fun w hp => t_tree_Tree_Recs (hb1v.mono (hl5.trans hl43)) hs45 hc46 hp hz48) ?_
    rintro Γ49 U51 v52 hl50 ⟨A53, c54, row55, rfl, rfl, hr56, _⟩
    change WR _ _ _ (CC F Γ49 [rowb1v, row55, [(g12, .cells #[.int .i64 d] 3 (0, 0))], [], [(g1, .cells #[.slice none 0 0, .slice none 0 0, .slice none 0 0] 42 (0, 0))], [(gb0, .cells #[.slice Ab0v b0v.length cb0v] 23 (0, 0))], [(gb1, .cells #[.pointer (some ⟨gb1v, 0, none⟩)] 70 (0, 0))]]) _ _ (upd _ 22 (.slice A53 z47.length c54))
    refine va rfl rfl rfl (q_build' (v := .agg #[.slice A15 (z2 ++ [d]).length c16, .slice none 0 0, .slice A53 z47.length c54]) rfl (bargs2 rfl rfl) (fun w => by kernel_rfl)) ?_
    refine e_st (i := 4) (v := .agg #[.slice A15 (z2 ++ [d]).length c16, .slice none 0 0, .slice A53 z47.length c54]) (new := #[.slice A15 (z2 ++ [d]).length c16, .slice none 0 0, .slice A53 z47.length c54]) rfl Tryz.sizeOf42 rfl rfl rfl rfl (by kernel_rfl) rfl rfl rfl rfl ?_
    refine WR.nil ?_
    change WC _ _ _ _ _ _
    refine WC.ret ?_
    intro w hw
    have hc61 := hr56.capz
    obtain ⟨Γ57, hw, hl58, hr59⟩ := hw.seal (i := 1) rfl; have hs60 := hr56.sl hl58 hr59
    obtain rfl := Option.some.inj h
    subst hF
    exact ⟨[.agg #[.slice A15 (z2 ++ [d]).length c16, .slice none 0 0, .slice A53 z47.length c54]], (rr_agg (i := 4) (us := [.slice A15 (z2 ++ [d]).length c16, .slice none 0 0, .slice A53 z47.length c54]) hw rfl Tryz.isAgg42 Tryz.sizeOf42 (by kernel_rfl) rfl rr_nil), end_e (is := [5, 5, 0]) (by kernel_rfl) hw rfl ⟨rowb1v, A15, c16, none, 0, A53, c54, rfl, rfl, (hb1v.mono (((hl5.trans hl43).trans hl50).trans hl58)), ⟨⟨hc46, (hs45.mono (hl50.trans hl58))⟩, ⟨Nat.zero_le _, Sl.nil _ _ _⟩, ⟨hc61, hs60⟩⟩, trivial⟩⟩
abbrev r_mend_Answer (r : List Dmend_Step) (U : List Rowb) (Γ : Gh) (v : Value) : Prop := ∃ (A0 : Option Addr), ∃ (c0 : Nat), ∃ (row0 : Rowb), v = .slice A0 r.length c0 ∧ U = [row0] ∧ Own dmend_StepT Γ 42 row0 A0 c0 r ∧ True
set_option maxRecDepth 100000 in
set_option maxHeartbeats 400000 in
theorem t_mend_Answer {Γ : Gh} {w0 : World} {Aown : Option Addr} {cown : Nat} {own : List Rec} (hown : Sl recT Γ Aown own) (hownc : own.length ≤ cown) {Apath : Option Addr} {cpath : Nat} {path : List Int} (hpath : Sl intT Γ Apath path) (hpathc : path.length ≤ cpath) {Ahashes : Option Addr} {chashes : Nat} {hashes : List Int} (hhashes : Sl u64T Γ Ahashes hashes) (hhashesc : hashes.length ≤ chashes) (hp : Pre [] Γ w0) {r : List Dmend_Step} (h : m_mend_Answer own path hashes = some r) : Calls Tryz.prog 15 #[.slice Aown own.length cown, .slice Apath path.length cpath, .slice Ahashes hashes.length chashes] w0 (Outc Γ [] w0 (r_mend_Answer r)) := by
  refine calls_of (N := 48) (rs := [6]) (args := [.slice Aown own.length cown, .slice Apath path.length cpath, .slice Ahashes hashes.length chashes]) Tryz.func15 rfl Tryz.ntmps15 Tryz.results15 rfl ?_
  obtain ⟨F, hF⟩ : ∃ F : Fm, F = ⟨ids [], w0, Γ⟩ := ⟨_, rfl⟩
  refine WC.here (C := CC F Γ []) ?_ (hF ▸ hp.start)
  refine WC.rs ?_
  refine e_box (v := .slice Apath path.length cpath) rfl rfl rfl rfl (by kernel_rfl) ?_
  intro g1
  refine va rfl rfl rfl (q_assign (v := .slice none 0 0) rfl (by kernel_rfl)) ?_
  refine WR.nil ?_
  change WC _ _ _ _ _ _
  refine WC.rs ?_
  refine va rfl rfl rfl (q_move (v := .slice Aown own.length cown) rfl (by kernel_rfl)) ?_
  obtain ⟨z2, hz3, h⟩ := bnd h
  refine e_call (is := []) rfl rfl (call_run Tryz.call37 rfl rfl (by kernel_rfl)) rfl (fun w hp => t_tree_New hown hownc hp hz3) ?_
  rintro Γ4 U6 v7 hl5 ⟨g8, row9, rfl, rfl, hr10, hr11, _⟩
  change WR _ _ _ (CC F Γ4 [row9, [(g1, .cells #[.slice Apath path.length cpath] 23 (0, 0))]]) _ _ (upd _ 16 (.tuple #[optp z2.1 g8, .int .i64 z2.2]))
  refine va rfl rfl rfl (q_move (v := .tuple #[optp z2.1 g8, .int .i64 z2.2]) rfl (by kernel_rfl)) ?_
  refine va rfl rfl rfl (q_extract (v := optp z2.1 g8) rfl rfl rfl) ?_
  refine va rfl rfl rfl (q_extract (v := .int .i64 z2.2) rfl rfl rfl) ?_
  refine e_alloc Tryz.zeroValue70 rfl rfl rfl rfl ?_
  intro g12
  refine e_st (i := 0) (v := optp z2.1 g8) (new := #[optp z2.1 g8]) rfl Tryz.sizeOf70 rfl rfl rfl rfl (by kernel_rfl) (by generalize z2.1 = q0_; cases q0_ <;> rfl) (by generalize z2.1 = q0_; cases q0_ <;> rfl) (by generalize z2.1 = q0_; cases q0_ <;> rfl) (by generalize z2.1 = q0_; cases q0_ <;> rfl) ?_
  refine va rfl rfl rfl (q_assign (v := .int .i64 z2.2) rfl (by kernel_rfl)) ?_
  refine WR.nil ?_
  change WC _ _ _ _ _ _
  refine WC.seq ?_
  refine WC.rs ?_
  refine va rfl rfl rfl (q_move (v := .int .i64 z2.2) rfl (by kernel_rfl)) ?_
  refine va rfl rfl rfl (q_neq rfl rfl rfl) ?_
  refine va rfl rfl rfl (q_move (v := .bool (z2.2 != 0)) rfl (by kernel_rfl)) ?_
  refine vg0 rfl rfl rfl rfl rfl (fun hg13 => QV.qo (q_ldl (i := 2) (v := .slice Apath path.length cpath) rfl rfl Tryz.isAgg23 rfl rfl)) ?_
  refine vg0 rfl rfl rfl rfl rfl (fun hg14 => QV.qo (q_len_slice rfl Tryz.underlying23 (gu hg14 rfl))) ?_
  refine vg0 rfl rfl rfl rfl rfl (fun hg15 => QV.qo (q_gtr rfl (gu hg15 rfl) rfl)) ?_
  refine va rfl rfl rfl (q_pick rfl rfl (pk_or' (g := (z2.2 != 0)) (y := (decide (1 < ((path.length : Nat) : Int)))))) ?_
  refine WR.nil ?_
  change WC _ _ _ _ _ _
  refine WC.cif h (by kernel_rfl) (fun hb16 h => ?_) (fun hb16 h => ?_)
  · skip
    refine WC.rs ?_
    refine va rfl rfl rfl (q_assign (v := .slice none 0 0) rfl (by kernel_rfl)) ?_
    refine WR.nil ?_
    change WC _ _ _ _ _ _
    refine WC.ret ?_
    intro w hw
    have hw := hw.pad
    obtain rfl := Option.some.inj h
    subst hF
    exact end_e (is := [0]) (by kernel_rfl) hw rfl ⟨none, 0, [], rfl, rfl, (Own.nil dmend_StepT _ 42), trivial⟩
  · skip
    refine WC.skip ?_
    change WC _ _ _ _ _ _
    refine WC.rs ?_
    refine va rfl rfl rfl (q_ldl (i := 0) (v := optp z2.1 g8) rfl rfl Tryz.isAgg70 rfl rfl) ?_
    refine va rfl rfl rfl (q_ldl (i := 2) (v := .slice Apath path.length cpath) rfl rfl Tryz.isAgg23 rfl rfl) ?_
    obtain ⟨z17, hz18, h⟩ := bnd h
    have ho19 := optob_some hr10 hz18
    obtain ⟨z20, hz21, h⟩ := bnd h
    refine e_call (is := [1]) rfl rfl (call_run Tryz.call38 rfl rfl (args2 (optp_some rfl hz18) rfl)) rfl (fun w hp => t_tree_Tree_Kids t_HashC ho19 (hpath.mono hl5) hpathc (fun p hp => nomatch hp) hp hz21) ?_
    rintro Γ22 U24 v25 hl23 ⟨row26, A28, c29, row30, rfl, rfl, hr27, hr31, hz32, _⟩
    change WR _ _ _ (CC F Γ22 [row26, row30, [(g12, .cells #[optp z2.1 g8] 70 (0, 0))], [(g1, .cells #[.slice Apath path.length cpath] 23 (0, 0))]]) _ _ (upd _ 28 (.slice A28 z20.2.length c29))
    refine va rfl rfl rfl (q_assign (v := .slice A28 z20.2.length c29) rfl (by kernel_rfl)) ?_
    refine WR.nil ?_
    change WC _ _ _ _ _ _
    refine WC.seq ?_
    refine WC.rs ?_
    refine va rfl rfl rfl (q_move (v := .slice A28 z20.2.length c29) rfl (by kernel_rfl)) ?_
    refine va rfl rfl rfl (q_nil_slice Tryz.underlying24 rfl rfl rfl) ?_
    refine WR.nil ?_
    change WC _ _ _ _ _ _
    have hc33 : optp z2.1 g8 = .pointer (some ⟨g8, 0, none⟩) := optp_some rfl hz18
    rw [hc33]
    refine WC.cif h (b := z20.2.isEmpty) (Eq.trans (b := .bool (Option.isNone A28)) (by kernel_rfl) (congrArg Value.bool hz32)) (fun hb34 h => ?_) (fun hb34 h => ?_)
    · skip
      refine WC.rs ?_
      refine va rfl rfl rfl (q_assign (v := .slice none 0 0) rfl (by kernel_rfl)) ?_
      refine WR.nil ?_
      change WC _ _ _ _ _ _
      refine WC.ret ?_
      intro w hw
      have hw := hw.pad
      obtain rfl := Option.some.inj h
      subst hF
      exact end_e (is := [0]) (by kernel_rfl) hw rfl ⟨none, 0, [], rfl, rfl, (Own.nil dmend_StepT _ 42), trivial⟩
    · skip
      refine WC.skip ?_
      change WC _ _ _ _ _ _
      refine WC.rs ?_
      refine va rfl rfl rfl (q_mkfn (v := .func (.func 40) #[] #[.pointer (some ⟨g1, 0, none⟩), .pointer (some ⟨g12, 0, none⟩)]) rfl (by kernel_rfl)) ?_
      refine va rfl rfl rfl (q_assign (v := .func (.func 40) #[] #[.pointer (some ⟨g1, 0, none⟩), .pointer (some ⟨g12, 0, none⟩)]) rfl (by kernel_rfl)) ?_
      refine WR.nil ?_
      change WC _ _ _ _ _ _
      refine WC.rs ?_
      refine va rfl rfl rfl (q_assign (v := .slice none 0 0) rfl (by kernel_rfl)) ?_
      refine WR.nil ?_
      change WC _ _ _ _ _ _
      refine WC.seq ?_
      refine WC.rs ?_
      refine va rfl rfl rfl (q_move (v := .slice A28 z20.2.length c29) rfl (by kernel_rfl)) ?_
      refine va rfl rfl rfl (q_move (v := .slice Ahashes hashes.length chashes) rfl (by kernel_rfl)) ?_
      have hc39 := hr31.capz
      intro w hw; obtain ⟨Γ35, hw, hl36, hr37⟩ := hw.seal (i := 1) rfl; have hs38 := hr31.sl hl36 hr37
      refine WR.here (C := CC F Γ35 [row26, [], [(g12, .cells #[.pointer (some ⟨g8, 0, none⟩)] 70 (0, 0))], [(g1, .cells #[.slice Apath path.length cpath] 23 (0, 0))]]) ?_ hw
      clear hw
      obtain ⟨z40, hz41, h⟩ := bnd h
      refine e_call (is := []) rfl rfl (call_run Tryz.call43 rfl rfl (by kernel_rfl)) rfl (fun w hp => t_tree_Differ hs38 hc39 (hhashes.mono ((hl5.trans hl23).trans hl36)) hhashesc hp hz41) ?_
      rintro Γ42 U44 v45 hl43 ⟨A46, c47, row48, rfl, rfl, hr49, _⟩
      change WR _ _ _ (CC F Γ42 [row48, row26, [], [(g12, .cells #[.pointer (some ⟨g8, 0, none⟩)] 70 (0, 0))], [(g1, .cells #[.slice Apath path.length cpath] 23 (0, 0))]]) _ _ (upd _ 34 (.slice A46 z40.length c47))
      refine va rfl rfl rfl (q_len_slice rfl Tryz.underlying23 rfl) ?_
      refine va rfl rfl rfl (q_move (v := .int .i64 0) rfl (by kernel_rfl)) ?_
      refine WR.nil ?_
      change WC _ _ _ _ _ _
      refine WC.block ?_
      refine WC.forI h (fun (i61 : Nat) (s : (List Dmend_Step) × OTree) σ w => match s with | (out_52, o57) => ∃ (Γ50 : Gh), ∃ (A53 : Option Addr), ∃ (c54 : Nat), ∃ (row55 : Rowb), ∃ (row58 : Rowb), slots σ [(10, .func (.func 40) #[] #[.pointer (some ⟨g1, 0, none⟩), .pointer (some ⟨g12, 0, none⟩)]), (11, .slice A53 out_52.length c54), (34, .slice A46 z40.length c47), (35, .int .i64 ((z40.length : Nat) : Int)), (36, .int .i64 ((i61 : Nat) : Int))] ∧ CC F Γ50 [row55, row48, row58, [(g12, .cells #[.pointer (some ⟨g8, 0, none⟩)] 70 (0, 0))], [(g1, .cells #[.slice Apath path.length cpath] 23 (0, 0))]] w ∧ Gh.le Γ42 Γ50 ∧ Own dmend_StepT Γ50 42 row55 A53 c54 out_52 ∧ OTree.ob (tg0 105) Γ50 g8 row58 o57 ∧ True) ?_ ?_
      · skip
        intro w hw
        have hw := hw.pad
        exact ⟨Γ42, none, 0, [], row26, (sl_ (by kernel_rfl)), (hw.only (is := [0, 0, 0, 1, 1]) rfl), (Gh.refl _), (Own.nil dmend_StepT _ 42), (hr27.mono (hl36.trans hl43)), trivial⟩
      rintro f60 i61 ⟨out_52, o57⟩ σ w hi62 hlt63 hge64 ⟨Γ50, A53, c54, row55, row58, hsl, hw, hl51, ho56, ho59, -⟩
      refine Wpt.slots hsl ?_
      refine WC.here (C := CC F Γ50 [row55, row48, row58, [(g12, .cells #[.pointer (some ⟨g8, 0, none⟩)] 70 (0, 0))], [(g1, .cells #[.slice Apath path.length cpath] 23 (0, 0))]]) ?_ hw
      clear hw hsl
      refine WC.rs ?_
      refine va rfl rfl rfl (q_lss rfl rfl rfl) ?_
      refine WR.nil ?_
      change WC _ _ _ _ _ _
      refine WC.seq ?_
      refine WC.cond (b := (decide (((i61 : Nat) : Int) < ((z40.length : Nat) : Int)))) (by kernel_rfl) (fun hb65 => ?_) (fun hb65 => ?_)
      · skip
        have hl66 := ilt hb65
        have h := hlt63 hl66
        refine WC.skip ?_
        change WC _ _ _ _ _ _
        refine WC.seq ?_
        refine WC.block ?_
        refine WC.rs ?_
        refine va rfl rfl rfl (q_ixn (i := i61) Tryz.underlying23 Tryz.sizeOf3 rfl rfl rfl hl66 ((hr49.mono hl51).some_ hl66)) ?_
        refine va rfl rfl rfl (q_ldo (c := 0) (v := .int .i64 (gt z40 i61)) (i := 1) rfl ((hr49.mono hl51).intT_at hl66).2 rfl Tryz.isAgg3 rfl rfl) ?_
        refine va rfl rfl rfl (q_assign (v := .int .i64 (gt z40 i61)) rfl (by kernel_rfl)) ?_
        refine WR.nil ?_
        change WC _ _ _ _ _ _
        refine WC.region ?_
        refine va rfl rfl rfl (q_move (v := .slice A53 out_52.length c54) rfl (by kernel_rfl)) ?_
        refine va rfl rfl rfl (q_move (v := .func (.func 40) #[] #[.pointer (some ⟨g1, 0, none⟩), .pointer (some ⟨g12, 0, none⟩)]) rfl (by kernel_rfl)) ?_
        refine va rfl rfl rfl (q_move (v := .int .i64 (gt z40 i61)) rfl (by kernel_rfl)) ?_
        obtain ⟨z67, hz68, h⟩ := bnd h
        refine e_call (is := [4, 3, 2]) rfl rfl (call_run_fv (caps := #[.pointer (some ⟨g1, 0, none⟩), .pointer (some ⟨g12, 0, none⟩)]) Tryz.call40 rfl (by kernel_rfl) (by kernel_rfl)) rfl (fun w hp => t_mend_Answer_1 (gt z40 i61) ((hr49.mono hl51).intT_at hl66).1 (hpath.mono ((((hl5.trans hl23).trans hl36).trans hl43).trans hl51)) hpathc ho59 hp hz68) ?_
        rintro Γ69 U71 v72 hl70 ⟨row73, A75, c76, A77, c78, A79, c80, rfl, rfl, hr74, hr81, _⟩
        change WR _ _ _ (CC F Γ69 [[(g1, .cells #[.slice Apath path.length cpath] 23 (0, 0))], [(g12, .cells #[.pointer (some ⟨g8, 0, none⟩)] 70 (0, 0))], row73, row55, row48]) _ _ (upd _ 43 (.agg #[.slice A75 z67.2.path.length c76, .slice A77 z67.2.hashes.length c78, .slice A79 z67.2.recs.length c80]))
        refine e_buildSlice (cs := #[.slice A75 z67.2.path.length c76, .slice A77 z67.2.hashes.length c78, .slice A79 z67.2.recs.length c80]) (e := 42) rfl rfl rfl rfl (fun w => by kernel_rfl) ?_
        intro g82
        obtain ⟨hk83, h⟩ := chk_some h
        refine e_append (T := dmend_StepT) (xs := out_52) (ys := [z67.2]) elem_32 (i := 4) rfl rfl rfl rfl rfl rfl rfl (ho56.mono hl70) (of_decide_eq_true hk83) (fun w hw => src_one (T := dmend_StepT) (y := z67.2) (i := 0) rfl (by exact ⟨A75, c76, A77, c78, A79, c80, rfl, hr81⟩) hw) ?_
        intro row84 A85 c86 ho87
        refine va rfl rfl rfl (q_assign (v := .slice A85 (out_52 ++ [z67.2]).length c86) rfl (by kernel_rfl)) ?_
        refine WR.nil ?_
        change WC _ _ _ _ _ _
        refine WC.region ?_
        refine va rfl rfl rfl (q_add_r (r := ((i61 + 1 : Nat) : Int)) rfl rfl rfl (ctr_len hl66 (hr49.mono hl51).le)) ?_
        refine va rfl rfl rfl (q_move (v := .int .i64 ((i61 + 1 : Nat) : Int)) rfl (by kernel_rfl)) ?_
        refine WR.nil ?_
        intro w hw
        exact ⟨hl66, ((out_52 ++ [z67.2]), z67.1), h, Γ69, A85, c86, row84, row73, (sl_ (by kernel_rfl)), (hw.only (is := [4, 4, 3, 2, 1]) rfl), (hl51.trans hl70), ho87, hr74, trivial⟩
      · skip
        have h := hge64 (ige hb65)
        refine WC.exit ?_
        change WC _ _ _ _ _ _
        refine WC.rs ?_
        refine va rfl rfl rfl (q_move (v := .slice A53 out_52.length c54) rfl (by kernel_rfl)) ?_
        refine va rfl rfl rfl (q_assign (v := .slice A53 out_52.length c54) rfl (by kernel_rfl)) ?_
        refine WR.nil ?_
        change WC _ _ _ _ _ _
        refine WC.ret ?_
        intro w hw
        obtain rfl := Option.some.inj h
        subst hF
        exact end_e (is := [0]) (by kernel_rfl) hw rfl ⟨A53, c54, row55, rfl, rfl, ho56, trivial⟩
set_option maxRecDepth 100000 in
set_option maxHeartbeats 400000 in
theorem t_mend_right_1 {Γ : Gh} {w0 : World} {Ar_1 : Option Addr} {cr_1 : Nat} (r_ : Rec) (hr_ : Rec.fits Γ Ar_1 cr_1 r_) (hs : Sat Γ w0) {r : Bool} (h : m_mend_right_1 r_ = some r) : Calls Tryz.prog 70 #[.agg #[.string r_.key, .slice Ar_1 r_.vers.length cr_1]] w0 (fun e w' => e = .returned (.bool r) ∧ Fr no w0 w') := by
  refine calls_of (N := 6) (rs := [2]) (args := [.agg #[.string r_.key, .slice Ar_1 r_.vers.length cr_1]]) Tryz.func70 rfl Tryz.ntmps70 Tryz.results70 rfl ?_
  obtain ⟨F, hF⟩ : ∃ F : Fm, F = ⟨no, w0, Γ⟩ := ⟨_, rfl⟩
  refine WC.here (C := CC F Γ []) ?_ (hF ▸ Cur.start0 hs)
  refine WC.rs ?_
  refine e_box (v := .agg #[.string r_.key, .slice Ar_1 r_.vers.length cr_1]) rfl rfl rfl rfl (by kernel_rfl) ?_
  intro g1
  refine va rfl rfl rfl (q_assign (v := .bool false) rfl (by kernel_rfl)) ?_
  refine WR.nil ?_
  change WC _ _ _ _ _ _
  refine WC.rs ?_
  refine va rfl rfl rfl (q_ldla (i := 0) (vs := [.string r_.key, .slice Ar_1 r_.vers.length cr_1]) rfl rfl Tryz.isAgg51 Tryz.sizeOf51 rfl rfl) ?_
  obtain ⟨z2, hz3, h⟩ := bnd h
  refine vc rfl rfl rfl (q_call (call_run Tryz.call71 rfl rfl (by kernel_rfl)) (fun w hw => t_code_RightRec (Γ := Gh.all w) r_ (Rec.fits_mono hr_ hw.sat.le_all) (Sat.all w) hz3)) ?_
  refine va rfl rfl rfl (q_not rfl rfl) ?_
  refine va rfl rfl rfl (q_assign (v := .bool (!z2)) rfl (by kernel_rfl)) ?_
  refine WR.nil ?_
  change WC _ _ _ _ _ _
  refine WC.ret ?_
  intro w hw
  obtain rfl := Option.some.inj h
  subst hF
  exact ⟨by kernel_rfl, hw.fr⟩
set_option maxRecDepth 100000 in
set_option maxHeartbeats 400000 in
theorem t_slices_IndexFunc_api_Rec_api_Rec {Γ : Gh} {w0 : World} {As_ : Option Addr} {cs_ : Nat} {s_ : List Rec} (hs_ : Sl recT Γ As_ s_) (hs_c : s_.length ≤ cs_) (hs : Sat Γ w0) {r : Int} (h : m_slices_IndexFunc_api_Rec_api_Rec s_ = some r) : Calls Tryz.prog 95 #[.slice As_ s_.length cs_, .func (.func 70) #[] #[]] w0 (fun e w' => e = .returned (.int .i64 r) ∧ Fr no w0 w') := by
  refine calls_of (N := 19) (rs := [4]) (args := [.slice As_ s_.length cs_, .func (.func 70) #[] #[]]) Tryz.func95 rfl Tryz.ntmps95 Tryz.results95 rfl ?_
  obtain ⟨F, hF⟩ : ∃ F : Fm, F = ⟨no, w0, Γ⟩ := ⟨_, rfl⟩
  refine WC.here (C := CC F Γ []) ?_ (hF ▸ Cur.start0 hs)
  refine WC.rs ?_
  refine va rfl rfl rfl (q_assign (v := .int .i64 0) rfl (by kernel_rfl)) ?_
  refine WR.nil ?_
  change WC _ _ _ _ _ _
  refine WC.seq ?_
  refine WC.rs ?_
  refine va rfl rfl rfl (q_move (v := .slice As_ s_.length cs_) rfl (by kernel_rfl)) ?_
  refine va rfl rfl rfl (q_len_slice rfl Tryz.underlying22 rfl) ?_
  refine va rfl rfl rfl (q_move (v := .int .i64 0) rfl (by kernel_rfl)) ?_
  refine WR.nil ?_
  change WC _ _ _ _ _ _
  refine WC.block ?_
  refine WC.forI h (fun (i2 : Nat) (s : Unit) σ w => match s with | () => slots σ [(0, .slice As_ s_.length cs_), (1, .func (.func 70) #[] #[]), (7, .int .i64 ((s_.length : Nat) : Int)), (8, .int .i64 ((i2 : Nat) : Int))] ∧ CC F Γ [] w ∧ True) ?_ ?_
  · skip
    intro w hw
    exact ⟨(sl_ (by kernel_rfl)), hw, trivial⟩
  rintro f1 i2 ⟨⟩ σ w hi3 hlt4 hge5 ⟨hsl, hw, -⟩
  refine Wpt.slots hsl ?_
  refine WC.here (C := CC F Γ []) ?_ hw
  clear hw hsl
  refine WC.rs ?_
  refine va rfl rfl rfl (q_lss rfl rfl rfl) ?_
  refine WR.nil ?_
  change WC _ _ _ _ _ _
  refine WC.seq ?_
  refine WC.cond (b := (decide (((i2 : Nat) : Int) < ((s_.length : Nat) : Int)))) (by kernel_rfl) (fun hb6 => ?_) (fun hb6 => ?_)
  · skip
    have hl7 := ilt hb6
    have h := hlt4 hl7
    refine WC.skip ?_
    change WC _ _ _ _ _ _
    refine WC.seq ?_
    refine WC.block ?_
    refine WC.rs ?_
    refine va rfl rfl rfl (q_move (v := .int .i64 ((i2 : Nat) : Int)) rfl (by kernel_rfl)) ?_
    refine va rfl rfl rfl (q_assign (v := .int .i64 ((i2 : Nat) : Int)) rfl (by kernel_rfl)) ?_
    refine WR.nil ?_
    change WC _ _ _ _ _ _
    refine WC.rs ?_
    refine va rfl rfl rfl (q_move (v := .func (.func 70) #[] #[]) rfl (by kernel_rfl)) ?_
    refine va rfl rfl rfl (q_move (v := .slice As_ s_.length cs_) rfl (by kernel_rfl)) ?_
    refine va rfl rfl rfl (q_move (v := .int .i64 ((i2 : Nat) : Int)) rfl (by kernel_rfl)) ?_
    refine va rfl rfl rfl (q_ixn (i := i2) Tryz.underlying22 Tryz.sizeOf51 rfl rfl rfl hl7 (hs_.some_ hl7)) ?_
    obtain ⟨A8, c9, hx10⟩ := hs_.recT_at i2
    refine va rfl rfl rfl (q_lda (c := 0) (vs := [.string (gt s_ i2).key, .slice A8 ((gt s_ i2).vers).length c9]) (hx10 hl7).2 rfl Tryz.isAgg51 Tryz.sizeOf51 rfl rfl rfl) ?_
    obtain ⟨z11, hz12, h⟩ := bnd h
    refine vc rfl rfl rfl (q_call (call_run_fv (caps := #[]) Tryz.call70 rfl (by kernel_rfl) (by kernel_rfl)) (fun w hw => t_mend_right_1 (Γ := Gh.all w) (gt s_ i2) (Rec.fits_mono (hx10 hl7).1 hw.sat.le_all) (Sat.all w) hz12)) ?_
    refine WR.nil ?_
    change WC _ _ _ _ _ _
    refine WC.cif h (by kernel_rfl) (fun hb13 h => ?_) (fun hb13 h => ?_)
    · skip
      refine WC.rs ?_
      refine va rfl rfl rfl (q_move (v := .int .i64 ((i2 : Nat) : Int)) rfl (by kernel_rfl)) ?_
      refine va rfl rfl rfl (q_assign (v := .int .i64 ((i2 : Nat) : Int)) rfl (by kernel_rfl)) ?_
      refine WR.nil ?_
      change WC _ _ _ _ _ _
      refine WC.ret ?_
      intro w hw
      obtain rfl := Option.some.inj h
      subst hF
      exact ⟨by kernel_rfl, hw.fr⟩
    · skip
      refine WC.skip ?_
      change WC _ _ _ _ _ _
      refine WC.region ?_
      refine va rfl rfl rfl (q_add_r (r := ((i2 + 1 : Nat) : Int)) rfl rfl rfl (ctr_len hl7 hs_.le)) ?_
      refine va rfl rfl rfl (q_move (v := .int .i64 ((i2 + 1 : Nat) : Int)) rfl (by kernel_rfl)) ?_
      refine WR.nil ?_
      intro w hw
      exact ⟨hl7, (), h, (sl_ (by kernel_rfl)), hw, trivial⟩
  · skip
    have h := hge5 (ige hb6)
    refine WC.exit ?_
    change WC _ _ _ _ _ _
    refine WC.rs ?_
    refine va rfl rfl rfl (q_assign (v := .int .i64 (-1)) rfl (by kernel_rfl)) ?_
    refine WR.nil ?_
    change WC _ _ _ _ _ _
    refine WC.ret ?_
    intro w hw
    obtain rfl := Option.some.inj h
    subst hF
    exact ⟨by kernel_rfl, hw.fr⟩
set_option maxRecDepth 100000 in
set_option maxHeartbeats 400000 in
theorem t_slices_ContainsFunc_api_Rec_api_Rec {Γ : Gh} {w0 : World} {As_ : Option Addr} {cs_ : Nat} {s_ : List Rec} (hs_ : Sl recT Γ As_ s_) (hs_c : s_.length ≤ cs_) (hs : Sat Γ w0) {r : Bool} (h : m_slices_ContainsFunc_api_Rec_api_Rec s_ = some r) : Calls Tryz.prog 69 #[.slice As_ s_.length cs_, .func (.func 70) #[] #[]] w0 (fun e w' => e = .returned (.bool r) ∧ Fr no w0 w') := by
  refine calls_of (N := 9) (rs := [4]) (args := [.slice As_ s_.length cs_, .func (.func 70) #[] #[]]) Tryz.func69 rfl Tryz.ntmps69 Tryz.results69 rfl ?_
  obtain ⟨F, hF⟩ : ∃ F : Fm, F = ⟨no, w0, Γ⟩ := ⟨_, rfl⟩
  refine WC.here (C := CC F Γ []) ?_ (hF ▸ Cur.start0 hs)
  refine WC.rs ?_
  refine va rfl rfl rfl (q_assign (v := .bool false) rfl (by kernel_rfl)) ?_
  refine WR.nil ?_
  change WC _ _ _ _ _ _
  refine WC.rs ?_
  refine va rfl rfl rfl (q_move (v := .slice As_ s_.length cs_) rfl (by kernel_rfl)) ?_
  refine va rfl rfl rfl (q_move (v := .func (.func 70) #[] #[]) rfl (by kernel_rfl)) ?_
  obtain ⟨z1, hz2, h⟩ := bnd h
  refine vc rfl rfl rfl (q_call (call_run Tryz.call95 rfl rfl (by kernel_rfl)) (fun w hw => t_slices_IndexFunc_api_Rec_api_Rec (Γ := Gh.all w) (hs_.mono hw.sat.le_all) hs_c (Sat.all w) hz2)) ?_
  refine va rfl rfl rfl (q_geq rfl rfl rfl) ?_
  refine va rfl rfl rfl (q_assign (v := .bool (decide (0 ≤ z1))) rfl (by kernel_rfl)) ?_
  refine WR.nil ?_
  change WC _ _ _ _ _ _
  refine WC.ret ?_
  intro w hw
  obtain rfl := Option.some.inj h
  subst hF
  exact ⟨by kernel_rfl, hw.fr⟩
set_option maxRecDepth 100000 in
set_option maxHeartbeats 400000 in
theorem t_mend_right {Γ : Gh} {w0 : World} {Al : Option Addr} {cl : Nat} {l : List Rec} (hl : Sl recT Γ Al l) (hlc : l.length ≤ cl) (hs : Sat Γ w0) {r : Bool} (h : m_mend_right l = some r) : Calls Tryz.prog 47 #[.slice Al l.length cl] w0 (fun e w' => e = .returned (.bool r) ∧ Fr no w0 w') := by
  refine calls_of (N := 6) (rs := [2]) (args := [.slice Al l.length cl]) Tryz.func47 rfl Tryz.ntmps47 Tryz.results47 rfl ?_
  obtain ⟨F, hF⟩ : ∃ F : Fm, F = ⟨no, w0, Γ⟩ := ⟨_, rfl⟩
  refine WC.here (C := CC F Γ []) ?_ (hF ▸ Cur.start0 hs)
  refine WC.rs ?_
  refine va rfl rfl rfl (q_assign (v := .bool false) rfl (by kernel_rfl)) ?_
  refine WR.nil ?_
  change WC _ _ _ _ _ _
  refine WC.rs ?_
  refine va rfl rfl rfl (q_move (v := .slice Al l.length cl) rfl (by kernel_rfl)) ?_
  obtain ⟨z1, hz2, h⟩ := bnd h
  refine vc rfl rfl rfl (q_call (call_run Tryz.call69 rfl rfl (by kernel_rfl)) (fun w hw => t_slices_ContainsFunc_api_Rec_api_Rec (Γ := Gh.all w) (hl.mono hw.sat.le_all) hlc (Sat.all w) hz2)) ?_
  refine va rfl rfl rfl (q_not rfl rfl) ?_
  refine va rfl rfl rfl (q_assign (v := .bool (!z1)) rfl (by kernel_rfl)) ?_
  refine WR.nil ?_
  change WC _ _ _ _ _ _
  refine WC.ret ?_
  intro w hw
  obtain rfl := Option.some.inj h
  subst hF
  exact ⟨by kernel_rfl, hw.fr⟩
abbrev r_mend_held (r : List (ByteArray × (List Ver))) (U : List Rowb) (Γ : Gh) (v : Value) : Prop := ∃ (g0 : Nat), ∃ (row0 : Rowb), v = .map (some g0) ∧ U = [row0] ∧ MapO (strK Tryz.underlying9) (slT verT).v Γ row0 g0 r ∧ True
set_option maxRecDepth 100000 in
set_option maxHeartbeats 400000 in
theorem t_mend_held {Γ : Gh} {w0 : World} {Al : Option Addr} {cl : Nat} {l : List Rec} (hl : Sl recT Γ Al l) (hlc : l.length ≤ cl) (hp : Pre [] Γ w0) {r : List (ByteArray × (List Ver))} (h : m_mend_held l = some r) : Calls Tryz.prog 48 #[.slice Al l.length cl] w0 (Outc Γ [] w0 (r_mend_held r)) := by
  refine calls_of (N := 20) (rs := [2]) (args := [.slice Al l.length cl]) Tryz.func48 rfl Tryz.ntmps48 Tryz.results48 rfl ?_
  obtain ⟨F, hF⟩ : ∃ F : Fm, F = ⟨ids [], w0, Γ⟩ := ⟨_, rfl⟩
  refine WC.here (C := CC F Γ []) ?_ (hF ▸ hp.start)
  refine WC.rs ?_
  refine va rfl rfl rfl (q_assign (v := .map none) rfl (by kernel_rfl)) ?_
  refine WR.nil ?_
  change WC _ _ _ _ _ _
  refine WC.rs ?_
  refine e_makeMap (strK Tryz.underlying9) (slT verT).v rfl rfl rfl rfl ?_
  intro g1 row2 hm3
  refine va rfl rfl rfl (q_assign (v := .map (some g1)) rfl (by kernel_rfl)) ?_
  refine WR.nil ?_
  change WC _ _ _ _ _ _
  refine WC.seq ?_
  refine WC.rs ?_
  refine va rfl rfl rfl (q_move (v := .slice Al l.length cl) rfl (by kernel_rfl)) ?_
  refine va rfl rfl rfl (q_len_slice rfl Tryz.underlying22 rfl) ?_
  refine va rfl rfl rfl (q_move (v := .int .i64 0) rfl (by kernel_rfl)) ?_
  refine WR.nil ?_
  change WC _ _ _ _ _ _
  refine WC.block ?_
  refine WC.forI h (fun (i8 : Nat) (m4 : List (ByteArray × (List Ver))) σ w => ∃ (row5 : Rowb), slots σ [(3, .map (some g1)), (7, .slice Al l.length cl), (8, .int .i64 ((l.length : Nat) : Int)), (9, .int .i64 ((i8 : Nat) : Int))] ∧ CC F Γ [row5] w ∧ MapO (strK Tryz.underlying9) (slT verT).v Γ row5 g1 m4 ∧ True) ?_ ?_
  · skip
    intro w hw
    exact ⟨row2, (sl_ (by kernel_rfl)), hw, hm3, trivial⟩
  rintro f7 i8 m4 σ w hi9 hlt10 hge11 ⟨row5, hsl, hw, ho6, -⟩
  refine Wpt.slots hsl ?_
  refine WC.here (C := CC F Γ [row5]) ?_ hw
  clear hw hsl
  refine WC.rs ?_
  refine va rfl rfl rfl (q_lss rfl rfl rfl) ?_
  refine WR.nil ?_
  change WC _ _ _ _ _ _
  refine WC.seq ?_
  refine WC.cond (b := (decide (((i8 : Nat) : Int) < ((l.length : Nat) : Int)))) (by kernel_rfl) (fun hb12 => ?_) (fun hb12 => ?_)
  · skip
    have hl13 := ilt hb12
    have h := hlt10 hl13
    refine WC.skip ?_
    change WC _ _ _ _ _ _
    refine WC.seq ?_
    refine WC.block ?_
    refine WC.rs ?_
    refine va rfl rfl rfl (q_ixn (i := i8) Tryz.underlying22 Tryz.sizeOf51 rfl rfl rfl hl13 (hl.some_ hl13)) ?_
    obtain ⟨A14, c15, hx16⟩ := hl.recT_at i8
    refine va rfl rfl rfl (q_lda (c := 0) (vs := [.string (gt l i8).key, .slice A14 ((gt l i8).vers).length c15]) (hx16 hl13).2 rfl Tryz.isAgg51 Tryz.sizeOf51 rfl rfl rfl) ?_
    refine e_alloc Tryz.zeroValue51 rfl rfl rfl rfl ?_
    intro g17
    refine e_st (i := 0) (v := .agg #[.string (gt l i8).key, .slice A14 ((gt l i8).vers).length c15]) (new := #[.string (gt l i8).key, .slice A14 ((gt l i8).vers).length c15]) rfl Tryz.sizeOf51 rfl rfl rfl rfl (by kernel_rfl) rfl rfl rfl rfl ?_
    refine WR.nil ?_
    change WC _ _ _ _ _ _
    refine WC.region ?_
    refine va rfl rfl rfl (q_move (v := .map (some g1)) rfl (by kernel_rfl)) ?_
    refine va rfl rfl rfl (q_fl 0 fld_51_0 rfl rfl rfl) ?_
    refine va rfl rfl rfl (q_ldl (i := 0) (v := .string (gt l i8).key) rfl rfl Tryz.isAgg9 rfl rfl) ?_
    refine va rfl rfl rfl (q_fl 1 fld_51_1 rfl rfl rfl) ?_
    refine va rfl rfl rfl (q_ldl (i := 0) (v := .slice A14 ((gt l i8).vers).length c15) rfl rfl Tryz.isAgg48 rfl rfl) ?_
    refine e_mapUpdate (i := 1) (x := ((gt l i8).key)) (v := .slice A14 ((gt l i8).vers).length c15) (a := (gt l i8).vers) rfl rfl rfl Tryz.underlying82 rfl rfl (by kernel_rfl) rfl ho6 (by exact ⟨A14, c15, rfl, (hx16 hl13).1.2.1, (hx16 hl13).1.2.2⟩) (hx16 hl13).1.1 ?_
    intro row18 hm19
    refine WR.nil ?_
    change WC _ _ _ _ _ _
    refine WC.region ?_
    refine va rfl rfl rfl (q_add_r (r := ((i8 + 1 : Nat) : Int)) rfl rfl rfl (ctr_len hl13 hl.le)) ?_
    refine va rfl rfl rfl (q_move (v := .int .i64 ((i8 + 1 : Nat) : Int)) rfl (by kernel_rfl)) ?_
    refine WR.nil ?_
    intro w hw
    exact ⟨hl13, (mput ((gt l i8).key) ((gt l i8).vers) m4), h, row18, (sl_ (by kernel_rfl)), (hw.only (is := [1]) rfl), hm19, trivial⟩
  · skip
    have h := hge11 (ige hb12)
    refine WC.exit ?_
    change WC _ _ _ _ _ _
    refine WC.rs ?_
    refine va rfl rfl rfl (q_move (v := .map (some g1)) rfl (by kernel_rfl)) ?_
    refine va rfl rfl rfl (q_assign (v := .map (some g1)) rfl (by kernel_rfl)) ?_
    refine WR.nil ?_
    change WC _ _ _ _ _ _
    refine WC.ret ?_
    intro w hw
    obtain rfl := Option.some.inj h
    subst hF
    exact end_e (is := [0]) (by kernel_rfl) hw rfl ⟨g1, row5, rfl, rfl, ho6, trivial⟩
abbrev r_vers_clone_api_Span (r : List Span) (U : List Rowb) (Γ : Gh) (v : Value) : Prop := ∃ (A0 : Option Addr), ∃ (c0 : Nat), ∃ (row0 : Rowb), v = .slice A0 r.length c0 ∧ U = [row0] ∧ Own spanT Γ 59 row0 A0 c0 r ∧ True
set_option maxRecDepth 100000 in
set_option maxHeartbeats 400000 in
theorem t_vers_clone_api_Span {Γ : Gh} {w0 : World} {Al : Option Addr} {cl : Nat} {l : List Span} (hl : Sl spanT Γ Al l) (hlc : l.length ≤ cl) (hp : Pre [] Γ w0) {r : List Span} (h : m_vers_clone_api_Span l = some r) : Calls Tryz.prog 76 #[.slice Al l.length cl] w0 (Outc Γ [] w0 (r_vers_clone_api_Span r)) := by
  refine calls_of (N := 5) (rs := [2]) (args := [.slice Al l.length cl]) Tryz.func76 rfl Tryz.ntmps76 Tryz.results76 rfl ?_
  obtain ⟨F, hF⟩ : ∃ F : Fm, F = ⟨ids [], w0, Γ⟩ := ⟨_, rfl⟩
  refine WC.here (C := CC F Γ []) ?_ (hF ▸ hp.start)
  refine WC.rs ?_
  refine va rfl rfl rfl (q_assign (v := .slice none 0 0) rfl (by kernel_rfl)) ?_
  refine WR.nil ?_
  change WC _ _ _ _ _ _
  refine WC.rs ?_
  refine va rfl rfl rfl (q_move (v := .slice Al l.length cl) rfl (by kernel_rfl)) ?_
  refine WR.sub (fun w hw => hw.pad) ?_
  obtain ⟨hk1, h⟩ := chk_some h
  refine e_append (T := spanT) (xs := []) (ys := l) elem_55 (i := 0) rfl rfl rfl rfl (by kernel_rfl) rfl rfl (Own.nil spanT Γ 59) (of_decide_eq_true hk1) (fun w hw => src_sl hl hw) ?_
  intro row2 A3 c4 ho5
  refine va rfl rfl rfl (q_assign (v := .slice A3 l.length c4) rfl (by kernel_rfl)) ?_
  refine WR.nil ?_
  change WC _ _ _ _ _ _
  refine WC.ret ?_
  intro w hw
  obtain rfl := Option.some.inj h
  subst hF
  exact end_e (is := [0]) (by kernel_rfl) hw rfl ⟨A3, c4, row2, rfl, rfl, ho5, trivial⟩
abbrev r_vers_Merge_1 (gb0 : Nat) (Ab0v : Option Addr) (cb0v : Nat) (b0v : List Ver) (gb1 : Nat) (Ab1v : Option Addr) (cb1v : Nat) (b1v : List Ver) (gb2 : Nat) (Ab2v : Option Addr) (cb2v : Nat) (b2v : List Ver) (rowb2v : Rowb) (r : List Ver) (U : List Rowb) (Γ : Gh) (v : Value) : Prop := ∃ (Ab2_0 : Option Addr), ∃ (cb2_0 : Nat), ∃ (rowb2_0 : Rowb), v = .tuple #[] ∧ U = [[(gb0, .cells #[.slice Ab0v b0v.length cb0v] 48 (0, 0))], [(gb1, .cells #[.slice Ab1v b1v.length cb1v] 48 (0, 0))], [(gb2, .cells #[.slice Ab2_0 r.length cb2_0] 48 (0, 0))], rowb2_0] ∧ Own verT Γ 57 rowb2_0 Ab2_0 cb2_0 r ∧ True
set_option maxRecDepth 100000 in
set_option maxHeartbeats 400000 in
theorem t_vers_Merge_1 {Γ : Gh} {w0 : World} {Av_2 : Option Addr} {cv_2 : Nat} (v_ : Ver) (hv_ : Ver.fits Γ Av_2 cv_2 v_) {gb0 : Nat} {Ab0v : Option Addr} {cb0v : Nat} {b0v : List Ver} (hb0v : Sl verT Γ Ab0v b0v) (hb0vc : b0v.length ≤ cb0v) {gb1 : Nat} {Ab1v : Option Addr} {cb1v : Nat} {b1v : List Ver} (hb1v : Sl verT Γ Ab1v b1v) (hb1vc : b1v.length ≤ cb1v) {gb2 : Nat} {Ab2v : Option Addr} {cb2v : Nat} {rowb2v : Rowb} {b2v : List Ver} (hb2v : Own verT Γ 57 rowb2v Ab2v cb2v b2v) (hp : Pre [[(gb0, .cells #[.slice Ab0v b0v.length cb0v] 48 (0, 0))], [(gb1, .cells #[.slice Ab1v b1v.length cb1v] 48 (0, 0))], [(gb2, .cells #[.slice Ab2v b2v.length cb2v] 48 (0, 0))], rowb2v] Γ w0) {r : List Ver} (h : m_vers_Merge_1 v_ b0v b1v b2v = some r) : Calls Tryz.prog 74 #[.agg #[.int .i64 v_.dot.s, .int .i64 v_.dot.n, .slice Av_2 v_.past.length cv_2, .bool v_.gone, .string v_.val], .pointer (some ⟨gb0, 0, none⟩), .pointer (some ⟨gb1, 0, none⟩), .pointer (some ⟨gb2, 0, none⟩)] w0 (Outc Γ [[(gb0, .cells #[.slice Ab0v b0v.length cb0v] 48 (0, 0))], [(gb1, .cells #[.slice Ab1v b1v.length cb1v] 48 (0, 0))], [(gb2, .cells #[.slice Ab2v b2v.length cb2v] 48 (0, 0))], rowb2v] w0 (r_vers_Merge_1 gb0 Ab0v cb0v b0v gb1 Ab1v cb1v b1v gb2 Ab2v cb2v b2v rowb2v r)) := by
  refine calls_of (N := 25) (rs := []) (args := [.agg #[.int .i64 v_.dot.s, .int .i64 v_.dot.n, .slice Av_2 v_.past.length cv_2, .bool v_.gone, .string v_.val], .pointer (some ⟨gb0, 0, none⟩), .pointer (some ⟨gb1, 0, none⟩), .pointer (some ⟨gb2, 0, none⟩)]) Tryz.func74 rfl Tryz.ntmps74 Tryz.results74 rfl ?_
  obtain ⟨F, hF⟩ : ∃ F : Fm, F = ⟨ids [[(gb0, .cells #[.slice Ab0v b0v.length cb0v] 48 (0, 0))], [(gb1, .cells #[.slice Ab1v b1v.length cb1v] 48 (0, 0))], [(gb2, .cells #[.slice Ab2v b2v.length cb2v] 48 (0, 0))], rowb2v], w0, Γ⟩ := ⟨_, rfl⟩
  refine WC.here (C := CC F Γ [[(gb0, .cells #[.slice Ab0v b0v.length cb0v] 48 (0, 0))], [(gb1, .cells #[.slice Ab1v b1v.length cb1v] 48 (0, 0))], [(gb2, .cells #[.slice Ab2v b2v.length cb2v] 48 (0, 0))], rowb2v]) ?_ (hF ▸ hp.start)
  refine WC.rs ?_
  refine e_box (v := .agg #[.int .i64 v_.dot.s, .int .i64 v_.dot.n, .slice Av_2 v_.past.length cv_2, .bool v_.gone, .string v_.val]) rfl rfl rfl rfl (by kernel_rfl) ?_
  intro g1
  refine WR.nil ?_
  change WC _ _ _ _ _ _
  refine WC.rs ?_
  refine va rfl rfl rfl (q_fl 0 fld_57_0 rfl rfl rfl) ?_
  refine va rfl rfl rfl (q_ldla (i := 0) (vs := [.int .i64 v_.dot.s, .int .i64 v_.dot.n]) rfl rfl Tryz.isAgg54 Tryz.sizeOf54 rfl rfl) ?_
  refine va rfl rfl rfl (q_ldl (i := 1) (v := .slice Ab0v b0v.length cb0v) rfl rfl Tryz.isAgg48 rfl rfl) ?_
  obtain ⟨z2, hz3, h⟩ := bnd h
  refine vc rfl rfl rfl (q_call (call_run Tryz.call75 rfl rfl (by kernel_rfl)) (fun w hw => t_vers_behind (Γ := Gh.all w) v_.dot ⟨hv_.1, hv_.2.1⟩ (hb0v.mono hw.sat.le_all) hb0vc (Sat.all w) hz3)) ?_
  refine va rfl rfl rfl (q_not rfl rfl) ?_
  refine va rfl rfl rfl (q_move (v := .bool (!z2)) rfl (by kernel_rfl)) ?_
  refine vg1 rfl rfl rfl rfl rfl (fun hg4 => QV.qo (q_fl 0 fld_57_0 rfl rfl rfl)) ?_
  refine vg1 rfl rfl rfl rfl rfl (fun hg5 => QV.qo (q_ldla (i := 0) (vs := [.int .i64 v_.dot.s, .int .i64 v_.dot.n]) rfl rfl Tryz.isAgg54 Tryz.sizeOf54 (gu hg5 rfl) rfl)) ?_
  refine vg1 rfl rfl rfl rfl rfl (fun hg6 => QV.qo (q_ldl (i := 2) (v := .slice Ab1v b1v.length cb1v) rfl rfl Tryz.isAgg48 rfl rfl)) ?_
  obtain ⟨z8, hz9, h⟩ := bnd h
  refine vg1 rfl rfl rfl rfl rfl (fun hg7 => (q_call (call_run Tryz.call75 rfl rfl (args2 (gu hg7 rfl) (gu hg7 rfl))) (fun w hw => t_vers_behind (Γ := Gh.all w) v_.dot ⟨hv_.1, hv_.2.1⟩ (hb1v.mono hw.sat.le_all) hb1vc (Sat.all w) (gc_of hz9 hg7)))) ?_
  refine vg1 rfl rfl rfl rfl rfl (fun hg10 => QV.qo (q_not rfl (gu hg10 rfl))) ?_
  refine va rfl rfl rfl (q_pick rfl rfl (pk_and' (g := (!z2)) (y := (!z8)))) ?_
  refine WR.nil ?_
  change WC _ _ _ _ _ _
  refine WC.cif h (by kernel_rfl) (fun hb11 h => ?_) (fun hb11 h => ?_)
  · skip
    refine WC.rs ?_
    refine va rfl rfl rfl (q_fl 2 fld_57_1 rfl rfl rfl) ?_
    refine va rfl rfl rfl (q_ldl (i := 0) (v := .slice Av_2 v_.past.length cv_2) rfl rfl Tryz.isAgg55 rfl rfl) ?_
    obtain ⟨z12, hz13, h⟩ := bnd h
    refine e_call (is := []) rfl rfl (call_run Tryz.call76 rfl rfl (by kernel_rfl)) rfl (fun w hp => t_vers_clone_api_Span hv_.2.2.1.2 hv_.2.2.1.1 hp hz13) ?_
    rintro Γ14 U16 v17 hl15 ⟨A18, c19, row20, rfl, rfl, hr21, _⟩
    change WR _ _ _ (CC F Γ14 [row20, [(g1, .cells #[.int .i64 v_.dot.s, .int .i64 v_.dot.n, .slice Av_2 v_.past.length cv_2, .bool v_.gone, .string v_.val] 57 (0, 0))], [(gb0, .cells #[.slice Ab0v b0v.length cb0v] 48 (0, 0))], [(gb1, .cells #[.slice Ab1v b1v.length cb1v] 48 (0, 0))], [(gb2, .cells #[.slice Ab2v b2v.length cb2v] 48 (0, 0))], rowb2v]) _ _ (upd _ 19 (.slice A18 z12.length c19))
    refine va rfl rfl rfl (q_fl 2 fld_57_1 rfl rfl rfl) ?_
    refine e_st (i := 1) (v := .slice A18 z12.length c19) (new := #[.int .i64 v_.dot.s, .int .i64 v_.dot.n, .slice A18 z12.length c19, .bool v_.gone, .string v_.val]) rfl Tryz.sizeOf55 rfl rfl rfl rfl (by kernel_rfl) rfl rfl rfl rfl ?_
    refine WR.nil ?_
    change WC _ _ _ _ _ _
    refine WC.region ?_
    refine va rfl rfl rfl (q_ldl (i := 4) (v := .slice Ab2v b2v.length cb2v) rfl rfl Tryz.isAgg48 rfl rfl) ?_
    refine va rfl rfl rfl (q_ldla (i := 1) (vs := [.int .i64 v_.dot.s, .int .i64 v_.dot.n, .slice A18 z12.length c19, .bool v_.gone, .string v_.val]) rfl rfl Tryz.isAgg57 Tryz.sizeOf57 rfl rfl) ?_
    have hc26 := hr21.capz
    intro w hw; obtain ⟨Γ22, hw, hl23, hr24⟩ := hw.seal (i := 0) rfl; have hs25 := hr21.sl hl23 hr24
    refine WR.here (C := CC F Γ22 [[], [(g1, .cells #[.int .i64 v_.dot.s, .int .i64 v_.dot.n, .slice A18 z12.length c19, .bool v_.gone, .string v_.val] 57 (0, 0))], [(gb0, .cells #[.slice Ab0v b0v.length cb0v] 48 (0, 0))], [(gb1, .cells #[.slice Ab1v b1v.length cb1v] 48 (0, 0))], [(gb2, .cells #[.slice Ab2v b2v.length cb2v] 48 (0, 0))], rowb2v]) ?_ hw
    clear hw
    refine e_buildSlice (cs := #[.int .i64 v_.dot.s, .int .i64 v_.dot.n, .slice A18 z12.length c19, .bool v_.gone, .string v_.val]) (e := 57) rfl rfl rfl rfl (fun w => by kernel_rfl) ?_
    intro g27
    obtain ⟨hk28, h⟩ := chk_some h
    refine e_append (T := verT) (xs := b2v) (ys := [(⟨(⟨v_.dot.s, v_.dot.n⟩ : Dot), z12, v_.gone, v_.val⟩ : Ver)]) elem_48 (i := 6) rfl rfl rfl rfl rfl rfl rfl (hb2v.mono (hl15.trans hl23)) (of_decide_eq_true hk28) (fun w hw => src_one (T := verT) (y := (⟨(⟨v_.dot.s, v_.dot.n⟩ : Dot), z12, v_.gone, v_.val⟩ : Ver)) (i := 0) rfl (by exact ⟨A18, c19, rfl, ⟨hv_.1, hv_.2.1, ⟨hc26, hs25⟩, hv_.2.2.2⟩⟩) hw) ?_
    intro row29 A30 c31 ho32
    refine e_st (i := 5) (v := .slice A30 (b2v ++ [(⟨(⟨v_.dot.s, v_.dot.n⟩ : Dot), z12, v_.gone, v_.val⟩ : Ver)]).length c31) (new := #[.slice A30 (b2v ++ [(⟨(⟨v_.dot.s, v_.dot.n⟩ : Dot), z12, v_.gone, v_.val⟩ : Ver)]).length c31]) rfl Tryz.sizeOf48 rfl rfl rfl rfl (by kernel_rfl) rfl rfl rfl rfl ?_
    refine WR.nil ?_
    intro w hw
    obtain rfl := Option.some.inj h
    subst hF
    exact end_e (is := [3, 3, 3, 3]) (by kernel_rfl) hw rfl ⟨A30, c31, row29, rfl, rfl, ho32, trivial⟩
  · skip
    refine WC.skip ?_
    intro w hw
    obtain rfl := Option.some.inj h
    subst hF
    exact end_e (is := [1, 1, 1, 1]) (by kernel_rfl) hw rfl ⟨Ab2v, cb2v, rowb2v, rfl, rfl, hb2v, trivial⟩
set_option maxRecDepth 100000 in
set_option maxHeartbeats 400000 in
theorem t_vers_same {Γ : Gh} {w0 : World} {Aa2 : Option Addr} {ca2 : Nat} (a : Ver) (ha : Ver.fits Γ Aa2 ca2 a) {Ab2 : Option Addr} {cb2 : Nat} (b : Ver) (hb : Ver.fits Γ Ab2 cb2 b) (hs : Sat Γ w0) {r : Bool} (h : m_vers_same a b = some r) : Calls Tryz.prog 78 #[.agg #[.int .i64 a.dot.s, .int .i64 a.dot.n, .slice Aa2 a.past.length ca2, .bool a.gone, .string a.val], .agg #[.int .i64 b.dot.s, .int .i64 b.dot.n, .slice Ab2 b.past.length cb2, .bool b.gone, .string b.val]] w0 (fun e w' => e = .returned (.bool r) ∧ Fr no w0 w') := by
  refine calls_of (N := 52) (rs := [4]) (args := [.agg #[.int .i64 a.dot.s, .int .i64 a.dot.n, .slice Aa2 a.past.length ca2, .bool a.gone, .string a.val], .agg #[.int .i64 b.dot.s, .int .i64 b.dot.n, .slice Ab2 b.past.length cb2, .bool b.gone, .string b.val]]) Tryz.func78 rfl Tryz.ntmps78 Tryz.results78 rfl ?_
  obtain ⟨F, hF⟩ : ∃ F : Fm, F = ⟨no, w0, Γ⟩ := ⟨_, rfl⟩
  refine WC.here (C := CC F Γ []) ?_ (hF ▸ Cur.start0 hs)
  refine WC.rs ?_
  refine e_box (v := .agg #[.int .i64 a.dot.s, .int .i64 a.dot.n, .slice Aa2 a.past.length ca2, .bool a.gone, .string a.val]) rfl rfl rfl rfl (by kernel_rfl) ?_
  intro g1
  refine e_box (v := .agg #[.int .i64 b.dot.s, .int .i64 b.dot.n, .slice Ab2 b.past.length cb2, .bool b.gone, .string b.val]) rfl rfl rfl rfl (by kernel_rfl) ?_
  intro g2
  refine va rfl rfl rfl (q_assign (v := .bool false) rfl (by kernel_rfl)) ?_
  refine WR.nil ?_
  change WC _ _ _ _ _ _
  refine WC.seq ?_
  refine WC.rs ?_
  refine va rfl rfl rfl (q_fl 0 fld_57_0 rfl rfl rfl) ?_
  refine va rfl rfl rfl (q_ldla (i := 1) (vs := [.int .i64 a.dot.s, .int .i64 a.dot.n]) rfl rfl Tryz.isAgg54 Tryz.sizeOf54 rfl rfl) ?_
  refine va rfl rfl rfl (q_fl 0 fld_57_0 rfl rfl rfl) ?_
  refine va rfl rfl rfl (q_ldla (i := 0) (vs := [.int .i64 b.dot.s, .int .i64 b.dot.n]) rfl rfl Tryz.isAgg54 Tryz.sizeOf54 rfl rfl) ?_
  refine va rfl rfl rfl (q_neq_Dot (a := a.dot) (b := b.dot) rfl rfl rfl) ?_
  refine va rfl rfl rfl (q_move (v := .bool (a.dot != b.dot)) rfl (by kernel_rfl)) ?_
  refine vg0 rfl rfl rfl rfl rfl (fun hg3 => QV.qo (q_fl 3 fld_57_2 rfl rfl rfl)) ?_
  refine vg0 rfl rfl rfl rfl rfl (fun hg4 => QV.qo (q_ldl (i := 1) (v := .bool a.gone) rfl rfl Tryz.isAgg4 (gu hg4 rfl) rfl)) ?_
  refine vg0 rfl rfl rfl rfl rfl (fun hg5 => QV.qo (q_fl 3 fld_57_2 rfl rfl rfl)) ?_
  refine vg0 rfl rfl rfl rfl rfl (fun hg6 => QV.qo (q_ldl (i := 0) (v := .bool b.gone) rfl rfl Tryz.isAgg4 (gu hg6 rfl) rfl)) ?_
  refine vg0 rfl rfl rfl rfl rfl (fun hg7 => QV.qo (q_bneq Tryz.underlying4 rfl (gu hg7 rfl) (gu hg7 rfl))) ?_
  refine va rfl rfl rfl (q_pick rfl rfl (pk_or' (g := (a.dot != b.dot)) (y := (a.gone != b.gone)))) ?_
  refine va rfl rfl rfl (q_move (v := .bool ((a.dot != b.dot) || (a.gone != b.gone))) rfl (by kernel_rfl)) ?_
  refine vg0 rfl rfl rfl rfl rfl (fun hg8 => QV.qo (q_fl 4 fld_57_3 rfl rfl rfl)) ?_
  refine vg0 rfl rfl rfl rfl rfl (fun hg9 => QV.qo (q_ldl (i := 1) (v := .string a.val) rfl rfl Tryz.isAgg9 (gu hg9 rfl) rfl)) ?_
  refine vg0 rfl rfl rfl rfl rfl (fun hg10 => QV.qo (q_fl 4 fld_57_3 rfl rfl rfl)) ?_
  refine vg0 rfl rfl rfl rfl rfl (fun hg11 => QV.qo (q_ldl (i := 0) (v := .string b.val) rfl rfl Tryz.isAgg9 (gu hg11 rfl) rfl)) ?_
  refine vg0 rfl rfl rfl rfl rfl (fun hg12 => QV.qo (q_sneq rfl (gu hg12 rfl) (gu hg12 rfl))) ?_
  refine va rfl rfl rfl (q_pick rfl rfl (pk_or' (g := ((a.dot != b.dot) || (a.gone != b.gone))) (y := (a.val != b.val)))) ?_
  refine va rfl rfl rfl (q_move (v := .bool (((a.dot != b.dot) || (a.gone != b.gone)) || (a.val != b.val))) rfl (by kernel_rfl)) ?_
  refine vg0 rfl rfl rfl rfl rfl (fun hg13 => QV.qo (q_fl 2 fld_57_1 rfl rfl rfl)) ?_
  refine vg0 rfl rfl rfl rfl rfl (fun hg14 => QV.qo (q_ldl (i := 1) (v := .slice Aa2 a.past.length ca2) rfl rfl Tryz.isAgg55 (gu hg14 rfl) rfl)) ?_
  refine vg0 rfl rfl rfl rfl rfl (fun hg15 => QV.qo (q_len_slice rfl Tryz.underlying55 (gu hg15 rfl))) ?_
  refine vg0 rfl rfl rfl rfl rfl (fun hg16 => QV.qo (q_fl 2 fld_57_1 rfl rfl rfl)) ?_
  refine vg0 rfl rfl rfl rfl rfl (fun hg17 => QV.qo (q_ldl (i := 0) (v := .slice Ab2 b.past.length cb2) rfl rfl Tryz.isAgg55 (gu hg17 rfl) rfl)) ?_
  refine vg0 rfl rfl rfl rfl rfl (fun hg18 => QV.qo (q_len_slice rfl Tryz.underlying55 (gu hg18 rfl))) ?_
  refine vg0 rfl rfl rfl rfl rfl (fun hg19 => QV.qo (q_neq rfl (gu hg19 rfl) (gu hg19 rfl))) ?_
  refine va rfl rfl rfl (q_pick rfl rfl (pk_or' (g := (((a.dot != b.dot) || (a.gone != b.gone)) || (a.val != b.val))) (y := (((a.past.length : Nat) : Int) != ((b.past.length : Nat) : Int))))) ?_
  refine WR.nil ?_
  change WC _ _ _ _ _ _
  refine WC.cif h (by kernel_rfl) (fun hb20 h => ?_) (fun hb20 h => ?_)
  · skip
    refine WC.rs ?_
    refine va rfl rfl rfl (q_assign (v := .bool false) rfl (by kernel_rfl)) ?_
    refine WR.nil ?_
    change WC _ _ _ _ _ _
    refine WC.ret ?_
    intro w hw
    obtain rfl := Option.some.inj h
    subst hF
    exact ⟨by kernel_rfl, hw.fr⟩
  · skip
    refine WC.skip ?_
    change WC _ _ _ _ _ _
    refine WC.seq ?_
    refine WC.rs ?_
    refine va rfl rfl rfl (q_fl 2 fld_57_1 rfl rfl rfl) ?_
    refine va rfl rfl rfl (q_ldl (i := 1) (v := .slice Aa2 a.past.length ca2) rfl rfl Tryz.isAgg55 rfl rfl) ?_
    refine va rfl rfl rfl (q_len_slice rfl Tryz.underlying55 rfl) ?_
    refine va rfl rfl rfl (q_move (v := .int .i64 0) rfl (by kernel_rfl)) ?_
    refine WR.nil ?_
    change WC _ _ _ _ _ _
    refine WC.block ?_
    refine WC.forI h (fun (i22 : Nat) (s : Unit) σ w => match s with | () => slots σ [(2, .pointer (some ⟨g1, 0, none⟩)), (3, .pointer (some ⟨g2, 0, none⟩)), (36, .int .i64 ((a.past.length : Nat) : Int)), (37, .int .i64 ((i22 : Nat) : Int))] ∧ CC F Γ [[(g2, .cells #[.int .i64 b.dot.s, .int .i64 b.dot.n, .slice Ab2 b.past.length cb2, .bool b.gone, .string b.val] 57 (0, 0))], [(g1, .cells #[.int .i64 a.dot.s, .int .i64 a.dot.n, .slice Aa2 a.past.length ca2, .bool a.gone, .string a.val] 57 (0, 0))]] w ∧ True) ?_ ?_
    · skip
      intro w hw
      exact ⟨(sl_ (by kernel_rfl)), hw, trivial⟩
    rintro f21 i22 ⟨⟩ σ w hi23 hlt24 hge25 ⟨hsl, hw, -⟩
    refine Wpt.slots hsl ?_
    refine WC.here (C := CC F Γ [[(g2, .cells #[.int .i64 b.dot.s, .int .i64 b.dot.n, .slice Ab2 b.past.length cb2, .bool b.gone, .string b.val] 57 (0, 0))], [(g1, .cells #[.int .i64 a.dot.s, .int .i64 a.dot.n, .slice Aa2 a.past.length ca2, .bool a.gone, .string a.val] 57 (0, 0))]]) ?_ hw
    clear hw hsl
    refine WC.rs ?_
    refine va rfl rfl rfl (q_lss rfl rfl rfl) ?_
    refine WR.nil ?_
    change WC _ _ _ _ _ _
    refine WC.seq ?_
    refine WC.cond (b := (decide (((i22 : Nat) : Int) < ((a.past.length : Nat) : Int)))) (by kernel_rfl) (fun hb26 => ?_) (fun hb26 => ?_)
    · skip
      have hl27 := ilt hb26
      have h := hlt24 hl27
      refine WC.skip ?_
      change WC _ _ _ _ _ _
      refine WC.seq ?_
      refine WC.block ?_
      refine WC.rs ?_
      refine va rfl rfl rfl (q_move (v := .int .i64 ((i22 : Nat) : Int)) rfl (by kernel_rfl)) ?_
      refine va rfl rfl rfl (q_assign (v := .int .i64 ((i22 : Nat) : Int)) rfl (by kernel_rfl)) ?_
      refine WR.nil ?_
      change WC _ _ _ _ _ _
      refine WC.seq ?_
      refine WC.dr (by kernel_rfl) (by kernel_rfl) (fun w hw => hw.drawn _) ?_
      refine wa rfl rfl rfl (q_fl 2 fld_57_1 rfl rfl rfl) ?_
      refine wa rfl rfl rfl (q_ldl (i := 1) (v := .slice Aa2 a.past.length ca2) rfl rfl Tryz.isAgg55 rfl rfl) ?_
      refine wa rfl rfl rfl (q_move (v := .int .i64 ((i22 : Nat) : Int)) rfl (by kernel_rfl)) ?_
      refine wa rfl rfl rfl (q_ixn (i := i22) Tryz.underlying55 Tryz.sizeOf59 rfl rfl rfl hl27 (ha.2.2.1.2.some_ hl27)) ?_
      refine wa rfl rfl rfl (q_lda (c := 0) (vs := [.int .i64 (gt a.past i22).s, .int .i64 (gt a.past i22).f, .int .i64 (gt a.past i22).t]) (ha.2.2.1.2.spanT_at hl27).2 rfl Tryz.isAgg59 Tryz.sizeOf59 rfl rfl rfl) ?_
      refine wa rfl rfl rfl (q_fl 2 fld_57_1 rfl rfl rfl) ?_
      refine wa rfl rfl rfl (q_ldl (i := 0) (v := .slice Ab2 b.past.length cb2) rfl rfl Tryz.isAgg55 rfl rfl) ?_
      refine wa rfl rfl rfl (q_move (v := .int .i64 ((i22 : Nat) : Int)) rfl (by kernel_rfl)) ?_
      obtain ⟨hk28, h⟩ := chk_some h
      refine wa rfl rfl rfl (q_ixn (i := i22) Tryz.underlying55 Tryz.sizeOf59 rfl rfl rfl (of_decide_eq_true hk28) (hb.2.2.1.2.some_ (of_decide_eq_true hk28))) ?_
      refine wa rfl rfl rfl (q_lda (c := 0) (vs := [.int .i64 (gt b.past i22).s, .int .i64 (gt b.past i22).f, .int .i64 (gt b.past i22).t]) (hb.2.2.1.2.spanT_at (of_decide_eq_true hk28)).2 rfl Tryz.isAgg59 Tryz.sizeOf59 rfl rfl rfl) ?_
      refine wa rfl rfl rfl (q_neq_Span (a := (gt a.past i22)) (b := (gt b.past i22)) rfl rfl rfl) ?_
      refine WQ.nil ?_
      change WC _ _ _ _ _ _
      refine WC.cif h (by kernel_rfl) (fun hb29 h => ?_) (fun hb29 h => ?_)
      · skip
        refine WC.rs ?_
        refine va rfl rfl rfl (q_assign (v := .bool false) rfl (by kernel_rfl)) ?_
        refine WR.nil ?_
        change WC _ _ _ _ _ _
        refine WC.ret ?_
        intro w hw
        obtain rfl := Option.some.inj h
        subst hF
        exact ⟨by kernel_rfl, hw.fr⟩
      · skip
        refine WC.skip ?_
        change WC _ _ _ _ _ _
        refine WC.region ?_
        refine va rfl rfl rfl (q_add_r (r := ((i22 + 1 : Nat) : Int)) rfl rfl rfl (ctr_len hl27 ha.2.2.1.2.le)) ?_
        refine va rfl rfl rfl (q_move (v := .int .i64 ((i22 + 1 : Nat) : Int)) rfl (by kernel_rfl)) ?_
        refine WR.nil ?_
        intro w hw
        exact ⟨hl27, (), h, (sl_ (by kernel_rfl)), hw, trivial⟩
    · skip
      have h := hge25 (ige hb26)
      refine WC.exit ?_
      change WC _ _ _ _ _ _
      refine WC.rs ?_
      refine va rfl rfl rfl (q_assign (v := .bool true) rfl (by kernel_rfl)) ?_
      refine WR.nil ?_
      change WC _ _ _ _ _ _
      refine WC.ret ?_
      intro w hw
      obtain rfl := Option.some.inj h
      subst hF
      exact ⟨by kernel_rfl, hw.fr⟩
abbrev r_vers_Merge (r : (List Ver) × Int) (U : List Rowb) (Γ : Gh) (v : Value) : Prop := ∃ (A0 : Option Addr), ∃ (c0 : Nat), ∃ (row0 : Rowb), v = .tuple #[.slice A0 r.1.length c0, .int .i64 r.2] ∧ U = [row0] ∧ Own verT Γ 57 row0 A0 c0 r.1 ∧ I64 r.2 ∧ True
set_option maxRecDepth 100000 in
set_option maxHeartbeats 400000 in
theorem t_vers_Merge {Γ : Gh} {w0 : World} {Aa : Option Addr} {ca : Nat} {a : List Ver} (ha : Sl verT Γ Aa a) (hac : a.length ≤ ca) {Ab : Option Addr} {cb : Nat} {b : List Ver} (hb : Sl verT Γ Ab b) (hbc : b.length ≤ cb) (hp : Pre [] Γ w0) {r : (List Ver) × Int} (h : m_vers_Merge a b = some r) : Calls Tryz.prog 52 #[.slice Aa a.length ca, .slice Ab b.length cb] w0 (Outc Γ [] w0 (r_vers_Merge r)) := by
  refine calls_of (N := 110) (rs := [4, 5]) (args := [.slice Aa a.length ca, .slice Ab b.length cb]) Tryz.func52 rfl Tryz.ntmps52 Tryz.results52 rfl ?_
  obtain ⟨F, hF⟩ : ∃ F : Fm, F = ⟨ids [], w0, Γ⟩ := ⟨_, rfl⟩
  refine WC.here (C := CC F Γ []) ?_ (hF ▸ hp.start)
  refine WC.rs ?_
  refine e_box (v := .slice Aa a.length ca) rfl rfl rfl rfl (by kernel_rfl) ?_
  intro g1
  refine e_box (v := .slice Ab b.length cb) rfl rfl rfl rfl (by kernel_rfl) ?_
  intro g2
  refine va rfl rfl rfl (q_assign (v := .slice none 0 0) rfl (by kernel_rfl)) ?_
  refine va rfl rfl rfl (q_assign (v := .int .i64 0) rfl (by kernel_rfl)) ?_
  refine WR.nil ?_
  change WC _ _ _ _ _ _
  refine WC.seq ?_
  refine WC.rs ?_
  refine va rfl rfl rfl (q_ldl (i := 1) (v := .slice Aa a.length ca) rfl rfl Tryz.isAgg48 rfl rfl) ?_
  obtain ⟨z3, hz4, h⟩ := bnd h
  refine vc rfl rfl rfl (q_call (call_run Tryz.call73 rfl rfl (by kernel_rfl)) (fun w hw => t_vers_Right (Γ := Gh.all w) (ha.mono hw.sat.le_all) hac (Sat.all w) hz4)) ?_
  refine va rfl rfl rfl (q_not rfl rfl) ?_
  refine va rfl rfl rfl (q_move (v := .bool (!z3)) rfl (by kernel_rfl)) ?_
  refine vg0 rfl rfl rfl rfl rfl (fun hg5 => QV.qo (q_ldl (i := 0) (v := .slice Ab b.length cb) rfl rfl Tryz.isAgg48 rfl rfl)) ?_
  obtain ⟨z7, hz8, h⟩ := bnd h
  refine vg0 rfl rfl rfl rfl rfl (fun hg6 => (q_call (call_run Tryz.call73 rfl rfl (args1 (gu hg6 rfl))) (fun w hw => t_vers_Right (Γ := Gh.all w) (hb.mono hw.sat.le_all) hbc (Sat.all w) (gc_of hz8 hg6)))) ?_
  refine vg0 rfl rfl rfl rfl rfl (fun hg9 => QV.qo (q_not rfl (gu hg9 rfl))) ?_
  refine va rfl rfl rfl (q_pick rfl rfl (pk_or' (g := (!z3)) (y := (!z7)))) ?_
  refine WR.nil ?_
  change WC _ _ _ _ _ _
  refine WC.cif h (by kernel_rfl) (fun hb10 h => ?_) (fun hb10 h => ?_)
  · skip
    refine WC.rs ?_
    refine va rfl rfl rfl (q_assign (v := .slice none 0 0) rfl (by kernel_rfl)) ?_
    refine va rfl rfl rfl (q_assign (v := .int .i64 1) rfl (by kernel_rfl)) ?_
    refine WR.nil ?_
    change WC _ _ _ _ _ _
    refine WC.ret ?_
    intro w hw
    have hw := hw.pad
    obtain rfl := Option.some.inj h
    subst hF
    exact end_e (is := [0]) (by kernel_rfl) hw rfl ⟨none, 0, [], rfl, rfl, (Own.nil verT _ 57), (show I64 1 by decide), trivial⟩
  · skip
    refine WC.skip ?_
    change WC _ _ _ _ _ _
    refine WC.rs ?_
    refine e_alloc Tryz.zeroValue48 rfl rfl rfl rfl ?_
    intro g11
    refine WR.nil ?_
    change WC _ _ _ _ _ _
    refine WC.rs ?_
    refine va rfl rfl rfl (q_mkfn (v := .func (.func 74) #[] #[.pointer (some ⟨g1, 0, none⟩), .pointer (some ⟨g2, 0, none⟩), .pointer (some ⟨g11, 0, none⟩)]) rfl (by kernel_rfl)) ?_
    refine va rfl rfl rfl (q_assign (v := .func (.func 74) #[] #[.pointer (some ⟨g1, 0, none⟩), .pointer (some ⟨g2, 0, none⟩), .pointer (some ⟨g11, 0, none⟩)]) rfl (by kernel_rfl)) ?_
    refine WR.nil ?_
    change WC _ _ _ _ _ _
    refine WC.rs ?_
    refine va rfl rfl rfl (q_assign (v := .bool false) rfl (by kernel_rfl)) ?_
    refine WR.nil ?_
    change WC _ _ _ _ _ _
    refine WC.seq ?_
    refine WC.rs ?_
    refine va rfl rfl rfl (q_assign (v := .int .i64 0) rfl (by kernel_rfl)) ?_
    refine va rfl rfl rfl (q_assign (v := .int .i64 0) rfl (by kernel_rfl)) ?_
    refine WR.nil ?_
    change WC _ _ _ _ _ _
    refine WC.block ?_
    refine WC.loopN h (fun (s : Bool × Int × Int × (List Ver)) σ w => match s with | (twin_14, i_15, k_17, x19) => ∃ (Γ12 : Gh), ∃ (A20 : Option Addr), ∃ (c21 : Nat), ∃ (row22 : Rowb), slots σ [(2, .pointer (some ⟨g1, 0, none⟩)), (3, .pointer (some ⟨g2, 0, none⟩)), (6, .pointer (some ⟨g11, 0, none⟩)), (7, .func (.func 74) #[] #[.pointer (some ⟨g1, 0, none⟩), .pointer (some ⟨g2, 0, none⟩), .pointer (some ⟨g11, 0, none⟩)]), (8, .bool twin_14), (9, .int .i64 i_15), (10, .int .i64 k_17)] ∧ CC F Γ12 [row22, [(g11, .cells #[.slice A20 x19.length c21] 48 (0, 0))], [(g2, .cells #[.slice Ab b.length cb] 48 (0, 0))], [(g1, .cells #[.slice Aa a.length ca] 48 (0, 0))]] w ∧ Gh.le Γ Γ12 ∧ I64 i_15 ∧ I64 k_17 ∧ Own verT Γ12 57 row22 A20 c21 x19 ∧ True) ?_ ?_
    · skip
      intro w hw
      have hw := hw.pad
      exact ⟨Γ, none, 0, [], (sl_ (by kernel_rfl)), hw, (Gh.refl _), (show I64 0 by decide), (show I64 0 by decide), (Own.nil verT _ 57), trivial⟩
    rintro f24 ⟨twin_14, i_15, k_17, x19⟩ σ w h ⟨Γ12, A20, c21, row22, hsl, hw, hl13, hr16, hr18, ho23, -⟩
    refine Wpt.slots hsl ?_
    refine WC.here (C := CC F Γ12 [row22, [(g11, .cells #[.slice A20 x19.length c21] 48 (0, 0))], [(g2, .cells #[.slice Ab b.length cb] 48 (0, 0))], [(g1, .cells #[.slice Aa a.length ca] 48 (0, 0))]]) ?_ hw
    clear hw hsl
    refine WC.seq ?_
    refine WC.rs ?_
    refine va rfl rfl rfl (q_move (v := .int .i64 i_15) rfl (by kernel_rfl)) ?_
    refine va rfl rfl rfl (q_ldl (i := 3) (v := .slice Aa a.length ca) rfl rfl Tryz.isAgg48 rfl rfl) ?_
    refine va rfl rfl rfl (q_len_slice rfl Tryz.underlying48 rfl) ?_
    refine va rfl rfl rfl (q_lss rfl rfl rfl) ?_
    refine va rfl rfl rfl (q_move (v := .bool (decide (i_15 < ((a.length : Nat) : Int)))) rfl (by kernel_rfl)) ?_
    refine vg0 rfl rfl rfl rfl rfl (fun hg28 => QV.qo (q_move (v := .int .i64 k_17) rfl (by kernel_rfl))) ?_
    refine vg0 rfl rfl rfl rfl rfl (fun hg29 => QV.qo (q_ldl (i := 2) (v := .slice Ab b.length cb) rfl rfl Tryz.isAgg48 rfl rfl)) ?_
    refine vg0 rfl rfl rfl rfl rfl (fun hg30 => QV.qo (q_len_slice rfl Tryz.underlying48 (gu hg30 rfl))) ?_
    refine vg0 rfl rfl rfl rfl rfl (fun hg31 => QV.qo (q_lss rfl (gu hg31 rfl) (gu hg31 rfl))) ?_
    refine va rfl rfl rfl (q_pick rfl rfl (pk_or' (g := (decide (i_15 < ((a.length : Nat) : Int)))) (y := (decide (k_17 < ((b.length : Nat) : Int)))))) ?_
    refine WR.nil ?_
    change WC _ _ _ _ _ _
    refine WC.cif h (by kernel_rfl) (fun hb32 h => ?_) (fun hb32 h => ?_)
    · skip
      refine WC.skip ?_
      change WC _ _ _ _ _ _
      refine WC.block ?_
      refine WC.block ?_
      refine WC.seq ?_
      refine WC.dr (by kernel_rfl) (by kernel_rfl) (fun w hw => hw.drawn _) ?_
      refine wa rfl rfl rfl (q_move (v := .int .i64 k_17) rfl (by kernel_rfl)) ?_
      refine wa rfl rfl rfl (q_ldl (i := 2) (v := .slice Ab b.length cb) rfl rfl Tryz.isAgg48 rfl rfl) ?_
      refine wa rfl rfl rfl (q_len_slice rfl Tryz.underlying48 rfl) ?_
      refine wa rfl rfl rfl (q_eql rfl rfl rfl) ?_
      refine wa rfl rfl rfl (q_move (v := .bool (k_17 == ((b.length : Nat) : Int))) rfl (by kernel_rfl)) ?_
      refine wg0 rfl rfl rfl rfl rfl (fun hg33 => QV.qo (q_move (v := .int .i64 i_15) rfl (by kernel_rfl))) ?_
      refine wg0 rfl rfl rfl rfl rfl (fun hg34 => QV.qo (q_ldl (i := 3) (v := .slice Aa a.length ca) rfl rfl Tryz.isAgg48 rfl rfl)) ?_
      refine wg0 rfl rfl rfl rfl rfl (fun hg35 => QV.qo (q_len_slice rfl Tryz.underlying48 (gu hg35 rfl))) ?_
      refine wg0 rfl rfl rfl rfl rfl (fun hg36 => QV.qo (q_lss rfl (gu hg36 rfl) (gu hg36 rfl))) ?_
      refine wg0 rfl rfl rfl rfl rfl (fun hg37 => QV.qo (q_move (v := .bool (decide (i_15 < ((a.length : Nat) : Int)))) rfl (gu hg37 rfl))) ?_
      refine wh1 (c0 := (!(k_17 == ((b.length : Nat) : Int)))) (g := (decide (i_15 < ((a.length : Nat) : Int)))) rfl rfl rfl rfl rfl (fun hg38 => QV.qo (q_ldl (i := 3) (v := .slice Aa a.length ca) rfl rfl Tryz.isAgg48 rfl rfl)) ?_
      refine wh1 (c0 := (!(k_17 == ((b.length : Nat) : Int)))) (g := (decide (i_15 < ((a.length : Nat) : Int)))) rfl rfl rfl rfl rfl (fun hg39 => QV.qo (q_move (v := .int .i64 i_15) rfl (by kernel_rfl))) ?_
      obtain ⟨hk41, h⟩ := chk_some h
      refine wh1 (c0 := (!(k_17 == ((b.length : Nat) : Int)))) (g := (decide (i_15 < ((a.length : Nat) : Int)))) rfl rfl rfl rfl rfl (fun hg40 => QV.qo (q_ix Tryz.underlying48 Tryz.sizeOf57 rfl (gu hg40 rfl) (gu hg40 rfl) (imp_of hk41 hg40) ((ha.mono hl13).some_ (inb_lt (imp_of hk41 hg40))))) ?_
      refine wh1 (c0 := (!(k_17 == ((b.length : Nat) : Int)))) (g := (decide (i_15 < ((a.length : Nat) : Int)))) rfl rfl rfl rfl rfl (fun hg42 => QV.qo (q_field_addr (i_15.toNat * 5) fld_57_0 rfl (gu hg42 rfl) ((ha.mono hl13).some_ (inb_lt (imp_of hk41 hg42))) rfl)) ?_
      obtain ⟨A44, c45, hx46⟩ := (ha.mono hl13).verT_at i_15.toNat
      refine wh1 (c0 := (!(k_17 == ((b.length : Nat) : Int)))) (g := (decide (i_15 < ((a.length : Nat) : Int)))) rfl rfl rfl rfl rfl (fun hg43 => QV.qo (q_lda (c := 0) (vs := [.int .i64 (gt a i_15.toNat).dot.s, .int .i64 (gt a i_15.toNat).dot.n]) (hx46 (inb_lt (imp_of hk41 hg43))).2 rfl Tryz.isAgg54 Tryz.sizeOf54 (gu hg43 rfl) rfl rfl)) ?_
      refine wh1 (c0 := (!(k_17 == ((b.length : Nat) : Int)))) (g := (decide (i_15 < ((a.length : Nat) : Int)))) rfl rfl rfl rfl rfl (fun hg47 => QV.qo (q_ldl (i := 2) (v := .slice Ab b.length cb) rfl rfl Tryz.isAgg48 rfl rfl)) ?_
      refine wh1 (c0 := (!(k_17 == ((b.length : Nat) : Int)))) (g := (decide (i_15 < ((a.length : Nat) : Int)))) rfl rfl rfl rfl rfl (fun hg48 => QV.qo (q_move (v := .int .i64 k_17) rfl (by kernel_rfl))) ?_
      obtain ⟨hk50, h⟩ := chk_some h
      refine wh1 (c0 := (!(k_17 == ((b.length : Nat) : Int)))) (g := (decide (i_15 < ((a.length : Nat) : Int)))) rfl rfl rfl rfl rfl (fun hg49 => QV.qo (q_ix Tryz.underlying48 Tryz.sizeOf57 rfl (gu hg49 rfl) (gu hg49 rfl) (imp_of hk50 hg49) ((hb.mono hl13).some_ (inb_lt (imp_of hk50 hg49))))) ?_
      refine wh1 (c0 := (!(k_17 == ((b.length : Nat) : Int)))) (g := (decide (i_15 < ((a.length : Nat) : Int)))) rfl rfl rfl rfl rfl (fun hg51 => QV.qo (q_field_addr (k_17.toNat * 5) fld_57_0 rfl (gu hg51 rfl) ((hb.mono hl13).some_ (inb_lt (imp_of hk50 hg51))) rfl)) ?_
      obtain ⟨A53, c54, hx55⟩ := (hb.mono hl13).verT_at k_17.toNat
      refine wh1 (c0 := (!(k_17 == ((b.length : Nat) : Int)))) (g := (decide (i_15 < ((a.length : Nat) : Int)))) rfl rfl rfl rfl rfl (fun hg52 => QV.qo (q_lda (c := 0) (vs := [.int .i64 (gt b k_17.toNat).dot.s, .int .i64 (gt b k_17.toNat).dot.n]) (hx55 (inb_lt (imp_of hk50 hg52))).2 rfl Tryz.isAgg54 Tryz.sizeOf54 (gu hg52 rfl) rfl rfl)) ?_
      obtain ⟨z57, hz58, h⟩ := bnd h
      refine wh1 (c0 := (!(k_17 == ((b.length : Nat) : Int)))) (g := (decide (i_15 < ((a.length : Nat) : Int)))) rfl rfl rfl rfl rfl (fun hg56 => (q_call (call_run Tryz.call77 rfl rfl (args2 (gu hg56 rfl) (gu hg56 rfl))) (fun w hw => t_vers_before (Γ := Gh.all w) ((gt a i_15.toNat).dot) ⟨(hx46 (inb_lt (imp_of hk41 hg56))).1.1, (hx46 (inb_lt (imp_of hk41 hg56))).1.2.1⟩ ((gt b k_17.toNat).dot) ⟨(hx55 (inb_lt (imp_of hk50 hg56))).1.1, (hx55 (inb_lt (imp_of hk50 hg56))).1.2.1⟩ (Sat.all w) (gc_of hz58 hg56)))) ?_
      refine wg0 rfl rfl rfl rfl rfl (fun hg59 => QV.qo (q_pick rfl (gu hg59 rfl) (pk_and (c := (!(k_17 == ((b.length : Nat) : Int)))) (g := (decide (i_15 < ((a.length : Nat) : Int)))) (y := z57) hg59))) ?_
      refine wa rfl rfl rfl (q_pick rfl rfl (pk_or' (g := (k_17 == ((b.length : Nat) : Int))) (y := ((decide (i_15 < ((a.length : Nat) : Int))) && z57)))) ?_
      refine wa rfl rfl rfl (q_assign (v := .bool ((k_17 == ((b.length : Nat) : Int)) || ((decide (i_15 < ((a.length : Nat) : Int))) && z57))) rfl (by kernel_rfl)) ?_
      refine WQ.nil ?_
      change WC _ _ _ _ _ _
      refine WC.cif h (by kernel_rfl) (fun hb60 h => ?_) (fun hb60 h => ?_)
      · skip
        refine WC.rs ?_
        refine va rfl rfl rfl (q_move (v := .func (.func 74) #[] #[.pointer (some ⟨g1, 0, none⟩), .pointer (some ⟨g2, 0, none⟩), .pointer (some ⟨g11, 0, none⟩)]) rfl (by kernel_rfl)) ?_
        refine va rfl rfl rfl (q_ldl (i := 3) (v := .slice Aa a.length ca) rfl rfl Tryz.isAgg48 rfl rfl) ?_
        refine va rfl rfl rfl (q_move (v := .int .i64 i_15) rfl (by kernel_rfl)) ?_
        obtain ⟨hk61, h⟩ := chk_some h
        refine va rfl rfl rfl (q_ix Tryz.underlying48 Tryz.sizeOf57 rfl rfl rfl hk61 ((ha.mono hl13).some_ (inb_lt hk61))) ?_
        refine va rfl rfl rfl (q_lda (c := 0) (vs := [.int .i64 (gt a i_15.toNat).dot.s, .int .i64 (gt a i_15.toNat).dot.n, .slice A44 ((gt a i_15.toNat).past).length c45, .bool (gt a i_15.toNat).gone, .string (gt a i_15.toNat).val]) (hx46 (inb_lt hk61)).2 rfl Tryz.isAgg57 Tryz.sizeOf57 rfl rfl rfl) ?_
        obtain ⟨z62, hz63, h⟩ := bnd h
        refine e_call (is := [3, 2, 1, 0]) rfl rfl (call_run_fv (caps := #[.pointer (some ⟨g1, 0, none⟩), .pointer (some ⟨g2, 0, none⟩), .pointer (some ⟨g11, 0, none⟩)]) Tryz.call74 rfl (by kernel_rfl) (by kernel_rfl)) rfl (fun w hp => t_vers_Merge_1 (gt a i_15.toNat) (hx46 (inb_lt hk61)).1 (ha.mono hl13) hac (hb.mono hl13) hbc ho23 hp hz63) ?_
        rintro Γ64 U66 v67 hl65 ⟨A68, c69, row70, rfl, rfl, hr71, _⟩
        change WR _ _ _ (CC F Γ64 [[(g1, .cells #[.slice Aa a.length ca] 48 (0, 0))], [(g2, .cells #[.slice Ab b.length cb] 48 (0, 0))], [(g11, .cells #[.slice A68 z62.length c69] 48 (0, 0))], row70]) _ _ (upd _ 67 (.tuple #[]))
        refine WR.nil ?_
        change WC _ _ _ _ _ _
        refine WC.region ?_
        refine va rfl rfl rfl (q_move (v := .int .i64 i_15) rfl (by kernel_rfl)) ?_
        refine va rfl rfl rfl (q_add rfl rfl rfl) ?_
        refine va rfl rfl rfl (q_assign (v := .int .i64 (w64 (i_15 + 1))) rfl (by kernel_rfl)) ?_
        refine WR.nil ?_
        intro w hw
        exact ⟨(twin_14, (w64 (i_15 + 1)), k_17, z62), h, Γ64, A68, c69, row70, (sl_ (by kernel_rfl)), (hw.only (is := [3, 2, 1, 0]) rfl), (hl13.trans hl65), (w64_r _), hr18, hr71, trivial⟩
      · skip
        refine WC.seq ?_
        refine WC.dr (by kernel_rfl) (by kernel_rfl) (fun w hw => hw.drawn _) ?_
        refine wa rfl rfl rfl (q_move (v := .int .i64 i_15) rfl (by kernel_rfl)) ?_
        refine wa rfl rfl rfl (q_ldl (i := 3) (v := .slice Aa a.length ca) rfl rfl Tryz.isAgg48 rfl rfl) ?_
        refine wa rfl rfl rfl (q_len_slice rfl Tryz.underlying48 rfl) ?_
        refine wa rfl rfl rfl (q_lss rfl rfl rfl) ?_
        refine wa rfl rfl rfl (q_move (v := .bool (decide (i_15 < ((a.length : Nat) : Int)))) rfl (by kernel_rfl)) ?_
        refine wg1 rfl rfl rfl rfl rfl (fun hg72 => QV.qo (q_ldl (i := 3) (v := .slice Aa a.length ca) rfl rfl Tryz.isAgg48 rfl rfl)) ?_
        refine wg1 rfl rfl rfl rfl rfl (fun hg73 => QV.qo (q_move (v := .int .i64 i_15) rfl (by kernel_rfl))) ?_
        obtain ⟨hk75, h⟩ := chk_some h
        refine wg1 rfl rfl rfl rfl rfl (fun hg74 => QV.qo (q_ix Tryz.underlying48 Tryz.sizeOf57 rfl (gu hg74 rfl) (gu hg74 rfl) (imp_of hk75 hg74) ((ha.mono hl13).some_ (inb_lt (imp_of hk75 hg74))))) ?_
        refine wg1 rfl rfl rfl rfl rfl (fun hg76 => QV.qo (q_field_addr (i_15.toNat * 5) fld_57_0 rfl (gu hg76 rfl) ((ha.mono hl13).some_ (inb_lt (imp_of hk75 hg76))) rfl)) ?_
        refine wg1 rfl rfl rfl rfl rfl (fun hg77 => QV.qo (q_lda (c := 0) (vs := [.int .i64 (gt a i_15.toNat).dot.s, .int .i64 (gt a i_15.toNat).dot.n]) (hx46 (inb_lt (imp_of hk75 hg77))).2 rfl Tryz.isAgg54 Tryz.sizeOf54 (gu hg77 rfl) rfl rfl)) ?_
        refine wg1 rfl rfl rfl rfl rfl (fun hg78 => QV.qo (q_ldl (i := 2) (v := .slice Ab b.length cb) rfl rfl Tryz.isAgg48 rfl rfl)) ?_
        refine wg1 rfl rfl rfl rfl rfl (fun hg79 => QV.qo (q_move (v := .int .i64 k_17) rfl (by kernel_rfl))) ?_
        obtain ⟨hk81, h⟩ := chk_some h
        refine wg1 rfl rfl rfl rfl rfl (fun hg80 => QV.qo (q_ix Tryz.underlying48 Tryz.sizeOf57 rfl (gu hg80 rfl) (gu hg80 rfl) (imp_of hk81 hg80) ((hb.mono hl13).some_ (inb_lt (imp_of hk81 hg80))))) ?_
        refine wg1 rfl rfl rfl rfl rfl (fun hg82 => QV.qo (q_field_addr (k_17.toNat * 5) fld_57_0 rfl (gu hg82 rfl) ((hb.mono hl13).some_ (inb_lt (imp_of hk81 hg82))) rfl)) ?_
        refine wg1 rfl rfl rfl rfl rfl (fun hg83 => QV.qo (q_lda (c := 0) (vs := [.int .i64 (gt b k_17.toNat).dot.s, .int .i64 (gt b k_17.toNat).dot.n]) (hx55 (inb_lt (imp_of hk81 hg83))).2 rfl Tryz.isAgg54 Tryz.sizeOf54 (gu hg83 rfl) rfl rfl)) ?_
        refine wg1 rfl rfl rfl rfl rfl (fun hg84 => QV.qo (q_eql_Dot (a := (gt a i_15.toNat).dot) (b := (gt b k_17.toNat).dot) rfl (gu hg84 rfl) (gu hg84 rfl))) ?_
        refine wa rfl rfl rfl (q_pick rfl rfl (pk_and' (g := (decide (i_15 < ((a.length : Nat) : Int)))) (y := ((gt a i_15.toNat).dot == (gt b k_17.toNat).dot)))) ?_
        refine wa rfl rfl rfl (q_assign (v := .bool ((decide (i_15 < ((a.length : Nat) : Int))) && ((gt a i_15.toNat).dot == (gt b k_17.toNat).dot))) rfl (by kernel_rfl)) ?_
        refine WQ.nil ?_
        change WC _ _ _ _ _ _
        refine WC.cif h (by kernel_rfl) (fun hb85 h => ?_) (fun hb85 h => ?_)
        · skip
          refine WC.seq ?_
          refine WC.dr (by kernel_rfl) (by kernel_rfl) (fun w hw => hw.drawn _) ?_
          refine wa rfl rfl rfl (q_move (v := .bool twin_14) rfl (by kernel_rfl)) ?_
          refine wa rfl rfl rfl (q_move (v := .bool twin_14) rfl (by kernel_rfl)) ?_
          refine wg0 rfl rfl rfl rfl rfl (fun hg86 => QV.qo (q_ldl (i := 3) (v := .slice Aa a.length ca) rfl rfl Tryz.isAgg48 rfl rfl)) ?_
          refine wg0 rfl rfl rfl rfl rfl (fun hg87 => QV.qo (q_move (v := .int .i64 i_15) rfl (by kernel_rfl))) ?_
          obtain ⟨hk89, h⟩ := chk_some h
          refine wg0 rfl rfl rfl rfl rfl (fun hg88 => QV.qo (q_ix Tryz.underlying48 Tryz.sizeOf57 rfl (gu hg88 rfl) (gu hg88 rfl) (imp_of hk89 hg88) ((ha.mono hl13).some_ (inb_lt (imp_of hk89 hg88))))) ?_
          refine wg0 rfl rfl rfl rfl rfl (fun hg90 => QV.qo (q_lda (c := 0) (vs := [.int .i64 (gt a i_15.toNat).dot.s, .int .i64 (gt a i_15.toNat).dot.n, .slice A44 ((gt a i_15.toNat).past).length c45, .bool (gt a i_15.toNat).gone, .string (gt a i_15.toNat).val]) (hx46 (inb_lt (imp_of hk89 hg90))).2 rfl Tryz.isAgg57 Tryz.sizeOf57 (gu hg90 rfl) rfl rfl)) ?_
          refine wg0 rfl rfl rfl rfl rfl (fun hg91 => QV.qo (q_ldl (i := 2) (v := .slice Ab b.length cb) rfl rfl Tryz.isAgg48 rfl rfl)) ?_
          refine wg0 rfl rfl rfl rfl rfl (fun hg92 => QV.qo (q_move (v := .int .i64 k_17) rfl (by kernel_rfl))) ?_
          obtain ⟨hk94, h⟩ := chk_some h
          refine wg0 rfl rfl rfl rfl rfl (fun hg93 => QV.qo (q_ix Tryz.underlying48 Tryz.sizeOf57 rfl (gu hg93 rfl) (gu hg93 rfl) (imp_of hk94 hg93) ((hb.mono hl13).some_ (inb_lt (imp_of hk94 hg93))))) ?_
          refine wg0 rfl rfl rfl rfl rfl (fun hg95 => QV.qo (q_lda (c := 0) (vs := [.int .i64 (gt b k_17.toNat).dot.s, .int .i64 (gt b k_17.toNat).dot.n, .slice A53 ((gt b k_17.toNat).past).length c54, .bool (gt b k_17.toNat).gone, .string (gt b k_17.toNat).val]) (hx55 (inb_lt (imp_of hk94 hg95))).2 rfl Tryz.isAgg57 Tryz.sizeOf57 (gu hg95 rfl) rfl rfl)) ?_
          obtain ⟨z97, hz98, h⟩ := bnd h
          refine wg0 rfl rfl rfl rfl rfl (fun hg96 => (q_call (call_run Tryz.call78 rfl rfl (args2 (gu hg96 rfl) (gu hg96 rfl))) (fun w hw => t_vers_same (Γ := Gh.all w) (gt a i_15.toNat) (Ver.fits_mono (hx46 (inb_lt (imp_of hk89 hg96))).1 hw.sat.le_all) (gt b k_17.toNat) (Ver.fits_mono (hx55 (inb_lt (imp_of hk94 hg96))).1 hw.sat.le_all) (Sat.all w) (gc_of hz98 hg96)))) ?_
          refine wg0 rfl rfl rfl rfl rfl (fun hg99 => QV.qo (q_not rfl (gu hg99 rfl))) ?_
          refine wa rfl rfl rfl (q_pick rfl rfl (pk_or' (g := twin_14) (y := (!z97)))) ?_
          refine wa rfl rfl rfl (q_assign (v := .bool (twin_14 || (!z97))) rfl (by kernel_rfl)) ?_
          refine WQ.nil ?_
          change WC _ _ _ _ _ _
          refine WC.region ?_
          refine va rfl rfl rfl (q_move (v := .int .i64 i_15) rfl (by kernel_rfl)) ?_
          refine va rfl rfl rfl (q_add rfl rfl rfl) ?_
          refine va rfl rfl rfl (q_assign (v := .int .i64 (w64 (i_15 + 1))) rfl (by kernel_rfl)) ?_
          refine WR.nil ?_
          intro w hw
          exact ⟨((twin_14 || (!z97)), (w64 (i_15 + 1)), k_17, x19), h, Γ12, A20, c21, row22, (sl_ (by kernel_rfl)), hw, hl13, (w64_r _), hr18, ho23, trivial⟩
        · skip
          refine WC.rs ?_
          refine va rfl rfl rfl (q_move (v := .func (.func 74) #[] #[.pointer (some ⟨g1, 0, none⟩), .pointer (some ⟨g2, 0, none⟩), .pointer (some ⟨g11, 0, none⟩)]) rfl (by kernel_rfl)) ?_
          refine va rfl rfl rfl (q_ldl (i := 2) (v := .slice Ab b.length cb) rfl rfl Tryz.isAgg48 rfl rfl) ?_
          refine va rfl rfl rfl (q_move (v := .int .i64 k_17) rfl (by kernel_rfl)) ?_
          obtain ⟨hk100, h⟩ := chk_some h
          refine va rfl rfl rfl (q_ix Tryz.underlying48 Tryz.sizeOf57 rfl rfl rfl hk100 ((hb.mono hl13).some_ (inb_lt hk100))) ?_
          refine va rfl rfl rfl (q_lda (c := 0) (vs := [.int .i64 (gt b k_17.toNat).dot.s, .int .i64 (gt b k_17.toNat).dot.n, .slice A53 ((gt b k_17.toNat).past).length c54, .bool (gt b k_17.toNat).gone, .string (gt b k_17.toNat).val]) (hx55 (inb_lt hk100)).2 rfl Tryz.isAgg57 Tryz.sizeOf57 rfl rfl rfl) ?_
          obtain ⟨z101, hz102, h⟩ := bnd h
          refine e_call (is := [3, 2, 1, 0]) rfl rfl (call_run_fv (caps := #[.pointer (some ⟨g1, 0, none⟩), .pointer (some ⟨g2, 0, none⟩), .pointer (some ⟨g11, 0, none⟩)]) Tryz.call74 rfl (by kernel_rfl) (by kernel_rfl)) rfl (fun w hp => t_vers_Merge_1 (gt b k_17.toNat) (hx55 (inb_lt hk100)).1 (ha.mono hl13) hac (hb.mono hl13) hbc ho23 hp hz102) ?_
          rintro Γ103 U105 v106 hl104 ⟨A107, c108, row109, rfl, rfl, hr110, _⟩
          change WR _ _ _ (CC F Γ103 [[(g1, .cells #[.slice Aa a.length ca] 48 (0, 0))], [(g2, .cells #[.slice Ab b.length cb] 48 (0, 0))], [(g11, .cells #[.slice A107 z101.length c108] 48 (0, 0))], row109]) _ _ (upd _ 35 (.tuple #[]))
          refine WR.nil ?_
          change WC _ _ _ _ _ _
          refine WC.region ?_
          refine va rfl rfl rfl (q_move (v := .int .i64 k_17) rfl (by kernel_rfl)) ?_
          refine va rfl rfl rfl (q_add rfl rfl rfl) ?_
          refine va rfl rfl rfl (q_assign (v := .int .i64 (w64 (k_17 + 1))) rfl (by kernel_rfl)) ?_
          refine WR.nil ?_
          intro w hw
          exact ⟨(twin_14, i_15, (w64 (k_17 + 1)), z101), h, Γ103, A107, c108, row109, (sl_ (by kernel_rfl)), (hw.only (is := [3, 2, 1, 0]) rfl), (hl13.trans hl104), hr16, (w64_r _), hr110, trivial⟩
    · skip
      refine WC.exit ?_
      change WC _ _ _ _ _ _
      refine WC.seq ?_
      refine WC.block ?_
      refine WC.rs ?_
      refine va rfl rfl rfl (q_move (v := .bool twin_14) rfl (by kernel_rfl)) ?_
      refine va rfl rfl rfl (q_assign (v := .bool twin_14) rfl (by kernel_rfl)) ?_
      refine WR.nil ?_
      change WC _ _ _ _ _ _
      refine WC.cif h (by kernel_rfl) (fun hb111 h => ?_) (fun hb111 h => ?_)
      · skip
        refine WC.rs ?_
        refine va rfl rfl rfl (q_assign (v := .slice none 0 0) rfl (by kernel_rfl)) ?_
        refine va rfl rfl rfl (q_assign (v := .int .i64 50) rfl (by kernel_rfl)) ?_
        refine WR.nil ?_
        change WC _ _ _ _ _ _
        refine WC.ret ?_
        intro w hw
        have hw := hw.pad
        obtain rfl := Option.some.inj h
        subst hF
        exact end_e (is := [0]) (by kernel_rfl) hw rfl ⟨none, 0, [], rfl, rfl, (Own.nil verT _ 57), (show I64 50 by decide), trivial⟩
      · skip
        refine WC.rs ?_
        refine va rfl rfl rfl (q_ldl (i := 1) (v := .slice A20 x19.length c21) rfl rfl Tryz.isAgg48 rfl rfl) ?_
        refine va rfl rfl rfl (q_len_slice rfl Tryz.underlying48 rfl) ?_
        refine va rfl rfl rfl (q_gtr rfl rfl rfl) ?_
        refine va rfl rfl rfl (q_assign (v := .bool (decide (512 < ((x19.length : Nat) : Int)))) rfl (by kernel_rfl)) ?_
        refine WR.nil ?_
        change WC _ _ _ _ _ _
        refine WC.cif h (by kernel_rfl) (fun hb112 h => ?_) (fun hb112 h => ?_)
        · skip
          refine WC.rs ?_
          refine va rfl rfl rfl (q_assign (v := .slice none 0 0) rfl (by kernel_rfl)) ?_
          refine va rfl rfl rfl (q_assign (v := .int .i64 3) rfl (by kernel_rfl)) ?_
          refine WR.nil ?_
          change WC _ _ _ _ _ _
          refine WC.ret ?_
          intro w hw
          have hw := hw.pad
          obtain rfl := Option.some.inj h
          subst hF
          exact end_e (is := [0]) (by kernel_rfl) hw rfl ⟨none, 0, [], rfl, rfl, (Own.nil verT _ 57), (show I64 3 by decide), trivial⟩
        · skip
          refine WC.skip ?_
          change WC _ _ _ _ _ _
          refine WC.rs ?_
          refine va rfl rfl rfl (q_ldl (i := 1) (v := .slice A20 x19.length c21) rfl rfl Tryz.isAgg48 rfl rfl) ?_
          refine va rfl rfl rfl (q_assign (v := .slice A20 x19.length c21) rfl (by kernel_rfl)) ?_
          refine va rfl rfl rfl (q_assign (v := .int .i64 0) rfl (by kernel_rfl)) ?_
          refine WR.nil ?_
          change WC _ _ _ _ _ _
          refine WC.ret ?_
          intro w hw
          obtain rfl := Option.some.inj h
          subst hF
          exact end_e (is := [0]) (by kernel_rfl) hw rfl ⟨A20, c21, row22, rfl, rfl, ho23, (show I64 0 by decide), trivial⟩
set_option maxRecDepth 100000 in
set_option maxHeartbeats 400000 in
theorem t_vers_Same {Γ : Gh} {w0 : World} {Aa : Option Addr} {ca : Nat} {a : List Ver} (ha : Sl verT Γ Aa a) (hac : a.length ≤ ca) {Ab : Option Addr} {cb : Nat} {b : List Ver} (hb : Sl verT Γ Ab b) (hbc : b.length ≤ cb) (hs : Sat Γ w0) {r : Bool} (h : m_vers_Same a b = some r) : Calls Tryz.prog 55 #[.slice Aa a.length ca, .slice Ab b.length cb] w0 (fun e w' => e = .returned (.bool r) ∧ Fr no w0 w') := by
  refine calls_of (N := 30) (rs := [4]) (args := [.slice Aa a.length ca, .slice Ab b.length cb]) Tryz.func55 rfl Tryz.ntmps55 Tryz.results55 rfl ?_
  obtain ⟨F, hF⟩ : ∃ F : Fm, F = ⟨no, w0, Γ⟩ := ⟨_, rfl⟩
  refine WC.here (C := CC F Γ []) ?_ (hF ▸ Cur.start0 hs)
  refine WC.rs ?_
  refine va rfl rfl rfl (q_assign (v := .bool false) rfl (by kernel_rfl)) ?_
  refine WR.nil ?_
  change WC _ _ _ _ _ _
  refine WC.seq ?_
  refine WC.rs ?_
  refine va rfl rfl rfl (q_move (v := .slice Aa a.length ca) rfl (by kernel_rfl)) ?_
  refine va rfl rfl rfl (q_len_slice rfl Tryz.underlying48 rfl) ?_
  refine va rfl rfl rfl (q_move (v := .slice Ab b.length cb) rfl (by kernel_rfl)) ?_
  refine va rfl rfl rfl (q_len_slice rfl Tryz.underlying48 rfl) ?_
  refine va rfl rfl rfl (q_min rfl rfl rfl) ?_
  refine va rfl rfl rfl (q_move (v := .int .i64 0) rfl (by kernel_rfl)) ?_
  refine WR.nil ?_
  change WC _ _ _ _ _ _
  refine WC.block ?_
  refine WC.forU h (fun (i2 : Nat) (s : Unit) σ w => match s with | () => slots σ [(0, .slice Aa a.length ca), (1, .slice Ab b.length cb), (10, .int .i64 (min ((a.length : Nat) : Int) ((b.length : Nat) : Int))), (11, .int .i64 ((i2 : Nat) : Int))] ∧ CC F Γ [] w ∧ True) ?_ ?_
  · skip
    intro w hw
    exact ⟨(sl_ (by kernel_rfl)), hw, trivial⟩
  rintro f1 i2 ⟨⟩ σ w hi3 hlt4 hge5 ⟨hsl, hw, -⟩
  refine Wpt.slots hsl ?_
  refine WC.here (C := CC F Γ []) ?_ hw
  clear hw hsl
  refine WC.rs ?_
  refine va rfl rfl rfl (q_lss rfl rfl rfl) ?_
  refine WR.nil ?_
  change WC _ _ _ _ _ _
  refine WC.seq ?_
  refine WC.cond (b := (decide (((i2 : Nat) : Int) < (min ((a.length : Nat) : Int) ((b.length : Nat) : Int))))) (by kernel_rfl) (fun hb6 => ?_) (fun hb6 => ?_)
  · skip
    have hl7 := ilti hb6
    have h := hlt4 hl7
    refine WC.skip ?_
    change WC _ _ _ _ _ _
    refine WC.seq ?_
    refine WC.block ?_
    refine WC.rs ?_
    refine va rfl rfl rfl (q_move (v := .int .i64 ((i2 : Nat) : Int)) rfl (by kernel_rfl)) ?_
    refine va rfl rfl rfl (q_assign (v := .int .i64 ((i2 : Nat) : Int)) rfl (by kernel_rfl)) ?_
    refine WR.nil ?_
    change WC _ _ _ _ _ _
    refine WC.seq ?_
    refine WC.dr (by kernel_rfl) (by kernel_rfl) (fun w hw => hw.drawn _) ?_
    refine wa rfl rfl rfl (q_move (v := .slice Aa a.length ca) rfl (by kernel_rfl)) ?_
    refine wa rfl rfl rfl (q_move (v := .int .i64 ((i2 : Nat) : Int)) rfl (by kernel_rfl)) ?_
    obtain ⟨hk8, h⟩ := chk_some h
    refine wa rfl rfl rfl (q_ixn (i := i2) Tryz.underlying48 Tryz.sizeOf57 rfl rfl rfl (of_decide_eq_true hk8) (ha.some_ (of_decide_eq_true hk8))) ?_
    obtain ⟨A9, c10, hx11⟩ := ha.verT_at i2
    refine wa rfl rfl rfl (q_lda (c := 0) (vs := [.int .i64 (gt a i2).dot.s, .int .i64 (gt a i2).dot.n, .slice A9 ((gt a i2).past).length c10, .bool (gt a i2).gone, .string (gt a i2).val]) (hx11 (of_decide_eq_true hk8)).2 rfl Tryz.isAgg57 Tryz.sizeOf57 rfl rfl rfl) ?_
    refine wa rfl rfl rfl (q_move (v := .slice Ab b.length cb) rfl (by kernel_rfl)) ?_
    refine wa rfl rfl rfl (q_move (v := .int .i64 ((i2 : Nat) : Int)) rfl (by kernel_rfl)) ?_
    obtain ⟨hk12, h⟩ := chk_some h
    refine wa rfl rfl rfl (q_ixn (i := i2) Tryz.underlying48 Tryz.sizeOf57 rfl rfl rfl (of_decide_eq_true hk12) (hb.some_ (of_decide_eq_true hk12))) ?_
    obtain ⟨A13, c14, hx15⟩ := hb.verT_at i2
    refine wa rfl rfl rfl (q_lda (c := 0) (vs := [.int .i64 (gt b i2).dot.s, .int .i64 (gt b i2).dot.n, .slice A13 ((gt b i2).past).length c14, .bool (gt b i2).gone, .string (gt b i2).val]) (hx15 (of_decide_eq_true hk12)).2 rfl Tryz.isAgg57 Tryz.sizeOf57 rfl rfl rfl) ?_
    obtain ⟨z16, hz17, h⟩ := bnd h
    refine wc rfl rfl rfl (q_call (call_run Tryz.call78 rfl rfl (by kernel_rfl)) (fun w hw => t_vers_same (Γ := Gh.all w) (gt a i2) (Ver.fits_mono (hx11 (of_decide_eq_true hk8)).1 hw.sat.le_all) (gt b i2) (Ver.fits_mono (hx15 (of_decide_eq_true hk12)).1 hw.sat.le_all) (Sat.all w) hz17)) ?_
    refine wa rfl rfl rfl (q_not rfl rfl) ?_
    refine WQ.nil ?_
    change WC _ _ _ _ _ _
    refine WC.cif h (by kernel_rfl) (fun hb18 h => ?_) (fun hb18 h => ?_)
    · skip
      refine WC.rs ?_
      refine va rfl rfl rfl (q_assign (v := .bool false) rfl (by kernel_rfl)) ?_
      refine WR.nil ?_
      change WC _ _ _ _ _ _
      refine WC.ret ?_
      intro w hw
      obtain rfl := Option.some.inj h
      subst hF
      exact ⟨by kernel_rfl, hw.fr⟩
    · skip
      refine WC.skip ?_
      change WC _ _ _ _ _ _
      refine WC.region ?_
      refine va rfl rfl rfl (q_add_r (r := ((i2 + 1 : Nat) : Int)) rfl rfl rfl (ctr_int hl7 (min_r (len_r ha.le) (len_r hb.le)))) ?_
      refine va rfl rfl rfl (q_move (v := .int .i64 ((i2 + 1 : Nat) : Int)) rfl (by kernel_rfl)) ?_
      refine WR.nil ?_
      intro w hw
      exact ⟨hl7, (), h, (sl_ (by kernel_rfl)), hw, trivial⟩
  · skip
    have h := hge5 (igei hb6)
    refine WC.exit ?_
    change WC _ _ _ _ _ _
    refine WC.rs ?_
    refine va rfl rfl rfl (q_move (v := .slice Aa a.length ca) rfl (by kernel_rfl)) ?_
    refine va rfl rfl rfl (q_len_slice rfl Tryz.underlying48 rfl) ?_
    refine va rfl rfl rfl (q_move (v := .slice Ab b.length cb) rfl (by kernel_rfl)) ?_
    refine va rfl rfl rfl (q_len_slice rfl Tryz.underlying48 rfl) ?_
    refine va rfl rfl rfl (q_eql rfl rfl rfl) ?_
    refine va rfl rfl rfl (q_assign (v := .bool (((a.length : Nat) : Int) == ((b.length : Nat) : Int))) rfl (by kernel_rfl)) ?_
    refine WR.nil ?_
    change WC _ _ _ _ _ _
    refine WC.ret ?_
    intro w hw
    obtain rfl := Option.some.inj h
    subst hF
    exact ⟨by kernel_rfl, hw.fr⟩
abbrev r_mend_Take (r : (List Rec) × Int) (U : List Rowb) (Γ : Gh) (v : Value) : Prop := ∃ (A0 : Option Addr), ∃ (c0 : Nat), ∃ (row0 : Rowb), v = .tuple #[.slice A0 r.1.length c0, .int .i64 r.2] ∧ U = [row0] ∧ Own recT Γ 51 row0 A0 c0 r.1 ∧ I64 r.2 ∧ True
set_option maxRecDepth 100000 in
set_option maxHeartbeats 400000 in
theorem t_mend_Take {Γ : Gh} {w0 : World} {Aown : Option Addr} {cown : Nat} {own : List Rec} (hown : Sl recT Γ Aown own) (hownc : own.length ≤ cown) {Atheirs : Option Addr} {ctheirs : Nat} {theirs : List Rec} (htheirs : Sl recT Γ Atheirs theirs) (htheirsc : theirs.length ≤ ctheirs) (hp : Pre [] Γ w0) {r : (List Rec) × Int} (h : m_mend_Take own theirs = some r) : Calls Tryz.prog 23 #[.slice Aown own.length cown, .slice Atheirs theirs.length ctheirs] w0 (Outc Γ [] w0 (r_mend_Take r)) := by
  refine calls_of (N := 83) (rs := [4, 5]) (args := [.slice Aown own.length cown, .slice Atheirs theirs.length ctheirs]) Tryz.func23 rfl Tryz.ntmps23 Tryz.results23 rfl ?_
  obtain ⟨F, hF⟩ : ∃ F : Fm, F = ⟨ids [], w0, Γ⟩ := ⟨_, rfl⟩
  refine WC.here (C := CC F Γ []) ?_ (hF ▸ hp.start)
  refine WC.rs ?_
  refine va rfl rfl rfl (q_assign (v := .slice none 0 0) rfl (by kernel_rfl)) ?_
  refine va rfl rfl rfl (q_assign (v := .int .i64 0) rfl (by kernel_rfl)) ?_
  refine WR.nil ?_
  change WC _ _ _ _ _ _
  refine WC.seq ?_
  refine WC.rs ?_
  refine va rfl rfl rfl (q_move (v := .slice Aown own.length cown) rfl (by kernel_rfl)) ?_
  obtain ⟨z1, hz2, h⟩ := bnd h
  refine vc rfl rfl rfl (q_call (call_run Tryz.call47 rfl rfl (by kernel_rfl)) (fun w hw => t_mend_right (Γ := Gh.all w) (hown.mono hw.sat.le_all) hownc (Sat.all w) hz2)) ?_
  refine va rfl rfl rfl (q_not rfl rfl) ?_
  refine va rfl rfl rfl (q_move (v := .bool (!z1)) rfl (by kernel_rfl)) ?_
  refine vg0 rfl rfl rfl rfl rfl (fun hg3 => QV.qo (q_move (v := .slice Atheirs theirs.length ctheirs) rfl (by kernel_rfl))) ?_
  obtain ⟨z5, hz6, h⟩ := bnd h
  refine vg0 rfl rfl rfl rfl rfl (fun hg4 => (q_call (call_run Tryz.call47 rfl rfl (args1 (gu hg4 rfl))) (fun w hw => t_mend_right (Γ := Gh.all w) (htheirs.mono hw.sat.le_all) htheirsc (Sat.all w) (gc_of hz6 hg4)))) ?_
  refine vg0 rfl rfl rfl rfl rfl (fun hg7 => QV.qo (q_not rfl (gu hg7 rfl))) ?_
  refine va rfl rfl rfl (q_pick rfl rfl (pk_or' (g := (!z1)) (y := (!z5)))) ?_
  refine WR.nil ?_
  change WC _ _ _ _ _ _
  refine WC.cif h (by kernel_rfl) (fun hb8 h => ?_) (fun hb8 h => ?_)
  · skip
    refine WC.rs ?_
    refine va rfl rfl rfl (q_assign (v := .slice none 0 0) rfl (by kernel_rfl)) ?_
    refine va rfl rfl rfl (q_assign (v := .int .i64 1) rfl (by kernel_rfl)) ?_
    refine WR.nil ?_
    change WC _ _ _ _ _ _
    refine WC.ret ?_
    intro w hw
    have hw := hw.pad
    obtain rfl := Option.some.inj h
    subst hF
    exact end_e (is := [0]) (by kernel_rfl) hw rfl ⟨none, 0, [], rfl, rfl, (Own.nil recT _ 51), (show I64 1 by decide), trivial⟩
  · skip
    refine WC.skip ?_
    change WC _ _ _ _ _ _
    refine WC.rs ?_
    refine va rfl rfl rfl (q_move (v := .slice Aown own.length cown) rfl (by kernel_rfl)) ?_
    obtain ⟨z9, hz10, h⟩ := bnd h
    refine e_call (is := []) rfl rfl (call_run Tryz.call48 rfl rfl (by kernel_rfl)) rfl (fun w hp => t_mend_held hown hownc hp hz10) ?_
    rintro Γ11 U13 v14 hl12 ⟨g15, row16, rfl, rfl, hr17, _⟩
    change WR _ _ _ (CC F Γ11 [row16]) _ _ (upd _ 24 (.map (some g15)))
    refine va rfl rfl rfl (q_move (v := .slice Aown own.length cown) rfl (by kernel_rfl)) ?_
    obtain ⟨z18, hz19, h⟩ := bnd h
    refine e_call (is := []) rfl rfl (call_run Tryz.call48 rfl rfl (by kernel_rfl)) rfl (fun w hp => t_mend_held (hown.mono hl12) hownc hp hz19) ?_
    rintro Γ20 U22 v23 hl21 ⟨g24, row25, rfl, rfl, hr26, _⟩
    change WR _ _ _ (CC F Γ20 [row25, row16]) _ _ (upd _ 26 (.map (some g24)))
    refine va rfl rfl rfl (q_assign (v := .map (some g15)) rfl (by kernel_rfl)) ?_
    refine va rfl rfl rfl (q_assign (v := .map (some g24)) rfl (by kernel_rfl)) ?_
    refine WR.nil ?_
    change WC _ _ _ _ _ _
    refine WC.seq ?_
    refine WC.rs ?_
    refine va rfl rfl rfl (q_move (v := .slice Atheirs theirs.length ctheirs) rfl (by kernel_rfl)) ?_
    refine va rfl rfl rfl (q_len_slice rfl Tryz.underlying22 rfl) ?_
    refine va rfl rfl rfl (q_move (v := .int .i64 0) rfl (by kernel_rfl)) ?_
    refine WR.nil ?_
    change WC _ _ _ _ _ _
    refine WC.block ?_
    refine WC.forI h (fun (i33 : Nat) (m29 : List (ByteArray × (List Ver))) σ w => ∃ (Γ27 : Gh), ∃ (row30 : Rowb), slots σ [(6, .map (some g15)), (7, .map (some g24)), (27, .slice Atheirs theirs.length ctheirs), (28, .int .i64 ((theirs.length : Nat) : Int)), (29, .int .i64 ((i33 : Nat) : Int))] ∧ CC F Γ27 [row25, row30] w ∧ Gh.le Γ20 Γ27 ∧ MapO (strK Tryz.underlying9) (slT verT).v Γ27 row30 g15 m29 ∧ True) ?_ ?_
    · skip
      intro w hw
      exact ⟨Γ20, row16, (sl_ (by kernel_rfl)), hw, (Gh.refl _), (hr17.mono hl21), trivial⟩
    rintro f32 i33 m29 σ w hi34 hlt35 hge36 ⟨Γ27, row30, hsl, hw, hl28, ho31, -⟩
    refine Wpt.slots hsl ?_
    refine WC.here (C := CC F Γ27 [row25, row30]) ?_ hw
    clear hw hsl
    refine WC.rs ?_
    refine va rfl rfl rfl (q_lss rfl rfl rfl) ?_
    refine WR.nil ?_
    change WC _ _ _ _ _ _
    refine WC.seq ?_
    refine WC.cond (b := (decide (((i33 : Nat) : Int) < ((theirs.length : Nat) : Int)))) (by kernel_rfl) (fun hb37 => ?_) (fun hb37 => ?_)
    · skip
      have hl38 := ilt hb37
      have h := hlt35 hl38
      refine WC.skip ?_
      change WC _ _ _ _ _ _
      refine WC.cut (fun σ w => ∃ (m41 : List (ByteArray × (List Ver))), ∃ (Γ39 : Gh), ∃ (row42 : Rowb), m_mend_Take_j5 f32 m41 = some r ∧ slots σ [(6, .map (some g15)), (7, .map (some g24)), (27, .slice Atheirs theirs.length ctheirs), (28, .int .i64 ((theirs.length : Nat) : Int)), (29, .int .i64 ((i33 : Nat) : Int))] ∧ CC F Γ39 [row25, row42] w ∧ Gh.le Γ27 Γ39 ∧ MapO (strK Tryz.underlying9) (slT verT).v Γ39 row42 g15 m41 ∧ True) ?_ ?_
      · skip
        refine WC.block ?_
        refine WC.rs ?_
        refine va rfl rfl rfl (q_ixn (i := i33) Tryz.underlying22 Tryz.sizeOf51 rfl rfl rfl hl38 ((htheirs.mono ((hl12.trans hl21).trans hl28)).some_ hl38)) ?_
        obtain ⟨A44, c45, hx46⟩ := (htheirs.mono ((hl12.trans hl21).trans hl28)).recT_at i33
        refine va rfl rfl rfl (q_lda (c := 0) (vs := [.string (gt theirs i33).key, .slice A44 ((gt theirs i33).vers).length c45]) (hx46 hl38).2 rfl Tryz.isAgg51 Tryz.sizeOf51 rfl rfl rfl) ?_
        refine e_alloc Tryz.zeroValue51 rfl rfl rfl rfl ?_
        intro g47
        refine e_st (i := 0) (v := .agg #[.string (gt theirs i33).key, .slice A44 ((gt theirs i33).vers).length c45]) (new := #[.string (gt theirs i33).key, .slice A44 ((gt theirs i33).vers).length c45]) rfl Tryz.sizeOf51 rfl rfl rfl rfl (by kernel_rfl) rfl rfl rfl rfl ?_
        refine WR.nil ?_
        change WC _ _ _ _ _ _
        refine WC.rs ?_
        refine va rfl rfl rfl (q_move (v := .map (some g15)) rfl (by kernel_rfl)) ?_
        refine va rfl rfl rfl (q_fl 0 fld_51_0 rfl rfl rfl) ?_
        refine va rfl rfl rfl (q_ldl (i := 0) (v := .string (gt theirs i33).key) rfl rfl Tryz.isAgg9 rfl rfl) ?_
        obtain ⟨v48, ⟨A51, c52, hv49, hc53, hs54⟩, hat50⟩ := MapO.look ho31 ((gt theirs i33).key) (z := .slice none 0 0) (zx := []) ⟨none, 0, rfl, Nat.zero_le _, Sl.nil _ _ _⟩
        obtain rfl : v48 = _ := List.cons.inj hv49 |>.1
        refine va rfl rfl rfl (q_lookup1 (v := .slice A51 ((mget ((gt theirs i33).key) m29).getD []).length c52) hat50 rfl Tryz.underlying82 Tryz.zeroValue48 rfl rfl (i := 2) rfl) ?_
        refine va rfl rfl rfl (q_fl 1 fld_51_1 rfl rfl rfl) ?_
        refine va rfl rfl rfl (q_ldl (i := 0) (v := .slice A44 ((gt theirs i33).vers).length c45) rfl rfl Tryz.isAgg48 rfl rfl) ?_
        obtain ⟨z55, hz56, h⟩ := bnd h
        refine e_call (is := []) rfl rfl (call_run Tryz.call52 rfl rfl (by kernel_rfl)) rfl (fun w hp => t_vers_Merge hs54 hc53 (hx46 hl38).1.2.2 (hx46 hl38).1.2.1 hp hz56) ?_
        rintro Γ57 U59 v60 hl58 ⟨A61, c62, row63, rfl, rfl, hr64, hr65, _⟩
        change WR _ _ _ (CC F Γ57 [row63, [(g47, .cells #[.string (gt theirs i33).key, .slice A44 ((gt theirs i33).vers).length c45] 51 (0, 0))], row25, row30]) _ _ (upd _ 40 (.tuple #[.slice A61 z55.1.length c62, .int .i64 z55.2]))
        refine va rfl rfl rfl (q_move (v := .tuple #[.slice A61 z55.1.length c62, .int .i64 z55.2]) rfl (by kernel_rfl)) ?_
        refine va rfl rfl rfl (q_extract (v := .slice A61 z55.1.length c62) rfl rfl rfl) ?_
        refine va rfl rfl rfl (q_extract (v := .int .i64 z55.2) rfl rfl rfl) ?_
        refine va rfl rfl rfl (q_assign (v := .slice A61 z55.1.length c62) rfl (by kernel_rfl)) ?_
        refine va rfl rfl rfl (q_assign (v := .int .i64 z55.2) rfl (by kernel_rfl)) ?_
        refine WR.nil ?_
        change WC _ _ _ _ _ _
        refine WC.rs ?_
        refine va rfl rfl rfl (q_move (v := .int .i64 z55.2) rfl (by kernel_rfl)) ?_
        refine va rfl rfl rfl (q_eql rfl rfl rfl) ?_
        refine WR.nil ?_
        change WC _ _ _ _ _ _
        refine WC.cif h (by kernel_rfl) (fun hb66 h => ?_) (fun hb66 h => ?_)
        · skip
          refine WC.region ?_
          refine va rfl rfl rfl (q_move (v := .map (some g15)) rfl (by kernel_rfl)) ?_
          refine va rfl rfl rfl (q_fl 0 fld_51_0 rfl rfl rfl) ?_
          refine va rfl rfl rfl (q_ldl (i := 1) (v := .string (gt theirs i33).key) rfl rfl Tryz.isAgg9 rfl rfl) ?_
          refine va rfl rfl rfl (q_move (v := .slice A61 z55.1.length c62) rfl (by kernel_rfl)) ?_
          have hc71 := hr64.capz
          intro w hw; obtain ⟨Γ67, hw, hl68, hr69⟩ := hw.seal (i := 0) rfl; have hs70 := hr64.sl hl68 hr69
          refine WR.here (C := CC F Γ67 [[], [(g47, .cells #[.string (gt theirs i33).key, .slice A44 ((gt theirs i33).vers).length c45] 51 (0, 0))], row25, row30]) ?_ hw
          clear hw
          refine e_mapUpdate (i := 3) (x := ((gt theirs i33).key)) (v := .slice A61 z55.1.length c62) (a := z55.1) rfl rfl rfl Tryz.underlying82 rfl rfl (by kernel_rfl) rfl (ho31.mono (hl58.trans hl68)) (by exact ⟨A61, c62, rfl, hc71, hs70⟩) (hx46 hl38).1.1 ?_
          intro row72 hm73
          refine WR.nil ?_
          intro w hw
          exact ⟨(mput ((gt theirs i33).key) z55.1 m29), Γ67, row72, h, (sl_ (by kernel_rfl)), (hw.only (is := [2, 2]) rfl), (hl58.trans hl68), hm73, trivial⟩
        · skip
          refine WC.skip ?_
          intro w hw
          exact ⟨m29, Γ57, row30, h, (sl_ (by kernel_rfl)), (hw.only (is := [2, 2]) rfl), hl58, (ho31.mono hl58), trivial⟩
      · skip
        rintro σ w ⟨m41, Γ39, row42, h, hsl, hw, hl40, ho43, -⟩
        refine Wpt.slots hsl ?_
        refine WC.here (C := CC F Γ39 [row25, row42]) ?_ hw
        clear hw hsl
        refine WC.region ?_
        refine va rfl rfl rfl (q_add_r (r := ((i33 + 1 : Nat) : Int)) rfl rfl rfl (ctr_len hl38 (htheirs.mono ((hl12.trans hl21).trans hl28)).le)) ?_
        refine va rfl rfl rfl (q_move (v := .int .i64 ((i33 + 1 : Nat) : Int)) rfl (by kernel_rfl)) ?_
        refine WR.nil ?_
        intro w hw
        exact ⟨hl38, m41, h, Γ39, row42, (sl_ (by kernel_rfl)), hw, (hl28.trans hl40), ho43, trivial⟩
    · skip
      have h := hge36 (ige hb37)
      refine WC.exit ?_
      change WC _ _ _ _ _ _
      refine WC.rs ?_
      refine va rfl rfl rfl (q_assign (v := .slice none 0 0) rfl (by kernel_rfl)) ?_
      refine WR.nil ?_
      change WC _ _ _ _ _ _
      refine WC.seq ?_
      refine WC.rs ?_
      refine va rfl rfl rfl (q_move (v := .map (some g15)) rfl (by kernel_rfl)) ?_
      refine e_keys (ρ := keys54_ren) keys54 (mb := some g15) rfl rfl (call_run Tryz.call54 rfl rfl (by kernel_rfl)) ?_
      intro g74
      change WR _ _ _ (CC F Γ27 [[(g74, .cells #[.map (some g15)] 82 (0, 0))], row25, row30]) _ _ (upd _ 51 (.func (.func 81) #[] #[.pointer (some ⟨g74, 0, none⟩)]))
      obtain ⟨hk75, h⟩ := chk_some h
      refine e_call (is := [0, 1]) rfl rfl (call_run Tryz.call53 rfl rfl (by kernel_rfl)) rfl (fun w hp => sk53_54 ho31 (of_decide_eq_true hk75) hp) ?_
      rintro Γ76 U78 v79 hl77 ⟨A80, c81, row82, rfl, rfl, ho83⟩
      change WR _ _ _ (CC F Γ76 [[(g74, .cells #[.map (some g15)] 82 (0, 0))], row30, row82, row25]) _ _ (upd _ 52 (.slice A80 (skeys m29).length c81))
      refine va rfl rfl rfl (q_len_slice rfl Tryz.underlying89 rfl) ?_
      refine va rfl rfl rfl (q_move (v := .int .i64 0) rfl (by kernel_rfl)) ?_
      refine WR.nil ?_
      change WC _ _ _ _ _ _
      refine WC.block ?_
      refine WC.forI h (fun (i90 : Nat) (out_84 : List Rec) σ w => ∃ (A85 : Option Addr), ∃ (c86 : Nat), ∃ (row87 : Rowb), slots σ [(6, .map (some g15)), (7, .map (some g24)), (12, .slice A85 out_84.length c86), (52, .slice A80 (skeys m29).length c81), (53, .int .i64 (((skeys m29).length : Nat) : Int)), (54, .int .i64 ((i90 : Nat) : Int))] ∧ CC F Γ76 [row87, row30, row82, row25] w ∧ Own recT Γ76 51 row87 A85 c86 out_84 ∧ True) ?_ ?_
      · skip
        intro w hw
        have hw := hw.pad
        exact ⟨none, 0, [], (sl_ (by kernel_rfl)), (hw.only (is := [0, 1, 1, 1]) rfl), (Own.nil recT _ 51), trivial⟩
      rintro f89 i90 out_84 σ w hi91 hlt92 hge93 ⟨A85, c86, row87, hsl, hw, ho88, -⟩
      refine Wpt.slots hsl ?_
      refine WC.here (C := CC F Γ76 [row87, row30, row82, row25]) ?_ hw
      clear hw hsl
      refine WC.rs ?_
      refine va rfl rfl rfl (q_lss rfl rfl rfl) ?_
      refine WR.nil ?_
      change WC _ _ _ _ _ _
      refine WC.seq ?_
      refine WC.cond (b := (decide (((i90 : Nat) : Int) < (((skeys m29).length : Nat) : Int)))) (by kernel_rfl) (fun hb94 => ?_) (fun hb94 => ?_)
      · skip
        have hl95 := ilt hb94
        have h := hlt92 hl95
        refine WC.skip ?_
        change WC _ _ _ _ _ _
        refine WC.cut (fun σ w => ∃ (out_96 : List Rec), ∃ (A97 : Option Addr), ∃ (c98 : Nat), ∃ (row99 : Rowb), m_mend_Take_j10 f89 out_96 = some r ∧ slots σ [(6, .map (some g15)), (7, .map (some g24)), (12, .slice A97 out_96.length c98), (52, .slice A80 (skeys m29).length c81), (53, .int .i64 (((skeys m29).length : Nat) : Int)), (54, .int .i64 ((i90 : Nat) : Int))] ∧ CC F Γ76 [row99, row30, row82, row25] w ∧ Own recT Γ76 51 row99 A97 c98 out_96 ∧ True) ?_ ?_
        · skip
          refine WC.block ?_
          refine WC.rs ?_
          refine va rfl rfl rfl (q_ixn (i := i90) Tryz.underlying89 Tryz.sizeOf9 rfl rfl rfl hl95 (ho83.some_ hl95)) ?_
          refine va rfl rfl rfl (q_ldo (c := 0) (v := .string (gt (skeys m29) i90)) (i := 2) rfl (ho83.strT_at hl95).2 rfl Tryz.isAgg9 rfl rfl) ?_
          refine va rfl rfl rfl (q_assign (v := .string (gt (skeys m29) i90)) rfl (by kernel_rfl)) ?_
          refine WR.nil ?_
          change WC _ _ _ _ _ _
          refine WC.rs ?_
          refine va rfl rfl rfl (q_move (v := .map (some g15)) rfl (by kernel_rfl)) ?_
          refine va rfl rfl rfl (q_move (v := .string (gt (skeys m29) i90)) rfl (by kernel_rfl)) ?_
          obtain ⟨v101, ⟨A104, c105, hv102, hc106, hs107⟩, hat103⟩ := MapO.look (ho31.mono hl77) (gt (skeys m29) i90) (z := .slice none 0 0) (zx := []) ⟨none, 0, rfl, Nat.zero_le _, Sl.nil _ _ _⟩
          obtain rfl : v101 = _ := List.cons.inj hv102 |>.1
          refine va rfl rfl rfl (q_lookup1 (v := .slice A104 ((mget (gt (skeys m29) i90) m29).getD []).length c105) hat103 rfl Tryz.underlying82 Tryz.zeroValue48 rfl rfl (i := 1) rfl) ?_
          refine va rfl rfl rfl (q_len_slice rfl Tryz.underlying48 rfl) ?_
          refine va rfl rfl rfl (q_gtr rfl rfl rfl) ?_
          refine va rfl rfl rfl (q_move (v := .bool (decide (0 < ((((mget (gt (skeys m29) i90) m29).getD []).length : Nat) : Int)))) rfl (by kernel_rfl)) ?_
          refine vg1 rfl rfl rfl rfl rfl (fun hg108 => QV.qo (q_move (v := .map (some g15)) rfl (by kernel_rfl))) ?_
          refine vg1 rfl rfl rfl rfl rfl (fun hg109 => QV.qo (q_move (v := .string (gt (skeys m29) i90)) rfl (by kernel_rfl))) ?_
          obtain ⟨v111, ⟨A114, c115, hv112, hc116, hs117⟩, hat113⟩ := MapO.look (ho31.mono hl77) (gt (skeys m29) i90) (z := .slice none 0 0) (zx := []) ⟨none, 0, rfl, Nat.zero_le _, Sl.nil _ _ _⟩
          obtain rfl : v111 = _ := List.cons.inj hv112 |>.1
          refine vg1 rfl rfl rfl rfl rfl (fun hg110 => QV.qo (q_lookup1 (v := .slice A114 ((mget (gt (skeys m29) i90) m29).getD []).length c115) hat113 rfl Tryz.underlying82 Tryz.zeroValue48 (gu hg110 rfl) (gu hg110 rfl) (i := 1) rfl)) ?_
          refine vg1 rfl rfl rfl rfl rfl (fun hg118 => QV.qo (q_move (v := .map (some g24)) rfl (by kernel_rfl))) ?_
          refine vg1 rfl rfl rfl rfl rfl (fun hg119 => QV.qo (q_move (v := .string (gt (skeys m29) i90)) rfl (by kernel_rfl))) ?_
          obtain ⟨v121, ⟨A124, c125, hv122, hc126, hs127⟩, hat123⟩ := MapO.look (hr26.mono (hl28.trans hl77)) (gt (skeys m29) i90) (z := .slice none 0 0) (zx := []) ⟨none, 0, rfl, Nat.zero_le _, Sl.nil _ _ _⟩
          obtain rfl : v121 = _ := List.cons.inj hv122 |>.1
          refine vg1 rfl rfl rfl rfl rfl (fun hg120 => QV.qo (q_lookup1 (v := .slice A124 ((mget (gt (skeys m29) i90) z18).getD []).length c125) hat123 rfl Tryz.underlying82 Tryz.zeroValue48 (gu hg120 rfl) (gu hg120 rfl) (i := 3) rfl)) ?_
          obtain ⟨z129, hz130, h⟩ := bnd h
          refine vg1 rfl rfl rfl rfl rfl (fun hg128 => (q_call (call_run Tryz.call55 rfl rfl (args2 (gu hg128 rfl) (gu hg128 rfl))) (fun w hw => t_vers_Same (Γ := Gh.all w) (hs117.mono hw.sat.le_all) hc116 (hs127.mono hw.sat.le_all) hc126 (Sat.all w) (gc_of hz130 hg128)))) ?_
          refine vg1 rfl rfl rfl rfl rfl (fun hg131 => QV.qo (q_not rfl (gu hg131 rfl))) ?_
          refine va rfl rfl rfl (q_pick rfl rfl (pk_and' (g := (decide (0 < ((((mget (gt (skeys m29) i90) m29).getD []).length : Nat) : Int)))) (y := (!z129)))) ?_
          refine WR.nil ?_
          change WC _ _ _ _ _ _
          refine WC.cif h (by kernel_rfl) (fun hb132 h => ?_) (fun hb132 h => ?_)
          · skip
            refine WC.region ?_
            refine va rfl rfl rfl (q_move (v := .slice A85 out_84.length c86) rfl (by kernel_rfl)) ?_
            refine va rfl rfl rfl (q_move (v := .string (gt (skeys m29) i90)) rfl (by kernel_rfl)) ?_
            refine va rfl rfl rfl (q_move (v := .map (some g15)) rfl (by kernel_rfl)) ?_
            refine va rfl rfl rfl (q_move (v := .string (gt (skeys m29) i90)) rfl (by kernel_rfl)) ?_
            obtain ⟨v133, ⟨A136, c137, hv134, hc138, hs139⟩, hat135⟩ := MapO.look (ho31.mono hl77) (gt (skeys m29) i90) (z := .slice none 0 0) (zx := []) ⟨none, 0, rfl, Nat.zero_le _, Sl.nil _ _ _⟩
            obtain rfl : v133 = _ := List.cons.inj hv134 |>.1
            refine va rfl rfl rfl (q_lookup1 (v := .slice A136 ((mget (gt (skeys m29) i90) m29).getD []).length c137) hat135 rfl Tryz.underlying82 Tryz.zeroValue48 rfl rfl (i := 1) rfl) ?_
            refine va rfl rfl rfl (q_build' (v := .agg #[.string (gt (skeys m29) i90), .slice A136 ((mget (gt (skeys m29) i90) m29).getD []).length c137]) rfl (bargs2 rfl rfl) (fun w => by kernel_rfl)) ?_
            refine e_buildSlice (cs := #[.string (gt (skeys m29) i90), .slice A136 ((mget (gt (skeys m29) i90) m29).getD []).length c137]) (e := 51) rfl rfl rfl rfl (fun w => by kernel_rfl) ?_
            intro g140
            obtain ⟨hk141, h⟩ := chk_some h
            refine e_append (T := recT) (xs := out_84) (ys := [(⟨(gt (skeys m29) i90), ((mget (gt (skeys m29) i90) m29).getD [])⟩ : Rec)]) elem_22 (i := 1) rfl rfl rfl rfl rfl rfl rfl ho88 (of_decide_eq_true hk141) (fun w hw => src_one (T := recT) (y := (⟨(gt (skeys m29) i90), ((mget (gt (skeys m29) i90) m29).getD [])⟩ : Rec)) (i := 0) rfl (by exact ⟨A136, c137, rfl, ⟨(ho83.strT_at hl95).1, ⟨hc138, hs139⟩⟩⟩) hw) ?_
            intro row142 A143 c144 ho145
            refine va rfl rfl rfl (q_assign (v := .slice A143 (out_84 ++ [(⟨(gt (skeys m29) i90), ((mget (gt (skeys m29) i90) m29).getD [])⟩ : Rec)]).length c144) rfl (by kernel_rfl)) ?_
            refine WR.nil ?_
            intro w hw
            exact ⟨(out_84 ++ [(⟨(gt (skeys m29) i90), ((mget (gt (skeys m29) i90) m29).getD [])⟩ : Rec)]), A143, c144, row142, h, (sl_ (by kernel_rfl)), (hw.only (is := [1, 1, 1, 1]) rfl), ho145, trivial⟩
          · skip
            refine WC.skip ?_
            intro w hw
            exact ⟨out_84, A85, c86, row87, h, (sl_ (by kernel_rfl)), hw, ho88, trivial⟩
        · skip
          rintro σ w ⟨out_96, A97, c98, row99, h, hsl, hw, ho100, -⟩
          refine Wpt.slots hsl ?_
          refine WC.here (C := CC F Γ76 [row99, row30, row82, row25]) ?_ hw
          clear hw hsl
          refine WC.region ?_
          refine va rfl rfl rfl (q_add_r (r := ((i90 + 1 : Nat) : Int)) rfl rfl rfl (ctr_len hl95 ho83.le)) ?_
          refine va rfl rfl rfl (q_move (v := .int .i64 ((i90 + 1 : Nat) : Int)) rfl (by kernel_rfl)) ?_
          refine WR.nil ?_
          intro w hw
          exact ⟨hl95, out_96, h, A97, c98, row99, (sl_ (by kernel_rfl)), hw, ho100, trivial⟩
      · skip
        have h := hge93 (ige hb94)
        refine WC.exit ?_
        change WC _ _ _ _ _ _
        refine WC.rs ?_
        refine va rfl rfl rfl (q_move (v := .slice A85 out_84.length c86) rfl (by kernel_rfl)) ?_
        refine va rfl rfl rfl (q_assign (v := .slice A85 out_84.length c86) rfl (by kernel_rfl)) ?_
        refine va rfl rfl rfl (q_assign (v := .int .i64 0) rfl (by kernel_rfl)) ?_
        refine WR.nil ?_
        change WC _ _ _ _ _ _
        refine WC.ret ?_
        intro w hw
        obtain rfl := Option.some.inj h
        subst hF
        exact end_e (is := [0]) (by kernel_rfl) hw rfl ⟨A85, c86, row87, rfl, rfl, ho88, (show I64 0 by decide), trivial⟩
set_option maxRecDepth 100000 in
set_option maxHeartbeats 400000 in
theorem t_firthref03_Same {Γ : Gh} {w0 : World} {Aa : Option Addr} {ca : Nat} {a : List Span} (ha : Sl spanT Γ Aa a) (hac : a.length ≤ ca) {Ab : Option Addr} {cb : Nat} {b : List Span} (hb : Sl spanT Γ Ab b) (hbc : b.length ≤ cb) (hs : Sat Γ w0) {r : Bool} (h : m_firthref03_Same a b = some r) : Calls Tryz.prog 94 #[.slice Aa a.length ca, .slice Ab b.length cb] w0 (fun e w' => e = .returned (.bool r) ∧ Fr no w0 w') := by
  refine calls_of (N := 26) (rs := [4]) (args := [.slice Aa a.length ca, .slice Ab b.length cb]) Tryz.func94 rfl Tryz.ntmps94 Tryz.results94 rfl ?_
  obtain ⟨F, hF⟩ : ∃ F : Fm, F = ⟨no, w0, Γ⟩ := ⟨_, rfl⟩
  refine WC.here (C := CC F Γ []) ?_ (hF ▸ Cur.start0 hs)
  refine WC.rs ?_
  refine va rfl rfl rfl (q_assign (v := .bool false) rfl (by kernel_rfl)) ?_
  refine WR.nil ?_
  change WC _ _ _ _ _ _
  refine WC.seq ?_
  refine WC.rs ?_
  refine va rfl rfl rfl (q_move (v := .slice Aa a.length ca) rfl (by kernel_rfl)) ?_
  refine va rfl rfl rfl (q_len_slice rfl Tryz.underlying55 rfl) ?_
  refine va rfl rfl rfl (q_move (v := .slice Ab b.length cb) rfl (by kernel_rfl)) ?_
  refine va rfl rfl rfl (q_len_slice rfl Tryz.underlying55 rfl) ?_
  refine va rfl rfl rfl (q_neq rfl rfl rfl) ?_
  refine WR.nil ?_
  change WC _ _ _ _ _ _
  refine WC.cif h (by kernel_rfl) (fun hb1 h => ?_) (fun hb1 h => ?_)
  · skip
    refine WC.rs ?_
    refine va rfl rfl rfl (q_assign (v := .bool false) rfl (by kernel_rfl)) ?_
    refine WR.nil ?_
    change WC _ _ _ _ _ _
    refine WC.ret ?_
    intro w hw
    obtain rfl := Option.some.inj h
    subst hF
    exact ⟨by kernel_rfl, hw.fr⟩
  · skip
    refine WC.skip ?_
    change WC _ _ _ _ _ _
    refine WC.seq ?_
    refine WC.rs ?_
    refine va rfl rfl rfl (q_assign (v := .int .i64 0) rfl (by kernel_rfl)) ?_
    refine WR.nil ?_
    change WC _ _ _ _ _ _
    refine WC.block ?_
    refine WC.forI h (fun (i3 : Nat) (s : Unit) σ w => match s with | () => slots σ [(0, .slice Aa a.length ca), (1, .slice Ab b.length cb), (5, .int .i64 ((i3 : Nat) : Int))] ∧ CC F Γ [] w ∧ True) ?_ ?_
    · skip
      intro w hw
      exact ⟨(sl_ (by kernel_rfl)), hw, trivial⟩
    rintro f2 i3 ⟨⟩ σ w hi4 hlt5 hge6 ⟨hsl, hw, -⟩
    refine Wpt.slots hsl ?_
    refine WC.here (C := CC F Γ []) ?_ hw
    clear hw hsl
    refine WC.seq ?_
    refine WC.rs ?_
    refine va rfl rfl rfl (q_move (v := .int .i64 ((i3 : Nat) : Int)) rfl (by kernel_rfl)) ?_
    refine va rfl rfl rfl (q_move (v := .slice Aa a.length ca) rfl (by kernel_rfl)) ?_
    refine va rfl rfl rfl (q_len_slice rfl Tryz.underlying55 rfl) ?_
    refine va rfl rfl rfl (q_lss rfl rfl rfl) ?_
    refine WR.nil ?_
    change WC _ _ _ _ _ _
    refine WC.cond (b := (decide (((i3 : Nat) : Int) < ((a.length : Nat) : Int)))) (by kernel_rfl) (fun hb7 => ?_) (fun hb7 => ?_)
    · skip
      have hl8 := ilt hb7
      have h := hlt5 hl8
      refine WC.skip ?_
      change WC _ _ _ _ _ _
      refine WC.seq ?_
      refine WC.block ?_
      refine WC.seq ?_
      refine WC.dr (by kernel_rfl) (by kernel_rfl) (fun w hw => hw.drawn _) ?_
      refine wa rfl rfl rfl (q_move (v := .slice Aa a.length ca) rfl (by kernel_rfl)) ?_
      refine wa rfl rfl rfl (q_move (v := .int .i64 ((i3 : Nat) : Int)) rfl (by kernel_rfl)) ?_
      refine wa rfl rfl rfl (q_ixn (i := i3) Tryz.underlying55 Tryz.sizeOf59 rfl rfl rfl hl8 (ha.some_ hl8)) ?_
      refine wa rfl rfl rfl (q_lda (c := 0) (vs := [.int .i64 (gt a i3).s, .int .i64 (gt a i3).f, .int .i64 (gt a i3).t]) (ha.spanT_at hl8).2 rfl Tryz.isAgg59 Tryz.sizeOf59 rfl rfl rfl) ?_
      refine wa rfl rfl rfl (q_move (v := .slice Ab b.length cb) rfl (by kernel_rfl)) ?_
      refine wa rfl rfl rfl (q_move (v := .int .i64 ((i3 : Nat) : Int)) rfl (by kernel_rfl)) ?_
      obtain ⟨hk9, h⟩ := chk_some h
      refine wa rfl rfl rfl (q_ixn (i := i3) Tryz.underlying55 Tryz.sizeOf59 rfl rfl rfl (of_decide_eq_true hk9) (hb.some_ (of_decide_eq_true hk9))) ?_
      refine wa rfl rfl rfl (q_lda (c := 0) (vs := [.int .i64 (gt b i3).s, .int .i64 (gt b i3).f, .int .i64 (gt b i3).t]) (hb.spanT_at (of_decide_eq_true hk9)).2 rfl Tryz.isAgg59 Tryz.sizeOf59 rfl rfl rfl) ?_
      refine wa rfl rfl rfl (q_neq_Span (a := (gt a i3)) (b := (gt b i3)) rfl rfl rfl) ?_
      refine WQ.nil ?_
      change WC _ _ _ _ _ _
      refine WC.cif h (by kernel_rfl) (fun hb10 h => ?_) (fun hb10 h => ?_)
      · skip
        refine WC.rs ?_
        refine va rfl rfl rfl (q_assign (v := .bool false) rfl (by kernel_rfl)) ?_
        refine WR.nil ?_
        change WC _ _ _ _ _ _
        refine WC.ret ?_
        intro w hw
        obtain rfl := Option.some.inj h
        subst hF
        exact ⟨by kernel_rfl, hw.fr⟩
      · skip
        refine WC.skip ?_
        change WC _ _ _ _ _ _
        refine WC.region ?_
        refine va rfl rfl rfl (q_move (v := .int .i64 ((i3 : Nat) : Int)) rfl (by kernel_rfl)) ?_
        refine va rfl rfl rfl (q_add_r (r := ((i3 + 1 : Nat) : Int)) rfl rfl rfl (ctr_len hl8 ha.le)) ?_
        refine va rfl rfl rfl (q_assign (v := .int .i64 ((i3 + 1 : Nat) : Int)) rfl (by kernel_rfl)) ?_
        refine WR.nil ?_
        intro w hw
        exact ⟨hl8, (), h, (sl_ (by kernel_rfl)), hw, trivial⟩
    · skip
      have h := hge6 (ige hb7)
      refine WC.exit ?_
      change WC _ _ _ _ _ _
      refine WC.rs ?_
      refine va rfl rfl rfl (q_assign (v := .bool true) rfl (by kernel_rfl)) ?_
      refine WR.nil ?_
      change WC _ _ _ _ _ _
      refine WC.ret ?_
      intro w hw
      obtain rfl := Option.some.inj h
      subst hF
      exact ⟨by kernel_rfl, hw.fr⟩
set_option maxRecDepth 100000 in
set_option maxHeartbeats 400000 in
theorem t_firthref05_SameOne {Γ : Gh} {w0 : World} {Aa2 : Option Addr} {ca2 : Nat} (a : Ver) (ha : Ver.fits Γ Aa2 ca2 a) {Ab2 : Option Addr} {cb2 : Nat} (b : Ver) (hb : Ver.fits Γ Ab2 cb2 b) (hs : Sat Γ w0) {r : Bool} (h : m_firthref05_SameOne a b = some r) : Calls Tryz.prog 68 #[.agg #[.int .i64 a.dot.s, .int .i64 a.dot.n, .slice Aa2 a.past.length ca2, .bool a.gone, .string a.val], .agg #[.int .i64 b.dot.s, .int .i64 b.dot.n, .slice Ab2 b.past.length cb2, .bool b.gone, .string b.val]] w0 (fun e w' => e = .returned (.bool r) ∧ Fr no w0 w') := by
  refine calls_of (N := 31) (rs := [4]) (args := [.agg #[.int .i64 a.dot.s, .int .i64 a.dot.n, .slice Aa2 a.past.length ca2, .bool a.gone, .string a.val], .agg #[.int .i64 b.dot.s, .int .i64 b.dot.n, .slice Ab2 b.past.length cb2, .bool b.gone, .string b.val]]) Tryz.func68 rfl Tryz.ntmps68 Tryz.results68 rfl ?_
  obtain ⟨F, hF⟩ : ∃ F : Fm, F = ⟨no, w0, Γ⟩ := ⟨_, rfl⟩
  refine WC.here (C := CC F Γ []) ?_ (hF ▸ Cur.start0 hs)
  refine WC.rs ?_
  refine e_box (v := .agg #[.int .i64 a.dot.s, .int .i64 a.dot.n, .slice Aa2 a.past.length ca2, .bool a.gone, .string a.val]) rfl rfl rfl rfl (by kernel_rfl) ?_
  intro g1
  refine e_box (v := .agg #[.int .i64 b.dot.s, .int .i64 b.dot.n, .slice Ab2 b.past.length cb2, .bool b.gone, .string b.val]) rfl rfl rfl rfl (by kernel_rfl) ?_
  intro g2
  refine va rfl rfl rfl (q_assign (v := .bool false) rfl (by kernel_rfl)) ?_
  refine WR.nil ?_
  change WC _ _ _ _ _ _
  refine WC.rs ?_
  refine va rfl rfl rfl (q_fl 0 fld_57_0 rfl rfl rfl) ?_
  refine va rfl rfl rfl (q_ldla (i := 1) (vs := [.int .i64 a.dot.s, .int .i64 a.dot.n]) rfl rfl Tryz.isAgg54 Tryz.sizeOf54 rfl rfl) ?_
  refine va rfl rfl rfl (q_fl 0 fld_57_0 rfl rfl rfl) ?_
  refine va rfl rfl rfl (q_ldla (i := 0) (vs := [.int .i64 b.dot.s, .int .i64 b.dot.n]) rfl rfl Tryz.isAgg54 Tryz.sizeOf54 rfl rfl) ?_
  refine va rfl rfl rfl (q_eql_Dot (a := a.dot) (b := b.dot) rfl rfl rfl) ?_
  refine va rfl rfl rfl (q_move (v := .bool (a.dot == b.dot)) rfl (by kernel_rfl)) ?_
  refine vg1 rfl rfl rfl rfl rfl (fun hg3 => QV.qo (q_fl 3 fld_57_2 rfl rfl rfl)) ?_
  refine vg1 rfl rfl rfl rfl rfl (fun hg4 => QV.qo (q_ldl (i := 1) (v := .bool a.gone) rfl rfl Tryz.isAgg4 (gu hg4 rfl) rfl)) ?_
  refine vg1 rfl rfl rfl rfl rfl (fun hg5 => QV.qo (q_fl 3 fld_57_2 rfl rfl rfl)) ?_
  refine vg1 rfl rfl rfl rfl rfl (fun hg6 => QV.qo (q_ldl (i := 0) (v := .bool b.gone) rfl rfl Tryz.isAgg4 (gu hg6 rfl) rfl)) ?_
  refine vg1 rfl rfl rfl rfl rfl (fun hg7 => QV.qo (q_beql Tryz.underlying4 rfl (gu hg7 rfl) (gu hg7 rfl))) ?_
  refine va rfl rfl rfl (q_pick rfl rfl (pk_and' (g := (a.dot == b.dot)) (y := (a.gone == b.gone)))) ?_
  refine va rfl rfl rfl (q_move (v := .bool ((a.dot == b.dot) && (a.gone == b.gone))) rfl (by kernel_rfl)) ?_
  refine vg1 rfl rfl rfl rfl rfl (fun hg8 => QV.qo (q_fl 4 fld_57_3 rfl rfl rfl)) ?_
  refine vg1 rfl rfl rfl rfl rfl (fun hg9 => QV.qo (q_ldl (i := 1) (v := .string a.val) rfl rfl Tryz.isAgg9 (gu hg9 rfl) rfl)) ?_
  refine vg1 rfl rfl rfl rfl rfl (fun hg10 => QV.qo (q_fl 4 fld_57_3 rfl rfl rfl)) ?_
  refine vg1 rfl rfl rfl rfl rfl (fun hg11 => QV.qo (q_ldl (i := 0) (v := .string b.val) rfl rfl Tryz.isAgg9 (gu hg11 rfl) rfl)) ?_
  refine vg1 rfl rfl rfl rfl rfl (fun hg12 => QV.qo (q_seql rfl (gu hg12 rfl) (gu hg12 rfl))) ?_
  refine va rfl rfl rfl (q_pick rfl rfl (pk_and' (g := ((a.dot == b.dot) && (a.gone == b.gone))) (y := (a.val == b.val)))) ?_
  refine va rfl rfl rfl (q_move (v := .bool (((a.dot == b.dot) && (a.gone == b.gone)) && (a.val == b.val))) rfl (by kernel_rfl)) ?_
  refine vg1 rfl rfl rfl rfl rfl (fun hg13 => QV.qo (q_fl 2 fld_57_1 rfl rfl rfl)) ?_
  refine vg1 rfl rfl rfl rfl rfl (fun hg14 => QV.qo (q_ldl (i := 1) (v := .slice Aa2 a.past.length ca2) rfl rfl Tryz.isAgg55 (gu hg14 rfl) rfl)) ?_
  refine vg1 rfl rfl rfl rfl rfl (fun hg15 => QV.qo (q_fl 2 fld_57_1 rfl rfl rfl)) ?_
  refine vg1 rfl rfl rfl rfl rfl (fun hg16 => QV.qo (q_ldl (i := 0) (v := .slice Ab2 b.past.length cb2) rfl rfl Tryz.isAgg55 (gu hg16 rfl) rfl)) ?_
  obtain ⟨z18, hz19, h⟩ := bnd h
  refine vg1 rfl rfl rfl rfl rfl (fun hg17 => (q_call (call_run Tryz.call94 rfl rfl (args2 (gu hg17 rfl) (gu hg17 rfl))) (fun w hw => t_firthref03_Same (Γ := Gh.all w) (ha.2.2.1.2.mono hw.sat.le_all) ha.2.2.1.1 (hb.2.2.1.2.mono hw.sat.le_all) hb.2.2.1.1 (Sat.all w) (gc_of hz19 hg17)))) ?_
  refine va rfl rfl rfl (q_pick rfl rfl (pk_and' (g := (((a.dot == b.dot) && (a.gone == b.gone)) && (a.val == b.val))) (y := z18))) ?_
  refine va rfl rfl rfl (q_assign (v := .bool ((((a.dot == b.dot) && (a.gone == b.gone)) && (a.val == b.val)) && z18)) rfl (by kernel_rfl)) ?_
  refine WR.nil ?_
  change WC _ _ _ _ _ _
  refine WC.ret ?_
  intro w hw
  obtain rfl := Option.some.inj h
  subst hF
  exact ⟨by kernel_rfl, hw.fr⟩
set_option maxRecDepth 100000 in
set_option maxHeartbeats 400000 in
theorem t_firthref05_Same {Γ : Gh} {w0 : World} {Aa : Option Addr} {ca : Nat} {a : List Ver} (ha : Sl verT Γ Aa a) (hac : a.length ≤ ca) {Ab : Option Addr} {cb : Nat} {b : List Ver} (hb : Sl verT Γ Ab b) (hbc : b.length ≤ cb) (hs : Sat Γ w0) {r : Bool} (h : m_firthref05_Same a b = some r) : Calls Tryz.prog 46 #[.slice Aa a.length ca, .slice Ab b.length cb] w0 (fun e w' => e = .returned (.bool r) ∧ Fr no w0 w') := by
  refine calls_of (N := 27) (rs := [4]) (args := [.slice Aa a.length ca, .slice Ab b.length cb]) Tryz.func46 rfl Tryz.ntmps46 Tryz.results46 rfl ?_
  obtain ⟨F, hF⟩ : ∃ F : Fm, F = ⟨no, w0, Γ⟩ := ⟨_, rfl⟩
  refine WC.here (C := CC F Γ []) ?_ (hF ▸ Cur.start0 hs)
  refine WC.rs ?_
  refine va rfl rfl rfl (q_assign (v := .bool false) rfl (by kernel_rfl)) ?_
  refine WR.nil ?_
  change WC _ _ _ _ _ _
  refine WC.seq ?_
  refine WC.rs ?_
  refine va rfl rfl rfl (q_move (v := .slice Aa a.length ca) rfl (by kernel_rfl)) ?_
  refine va rfl rfl rfl (q_len_slice rfl Tryz.underlying48 rfl) ?_
  refine va rfl rfl rfl (q_move (v := .slice Ab b.length cb) rfl (by kernel_rfl)) ?_
  refine va rfl rfl rfl (q_len_slice rfl Tryz.underlying48 rfl) ?_
  refine va rfl rfl rfl (q_neq rfl rfl rfl) ?_
  refine WR.nil ?_
  change WC _ _ _ _ _ _
  refine WC.cif h (by kernel_rfl) (fun hb1 h => ?_) (fun hb1 h => ?_)
  · skip
    refine WC.rs ?_
    refine va rfl rfl rfl (q_assign (v := .bool false) rfl (by kernel_rfl)) ?_
    refine WR.nil ?_
    change WC _ _ _ _ _ _
    refine WC.ret ?_
    intro w hw
    obtain rfl := Option.some.inj h
    subst hF
    exact ⟨by kernel_rfl, hw.fr⟩
  · skip
    refine WC.skip ?_
    change WC _ _ _ _ _ _
    refine WC.seq ?_
    refine WC.rs ?_
    refine va rfl rfl rfl (q_assign (v := .int .i64 0) rfl (by kernel_rfl)) ?_
    refine WR.nil ?_
    change WC _ _ _ _ _ _
    refine WC.block ?_
    refine WC.forI h (fun (i3 : Nat) (s : Unit) σ w => match s with | () => slots σ [(0, .slice Aa a.length ca), (1, .slice Ab b.length cb), (5, .int .i64 ((i3 : Nat) : Int))] ∧ CC F Γ [] w ∧ True) ?_ ?_
    · skip
      intro w hw
      exact ⟨(sl_ (by kernel_rfl)), hw, trivial⟩
    rintro f2 i3 ⟨⟩ σ w hi4 hlt5 hge6 ⟨hsl, hw, -⟩
    refine Wpt.slots hsl ?_
    refine WC.here (C := CC F Γ []) ?_ hw
    clear hw hsl
    refine WC.seq ?_
    refine WC.rs ?_
    refine va rfl rfl rfl (q_move (v := .int .i64 ((i3 : Nat) : Int)) rfl (by kernel_rfl)) ?_
    refine va rfl rfl rfl (q_move (v := .slice Aa a.length ca) rfl (by kernel_rfl)) ?_
    refine va rfl rfl rfl (q_len_slice rfl Tryz.underlying48 rfl) ?_
    refine va rfl rfl rfl (q_lss rfl rfl rfl) ?_
    refine WR.nil ?_
    change WC _ _ _ _ _ _
    refine WC.cond (b := (decide (((i3 : Nat) : Int) < ((a.length : Nat) : Int)))) (by kernel_rfl) (fun hb7 => ?_) (fun hb7 => ?_)
    · skip
      have hl8 := ilt hb7
      have h := hlt5 hl8
      refine WC.skip ?_
      change WC _ _ _ _ _ _
      refine WC.seq ?_
      refine WC.block ?_
      refine WC.seq ?_
      refine WC.dr (by kernel_rfl) (by kernel_rfl) (fun w hw => hw.drawn _) ?_
      refine wa rfl rfl rfl (q_move (v := .slice Aa a.length ca) rfl (by kernel_rfl)) ?_
      refine wa rfl rfl rfl (q_move (v := .int .i64 ((i3 : Nat) : Int)) rfl (by kernel_rfl)) ?_
      refine wa rfl rfl rfl (q_ixn (i := i3) Tryz.underlying48 Tryz.sizeOf57 rfl rfl rfl hl8 (ha.some_ hl8)) ?_
      obtain ⟨A9, c10, hx11⟩ := ha.verT_at i3
      refine wa rfl rfl rfl (q_lda (c := 0) (vs := [.int .i64 (gt a i3).dot.s, .int .i64 (gt a i3).dot.n, .slice A9 ((gt a i3).past).length c10, .bool (gt a i3).gone, .string (gt a i3).val]) (hx11 hl8).2 rfl Tryz.isAgg57 Tryz.sizeOf57 rfl rfl rfl) ?_
      refine wa rfl rfl rfl (q_move (v := .slice Ab b.length cb) rfl (by kernel_rfl)) ?_
      refine wa rfl rfl rfl (q_move (v := .int .i64 ((i3 : Nat) : Int)) rfl (by kernel_rfl)) ?_
      obtain ⟨hk12, h⟩ := chk_some h
      refine wa rfl rfl rfl (q_ixn (i := i3) Tryz.underlying48 Tryz.sizeOf57 rfl rfl rfl (of_decide_eq_true hk12) (hb.some_ (of_decide_eq_true hk12))) ?_
      obtain ⟨A13, c14, hx15⟩ := hb.verT_at i3
      refine wa rfl rfl rfl (q_lda (c := 0) (vs := [.int .i64 (gt b i3).dot.s, .int .i64 (gt b i3).dot.n, .slice A13 ((gt b i3).past).length c14, .bool (gt b i3).gone, .string (gt b i3).val]) (hx15 (of_decide_eq_true hk12)).2 rfl Tryz.isAgg57 Tryz.sizeOf57 rfl rfl rfl) ?_
      obtain ⟨z16, hz17, h⟩ := bnd h
      refine wc rfl rfl rfl (q_call (call_run Tryz.call68 rfl rfl (by kernel_rfl)) (fun w hw => t_firthref05_SameOne (Γ := Gh.all w) (gt a i3) (Ver.fits_mono (hx11 hl8).1 hw.sat.le_all) (gt b i3) (Ver.fits_mono (hx15 (of_decide_eq_true hk12)).1 hw.sat.le_all) (Sat.all w) hz17)) ?_
      refine wa rfl rfl rfl (q_not rfl rfl) ?_
      refine WQ.nil ?_
      change WC _ _ _ _ _ _
      refine WC.cif h (by kernel_rfl) (fun hb18 h => ?_) (fun hb18 h => ?_)
      · skip
        refine WC.rs ?_
        refine va rfl rfl rfl (q_assign (v := .bool false) rfl (by kernel_rfl)) ?_
        refine WR.nil ?_
        change WC _ _ _ _ _ _
        refine WC.ret ?_
        intro w hw
        obtain rfl := Option.some.inj h
        subst hF
        exact ⟨by kernel_rfl, hw.fr⟩
      · skip
        refine WC.skip ?_
        change WC _ _ _ _ _ _
        refine WC.region ?_
        refine va rfl rfl rfl (q_move (v := .int .i64 ((i3 : Nat) : Int)) rfl (by kernel_rfl)) ?_
        refine va rfl rfl rfl (q_add_r (r := ((i3 + 1 : Nat) : Int)) rfl rfl rfl (ctr_len hl8 ha.le)) ?_
        refine va rfl rfl rfl (q_assign (v := .int .i64 ((i3 + 1 : Nat) : Int)) rfl (by kernel_rfl)) ?_
        refine WR.nil ?_
        intro w hw
        exact ⟨hl8, (), h, (sl_ (by kernel_rfl)), hw, trivial⟩
    · skip
      have h := hge6 (ige hb7)
      refine WC.exit ?_
      change WC _ _ _ _ _ _
      refine WC.rs ?_
      refine va rfl rfl rfl (q_assign (v := .bool true) rfl (by kernel_rfl)) ?_
      refine WR.nil ?_
      change WC _ _ _ _ _ _
      refine WC.ret ?_
      intro w hw
      obtain rfl := Option.some.inj h
      subst hF
      exact ⟨by kernel_rfl, hw.fr⟩
set_option maxRecDepth 100000 in
set_option maxHeartbeats 400000 in
theorem t_firthref06_SameRecs {Γ : Gh} {w0 : World} {Aa : Option Addr} {ca : Nat} {a : List Rec} (ha : Sl recT Γ Aa a) (hac : a.length ≤ ca) {Ab : Option Addr} {cb : Nat} {b : List Rec} (hb : Sl recT Γ Ab b) (hbc : b.length ≤ cb) (hs : Sat Γ w0) {r : Bool} (h : m_firthref06_SameRecs a b = some r) : Calls Tryz.prog 17 #[.slice Aa a.length ca, .slice Ab b.length cb] w0 (fun e w' => e = .returned (.bool r) ∧ Fr no w0 w') := by
  refine calls_of (N := 42) (rs := [4]) (args := [.slice Aa a.length ca, .slice Ab b.length cb]) Tryz.func17 rfl Tryz.ntmps17 Tryz.results17 rfl ?_
  obtain ⟨F, hF⟩ : ∃ F : Fm, F = ⟨no, w0, Γ⟩ := ⟨_, rfl⟩
  refine WC.here (C := CC F Γ []) ?_ (hF ▸ Cur.start0 hs)
  refine WC.rs ?_
  refine va rfl rfl rfl (q_assign (v := .bool false) rfl (by kernel_rfl)) ?_
  refine WR.nil ?_
  change WC _ _ _ _ _ _
  refine WC.seq ?_
  refine WC.rs ?_
  refine va rfl rfl rfl (q_move (v := .slice Aa a.length ca) rfl (by kernel_rfl)) ?_
  refine va rfl rfl rfl (q_len_slice rfl Tryz.underlying22 rfl) ?_
  refine va rfl rfl rfl (q_move (v := .slice Ab b.length cb) rfl (by kernel_rfl)) ?_
  refine va rfl rfl rfl (q_len_slice rfl Tryz.underlying22 rfl) ?_
  refine va rfl rfl rfl (q_neq rfl rfl rfl) ?_
  refine WR.nil ?_
  change WC _ _ _ _ _ _
  refine WC.cif h (by kernel_rfl) (fun hb1 h => ?_) (fun hb1 h => ?_)
  · skip
    refine WC.rs ?_
    refine va rfl rfl rfl (q_assign (v := .bool false) rfl (by kernel_rfl)) ?_
    refine WR.nil ?_
    change WC _ _ _ _ _ _
    refine WC.ret ?_
    intro w hw
    obtain rfl := Option.some.inj h
    subst hF
    exact ⟨by kernel_rfl, hw.fr⟩
  · skip
    refine WC.skip ?_
    change WC _ _ _ _ _ _
    refine WC.seq ?_
    refine WC.rs ?_
    refine va rfl rfl rfl (q_assign (v := .int .i64 0) rfl (by kernel_rfl)) ?_
    refine WR.nil ?_
    change WC _ _ _ _ _ _
    refine WC.block ?_
    refine WC.forI h (fun (i3 : Nat) (s : Unit) σ w => match s with | () => slots σ [(0, .slice Aa a.length ca), (1, .slice Ab b.length cb), (5, .int .i64 ((i3 : Nat) : Int))] ∧ CC F Γ [] w ∧ True) ?_ ?_
    · skip
      intro w hw
      exact ⟨(sl_ (by kernel_rfl)), hw, trivial⟩
    rintro f2 i3 ⟨⟩ σ w hi4 hlt5 hge6 ⟨hsl, hw, -⟩
    refine Wpt.slots hsl ?_
    refine WC.here (C := CC F Γ []) ?_ hw
    clear hw hsl
    refine WC.seq ?_
    refine WC.rs ?_
    refine va rfl rfl rfl (q_move (v := .int .i64 ((i3 : Nat) : Int)) rfl (by kernel_rfl)) ?_
    refine va rfl rfl rfl (q_move (v := .slice Aa a.length ca) rfl (by kernel_rfl)) ?_
    refine va rfl rfl rfl (q_len_slice rfl Tryz.underlying22 rfl) ?_
    refine va rfl rfl rfl (q_lss rfl rfl rfl) ?_
    refine WR.nil ?_
    change WC _ _ _ _ _ _
    refine WC.cond (b := (decide (((i3 : Nat) : Int) < ((a.length : Nat) : Int)))) (by kernel_rfl) (fun hb7 => ?_) (fun hb7 => ?_)
    · skip
      have hl8 := ilt hb7
      have h := hlt5 hl8
      refine WC.skip ?_
      change WC _ _ _ _ _ _
      refine WC.seq ?_
      refine WC.block ?_
      refine WC.seq ?_
      refine WC.dr (by kernel_rfl) (by kernel_rfl) (fun w hw => hw.drawn _) ?_
      refine wa rfl rfl rfl (q_move (v := .slice Aa a.length ca) rfl (by kernel_rfl)) ?_
      refine wa rfl rfl rfl (q_move (v := .int .i64 ((i3 : Nat) : Int)) rfl (by kernel_rfl)) ?_
      refine wa rfl rfl rfl (q_ixn (i := i3) Tryz.underlying22 Tryz.sizeOf51 rfl rfl rfl hl8 (ha.some_ hl8)) ?_
      refine wa rfl rfl rfl (q_field_addr (i3 * 2) fld_51_0 rfl rfl (ha.some_ hl8) rfl) ?_
      obtain ⟨A9, c10, hx11⟩ := ha.recT_at i3
      refine wa rfl rfl rfl (q_ld (c := 0) (v := .string (gt a i3).key) (hx11 hl8).2 rfl Tryz.isAgg9 rfl rfl) ?_
      refine wa rfl rfl rfl (q_move (v := .slice Ab b.length cb) rfl (by kernel_rfl)) ?_
      refine wa rfl rfl rfl (q_move (v := .int .i64 ((i3 : Nat) : Int)) rfl (by kernel_rfl)) ?_
      obtain ⟨hk12, h⟩ := chk_some h
      refine wa rfl rfl rfl (q_ixn (i := i3) Tryz.underlying22 Tryz.sizeOf51 rfl rfl rfl (of_decide_eq_true hk12) (hb.some_ (of_decide_eq_true hk12))) ?_
      refine wa rfl rfl rfl (q_field_addr (i3 * 2) fld_51_0 rfl rfl (hb.some_ (of_decide_eq_true hk12)) rfl) ?_
      obtain ⟨A13, c14, hx15⟩ := hb.recT_at i3
      refine wa rfl rfl rfl (q_ld (c := 0) (v := .string (gt b i3).key) (hx15 (of_decide_eq_true hk12)).2 rfl Tryz.isAgg9 rfl rfl) ?_
      refine wa rfl rfl rfl (q_sneq rfl rfl rfl) ?_
      refine wa rfl rfl rfl (q_move (v := .bool ((gt a i3).key != (gt b i3).key)) rfl (by kernel_rfl)) ?_
      refine wg0 rfl rfl rfl rfl rfl (fun hg16 => QV.qo (q_move (v := .slice Aa a.length ca) rfl (by kernel_rfl))) ?_
      refine wg0 rfl rfl rfl rfl rfl (fun hg17 => QV.qo (q_move (v := .int .i64 ((i3 : Nat) : Int)) rfl (by kernel_rfl))) ?_
      refine wg0 rfl rfl rfl rfl rfl (fun hg18 => QV.qo (q_ixn (i := i3) Tryz.underlying22 Tryz.sizeOf51 rfl (gu hg18 rfl) (gu hg18 rfl) hl8 (ha.some_ hl8))) ?_
      refine wg0 rfl rfl rfl rfl rfl (fun hg19 => QV.qo (q_field_addr (i3 * 2 + 1) fld_51_1 rfl (gu hg19 rfl) (ha.some_ hl8) rfl)) ?_
      refine wg0 rfl rfl rfl rfl rfl (fun hg20 => QV.qo (q_ld (c := 1) (v := .slice A9 ((gt a i3).vers).length c10) (hx11 hl8).2 rfl Tryz.isAgg48 (gu hg20 rfl) rfl)) ?_
      refine wg0 rfl rfl rfl rfl rfl (fun hg21 => QV.qo (q_move (v := .slice Ab b.length cb) rfl (by kernel_rfl))) ?_
      refine wg0 rfl rfl rfl rfl rfl (fun hg22 => QV.qo (q_move (v := .int .i64 ((i3 : Nat) : Int)) rfl (by kernel_rfl))) ?_
      refine wg0 rfl rfl rfl rfl rfl (fun hg23 => QV.qo (q_ixn (i := i3) Tryz.underlying22 Tryz.sizeOf51 rfl (gu hg23 rfl) (gu hg23 rfl) (of_decide_eq_true hk12) (hb.some_ (of_decide_eq_true hk12)))) ?_
      refine wg0 rfl rfl rfl rfl rfl (fun hg24 => QV.qo (q_field_addr (i3 * 2 + 1) fld_51_1 rfl (gu hg24 rfl) (hb.some_ (of_decide_eq_true hk12)) rfl)) ?_
      refine wg0 rfl rfl rfl rfl rfl (fun hg25 => QV.qo (q_ld (c := 1) (v := .slice A13 ((gt b i3).vers).length c14) (hx15 (of_decide_eq_true hk12)).2 rfl Tryz.isAgg48 (gu hg25 rfl) rfl)) ?_
      obtain ⟨z27, hz28, h⟩ := bnd h
      refine wg0 rfl rfl rfl rfl rfl (fun hg26 => (q_call (call_run Tryz.call46 rfl rfl (args2 (gu hg26 rfl) (gu hg26 rfl))) (fun w hw => t_firthref05_Same (Γ := Gh.all w) ((hx11 hl8).1.2.2.mono hw.sat.le_all) (hx11 hl8).1.2.1 ((hx15 (of_decide_eq_true hk12)).1.2.2.mono hw.sat.le_all) (hx15 (of_decide_eq_true hk12)).1.2.1 (Sat.all w) (gc_of hz28 hg26)))) ?_
      refine wg0 rfl rfl rfl rfl rfl (fun hg29 => QV.qo (q_not rfl (gu hg29 rfl))) ?_
      refine wa rfl rfl rfl (q_pick rfl rfl (pk_or' (g := ((gt a i3).key != (gt b i3).key)) (y := (!z27)))) ?_
      refine WQ.nil ?_
      change WC _ _ _ _ _ _
      refine WC.cif h (by kernel_rfl) (fun hb30 h => ?_) (fun hb30 h => ?_)
      · skip
        refine WC.rs ?_
        refine va rfl rfl rfl (q_assign (v := .bool false) rfl (by kernel_rfl)) ?_
        refine WR.nil ?_
        change WC _ _ _ _ _ _
        refine WC.ret ?_
        intro w hw
        obtain rfl := Option.some.inj h
        subst hF
        exact ⟨by kernel_rfl, hw.fr⟩
      · skip
        refine WC.skip ?_
        change WC _ _ _ _ _ _
        refine WC.region ?_
        refine va rfl rfl rfl (q_move (v := .int .i64 ((i3 : Nat) : Int)) rfl (by kernel_rfl)) ?_
        refine va rfl rfl rfl (q_add_r (r := ((i3 + 1 : Nat) : Int)) rfl rfl rfl (ctr_len hl8 ha.le)) ?_
        refine va rfl rfl rfl (q_assign (v := .int .i64 ((i3 + 1 : Nat) : Int)) rfl (by kernel_rfl)) ?_
        refine WR.nil ?_
        intro w hw
        exact ⟨hl8, (), h, (sl_ (by kernel_rfl)), hw, trivial⟩
    · skip
      have h := hge6 (ige hb7)
      refine WC.exit ?_
      change WC _ _ _ _ _ _
      refine WC.rs ?_
      refine va rfl rfl rfl (q_assign (v := .bool true) rfl (by kernel_rfl)) ?_
      refine WR.nil ?_
      change WC _ _ _ _ _ _
      refine WC.ret ?_
      intro w hw
      obtain rfl := Option.some.inj h
      subst hF
      exact ⟨by kernel_rfl, hw.fr⟩
set_option maxRecDepth 100000 in
set_option maxHeartbeats 400000 in
theorem t_vers_Lacks {Γ : Gh} {w0 : World} {Aa : Option Addr} {ca : Nat} {a : List Ver} (ha : Sl verT Γ Aa a) (hac : a.length ≤ ca) {Ab : Option Addr} {cb : Nat} {b : List Ver} (hb : Sl verT Γ Ab b) (hbc : b.length ≤ cb) (hs : Sat Γ w0) {r : Bool} (h : m_vers_Lacks a b = some r) : Calls Tryz.prog 49 #[.slice Aa a.length ca, .slice Ab b.length cb] w0 (fun e w' => e = .returned (.bool r) ∧ Fr no w0 w') := by
  refine calls_of (N := 21) (rs := [4]) (args := [.slice Aa a.length ca, .slice Ab b.length cb]) Tryz.func49 rfl Tryz.ntmps49 Tryz.results49 rfl ?_
  obtain ⟨F, hF⟩ : ∃ F : Fm, F = ⟨no, w0, Γ⟩ := ⟨_, rfl⟩
  refine WC.here (C := CC F Γ []) ?_ (hF ▸ Cur.start0 hs)
  refine WC.rs ?_
  refine va rfl rfl rfl (q_assign (v := .bool false) rfl (by kernel_rfl)) ?_
  refine WR.nil ?_
  change WC _ _ _ _ _ _
  refine WC.rs ?_
  refine va rfl rfl rfl (q_move (v := .slice Aa a.length ca) rfl (by kernel_rfl)) ?_
  refine va rfl rfl rfl (q_move (v := .slice Ab b.length cb) rfl (by kernel_rfl)) ?_
  obtain ⟨z1, hz2, h⟩ := bnd h
  refine e_call (is := []) rfl rfl (call_run Tryz.call52 rfl rfl (by kernel_rfl)) rfl (fun w hp => t_vers_Merge ha hac hb hbc hp hz2) ?_
  rintro Γ3 U5 v6 hl4 ⟨A7, c8, row9, rfl, rfl, hr10, hr11, _⟩
  change WR _ _ _ (CC F Γ3 [row9]) _ _ (upd _ 10 (.tuple #[.slice A7 z1.1.length c8, .int .i64 z1.2]))
  refine va rfl rfl rfl (q_move (v := .tuple #[.slice A7 z1.1.length c8, .int .i64 z1.2]) rfl (by kernel_rfl)) ?_
  refine va rfl rfl rfl (q_extract (v := .slice A7 z1.1.length c8) rfl rfl rfl) ?_
  refine va rfl rfl rfl (q_extract (v := .int .i64 z1.2) rfl rfl rfl) ?_
  refine va rfl rfl rfl (q_assign (v := .slice A7 z1.1.length c8) rfl (by kernel_rfl)) ?_
  refine va rfl rfl rfl (q_assign (v := .int .i64 z1.2) rfl (by kernel_rfl)) ?_
  refine WR.nil ?_
  change WC _ _ _ _ _ _
  refine WC.rs ?_
  refine va rfl rfl rfl (q_move (v := .int .i64 z1.2) rfl (by kernel_rfl)) ?_
  refine va rfl rfl rfl (q_eql rfl rfl rfl) ?_
  refine va rfl rfl rfl (q_move (v := .bool (z1.2 == 0)) rfl (by kernel_rfl)) ?_
  refine vg1 rfl rfl rfl rfl rfl (fun hg12 => QV.qo (q_move (v := .slice A7 z1.1.length c8) rfl (by kernel_rfl))) ?_
  refine vg1 rfl rfl rfl rfl rfl (fun hg13 => QV.qo (q_move (v := .slice Aa a.length ca) rfl (by kernel_rfl))) ?_
  obtain ⟨z15, hz16, h⟩ := bnd h
  refine vg1 rfl rfl rfl rfl rfl (fun hg14 => (q_call (call_run Tryz.call55 rfl rfl (args2 (gu hg14 rfl) (gu hg14 rfl))) (fun w hw => t_vers_Same (Γ := Gh.all w) (hr10.sl hw.sat.le_all (hw.ra 0 rfl)) hr10.capz ((ha.mono hl4).mono hw.sat.le_all) hac (Sat.all w) (gc_of hz16 hg14)))) ?_
  refine vg1 rfl rfl rfl rfl rfl (fun hg17 => QV.qo (q_not rfl (gu hg17 rfl))) ?_
  refine va rfl rfl rfl (q_pick rfl rfl (pk_and' (g := (z1.2 == 0)) (y := (!z15)))) ?_
  refine va rfl rfl rfl (q_assign (v := .bool ((z1.2 == 0) && (!z15))) rfl (by kernel_rfl)) ?_
  refine WR.nil ?_
  change WC _ _ _ _ _ _
  refine WC.ret ?_
  intro w hw
  obtain rfl := Option.some.inj h
  subst hF
  exact ⟨by kernel_rfl, hw.fr⟩
abbrev r_mend_Give (r : List Rec) (U : List Rowb) (Γ : Gh) (v : Value) : Prop := ∃ (A0 : Option Addr), ∃ (c0 : Nat), ∃ (row0 : Rowb), v = .slice A0 r.length c0 ∧ U = [row0] ∧ Own recT Γ 51 row0 A0 c0 r ∧ True
set_option maxRecDepth 100000 in
set_option maxHeartbeats 400000 in
theorem t_mend_Give {Γ : Gh} {w0 : World} {Aown : Option Addr} {cown : Nat} {own : List Rec} (hown : Sl recT Γ Aown own) (hownc : own.length ≤ cown) {Apath : Option Addr} {cpath : Nat} {path : List Int} (hpath : Sl intT Γ Apath path) (hpathc : path.length ≤ cpath) {Atheirs : Option Addr} {ctheirs : Nat} {theirs : List Rec} (htheirs : Sl recT Γ Atheirs theirs) (htheirsc : theirs.length ≤ ctheirs) (hp : Pre [] Γ w0) {r : List Rec} (h : m_mend_Give own path theirs = some r) : Calls Tryz.prog 18 #[.slice Aown own.length cown, .slice Apath path.length cpath, .slice Atheirs theirs.length ctheirs] w0 (Outc Γ [] w0 (r_mend_Give r)) := by
  refine calls_of (N := 48) (rs := [6]) (args := [.slice Aown own.length cown, .slice Apath path.length cpath, .slice Atheirs theirs.length ctheirs]) Tryz.func18 rfl Tryz.ntmps18 Tryz.results18 rfl ?_
  obtain ⟨F, hF⟩ : ∃ F : Fm, F = ⟨ids [], w0, Γ⟩ := ⟨_, rfl⟩
  refine WC.here (C := CC F Γ []) ?_ (hF ▸ hp.start)
  refine WC.rs ?_
  refine va rfl rfl rfl (q_assign (v := .slice none 0 0) rfl (by kernel_rfl)) ?_
  refine WR.nil ?_
  change WC _ _ _ _ _ _
  refine WC.rs ?_
  refine va rfl rfl rfl (q_move (v := .slice Aown own.length cown) rfl (by kernel_rfl)) ?_
  obtain ⟨z1, hz2, h⟩ := bnd h
  refine e_call (is := []) rfl rfl (call_run Tryz.call37 rfl rfl (by kernel_rfl)) rfl (fun w hp => t_tree_New hown hownc hp hz2) ?_
  rintro Γ3 U5 v6 hl4 ⟨g7, row8, rfl, rfl, hr9, hr10, _⟩
  change WR _ _ _ (CC F Γ3 [row8]) _ _ (upd _ 15 (.tuple #[optp z1.1 g7, .int .i64 z1.2]))
  refine va rfl rfl rfl (q_move (v := .tuple #[optp z1.1 g7, .int .i64 z1.2]) rfl (by kernel_rfl)) ?_
  refine va rfl rfl rfl (q_extract (v := optp z1.1 g7) rfl rfl rfl) ?_
  refine va rfl rfl rfl (q_extract (v := .int .i64 z1.2) rfl rfl rfl) ?_
  refine va rfl rfl rfl (q_assign (v := optp z1.1 g7) rfl (by kernel_rfl)) ?_
  refine va rfl rfl rfl (q_assign (v := .int .i64 z1.2) rfl (by kernel_rfl)) ?_
  refine WR.nil ?_
  change WC _ _ _ _ _ _
  refine WC.seq ?_
  refine WC.rs ?_
  refine va rfl rfl rfl (q_move (v := .int .i64 z1.2) rfl (by kernel_rfl)) ?_
  refine va rfl rfl rfl (q_neq rfl rfl rfl) ?_
  refine va rfl rfl rfl (q_move (v := .bool (z1.2 != 0)) rfl (by kernel_rfl)) ?_
  refine vg0 rfl rfl rfl rfl rfl (fun hg11 => QV.qo (q_move (v := .slice Atheirs theirs.length ctheirs) rfl (by kernel_rfl))) ?_
  obtain ⟨z13, hz14, h⟩ := bnd h
  refine vg0 rfl rfl rfl rfl rfl (fun hg12 => (q_call (call_run Tryz.call47 rfl rfl (args1 (gu hg12 rfl))) (fun w hw => t_mend_right (Γ := Gh.all w) ((htheirs.mono hl4).mono hw.sat.le_all) htheirsc (Sat.all w) (gc_of hz14 hg12)))) ?_
  refine vg0 rfl rfl rfl rfl rfl (fun hg15 => QV.qo (q_not rfl (gu hg15 rfl))) ?_
  refine va rfl rfl rfl (q_pick rfl rfl (pk_or' (g := (z1.2 != 0)) (y := (!z13)))) ?_
  refine WR.nil ?_
  change WC _ _ _ _ _ _
  refine WC.cif h (by kernel_rfl) (fun hb16 h => ?_) (fun hb16 h => ?_)
  · skip
    refine WC.rs ?_
    refine va rfl rfl rfl (q_assign (v := .slice none 0 0) rfl (by kernel_rfl)) ?_
    refine WR.nil ?_
    change WC _ _ _ _ _ _
    refine WC.ret ?_
    intro w hw
    have hw := hw.pad
    obtain rfl := Option.some.inj h
    subst hF
    exact end_e (is := [0]) (by kernel_rfl) hw rfl ⟨none, 0, [], rfl, rfl, (Own.nil recT _ 51), trivial⟩
  · skip
    refine WC.skip ?_
    change WC _ _ _ _ _ _
    refine WC.rs ?_
    refine va rfl rfl rfl (q_move (v := .slice Atheirs theirs.length ctheirs) rfl (by kernel_rfl)) ?_
    obtain ⟨z17, hz18, h⟩ := bnd h
    refine e_call (is := []) rfl rfl (call_run Tryz.call48 rfl rfl (by kernel_rfl)) rfl (fun w hp => t_mend_held (htheirs.mono hl4) htheirsc hp hz18) ?_
    rintro Γ19 U21 v22 hl20 ⟨g23, row24, rfl, rfl, hr25, _⟩
    change WR _ _ _ (CC F Γ19 [row24, row8]) _ _ (upd _ 26 (.map (some g23)))
    refine va rfl rfl rfl (q_assign (v := .map (some g23)) rfl (by kernel_rfl)) ?_
    refine WR.nil ?_
    change WC _ _ _ _ _ _
    refine WC.rs ?_
    refine va rfl rfl rfl (q_assign (v := .slice none 0 0) rfl (by kernel_rfl)) ?_
    refine WR.nil ?_
    change WC _ _ _ _ _ _
    refine WC.seq ?_
    refine WC.rs ?_
    refine va rfl rfl rfl (q_move (v := optp z1.1 g7) rfl (by kernel_rfl)) ?_
    refine va rfl rfl rfl (q_move (v := .slice Apath path.length cpath) rfl (by kernel_rfl)) ?_
    obtain ⟨z26, hz27, h⟩ := bnd h
    have ho28 := optob_some (optob_mono hr9 (fun _ h => h.mono hl20)) hz27
    obtain ⟨z29, hz30, h⟩ := bnd h
    refine e_call (is := [1]) rfl rfl (call_run Tryz.call42 rfl rfl (args2 (optp_some rfl hz27) rfl)) rfl (fun w hp => t_tree_Tree_Recs ho28 (hpath.mono (hl4.trans hl20)) hpathc hp hz30) ?_
    rintro Γ31 U33 v34 hl32 ⟨A35, c36, row37, rfl, rfl, hr38, _⟩
    change WR _ _ _ (CC F Γ31 [row8, row37, row24]) _ _ (upd _ 29 (.slice A35 z29.length c36))
    refine va rfl rfl rfl (q_len_slice rfl Tryz.underlying22 rfl) ?_
    refine va rfl rfl rfl (q_move (v := .int .i64 0) rfl (by kernel_rfl)) ?_
    refine WR.nil ?_
    change WC _ _ _ _ _ _
    refine WC.block ?_
    refine WC.forI h (fun (i45 : Nat) (out_39 : List Rec) σ w => ∃ (A40 : Option Addr), ∃ (c41 : Nat), ∃ (row42 : Rowb), slots σ [(9, .map (some g23)), (10, .slice A40 out_39.length c41), (29, .slice A35 z29.length c36), (30, .int .i64 ((z29.length : Nat) : Int)), (31, .int .i64 ((i45 : Nat) : Int))] ∧ CC F Γ31 [row42, row8, row37, row24] w ∧ Own recT Γ31 51 row42 A40 c41 out_39 ∧ True) ?_ ?_
    · skip
      intro w hw
      have hw := hw.pad
      exact ⟨none, 0, [], (sl_ (by kernel_rfl)), hw, (Own.nil recT _ 51), trivial⟩
    rintro f44 i45 out_39 σ w hi46 hlt47 hge48 ⟨A40, c41, row42, hsl, hw, ho43, -⟩
    refine Wpt.slots hsl ?_
    refine WC.here (C := CC F Γ31 [row42, row8, row37, row24]) ?_ hw
    clear hw hsl
    refine WC.rs ?_
    refine va rfl rfl rfl (q_lss rfl rfl rfl) ?_
    refine WR.nil ?_
    change WC _ _ _ _ _ _
    refine WC.seq ?_
    refine WC.cond (b := (decide (((i45 : Nat) : Int) < ((z29.length : Nat) : Int)))) (by kernel_rfl) (fun hb49 => ?_) (fun hb49 => ?_)
    · skip
      have hl50 := ilt hb49
      have h := hlt47 hl50
      refine WC.skip ?_
      change WC _ _ _ _ _ _
      refine WC.cut (fun σ w => ∃ (out_51 : List Rec), ∃ (A52 : Option Addr), ∃ (c53 : Nat), ∃ (row54 : Rowb), m_mend_Give_j5 f44 out_51 = some r ∧ slots σ [(9, .map (some g23)), (10, .slice A52 out_51.length c53), (29, .slice A35 z29.length c36), (30, .int .i64 ((z29.length : Nat) : Int)), (31, .int .i64 ((i45 : Nat) : Int))] ∧ CC F Γ31 [row54, row8, row37, row24] w ∧ Own recT Γ31 51 row54 A52 c53 out_51 ∧ True) ?_ ?_
      · skip
        refine WC.block ?_
        refine WC.rs ?_
        refine va rfl rfl rfl (q_ixn (i := i45) Tryz.underlying22 Tryz.sizeOf51 rfl rfl rfl hl50 (hr38.some_ hl50)) ?_
        obtain ⟨A56, c57, hx58⟩ := hr38.recT_at i45
        refine va rfl rfl rfl (q_ldoa (c := 0) (vs := [.string (gt z29 i45).key, .slice A56 ((gt z29 i45).vers).length c57]) (i := 2) rfl (hx58 hl50).2 rfl Tryz.isAgg51 Tryz.sizeOf51 rfl rfl) ?_
        refine e_alloc Tryz.zeroValue51 rfl rfl rfl rfl ?_
        intro g59
        refine e_st (i := 0) (v := .agg #[.string (gt z29 i45).key, .slice A56 ((gt z29 i45).vers).length c57]) (new := #[.string (gt z29 i45).key, .slice A56 ((gt z29 i45).vers).length c57]) rfl Tryz.sizeOf51 rfl rfl rfl rfl (by kernel_rfl) rfl rfl rfl rfl ?_
        refine WR.nil ?_
        change WC _ _ _ _ _ _
        refine WC.rs ?_
        refine va rfl rfl rfl (q_move (v := .map (some g23)) rfl (by kernel_rfl)) ?_
        refine va rfl rfl rfl (q_fl 0 fld_51_0 rfl rfl rfl) ?_
        refine va rfl rfl rfl (q_ldl (i := 0) (v := .string (gt z29 i45).key) rfl rfl Tryz.isAgg9 rfl rfl) ?_
        obtain ⟨v60, ⟨A63, c64, hv61, hc65, hs66⟩, hat62⟩ := MapO.look (hr25.mono hl32) ((gt z29 i45).key) (z := .slice none 0 0) (zx := []) ⟨none, 0, rfl, Nat.zero_le _, Sl.nil _ _ _⟩
        obtain rfl : v60 = _ := List.cons.inj hv61 |>.1
        refine va rfl rfl rfl (q_lookup1 (v := .slice A63 ((mget ((gt z29 i45).key) z17).getD []).length c64) hat62 rfl Tryz.underlying82 Tryz.zeroValue48 rfl rfl (i := 4) rfl) ?_
        refine va rfl rfl rfl (q_fl 1 fld_51_1 rfl rfl rfl) ?_
        refine va rfl rfl rfl (q_ldl (i := 0) (v := .slice A56 ((gt z29 i45).vers).length c57) rfl rfl Tryz.isAgg48 rfl rfl) ?_
        obtain ⟨z67, hz68, h⟩ := bnd h
        refine vc rfl rfl rfl (q_call (call_run Tryz.call49 rfl rfl (by kernel_rfl)) (fun w hw => t_vers_Lacks (Γ := Gh.all w) (hs66.mono hw.sat.le_all) hc65 ((hx58 hl50).1.2.2.mono hw.sat.le_all) (hx58 hl50).1.2.1 (Sat.all w) hz68)) ?_
        refine WR.nil ?_
        change WC _ _ _ _ _ _
        refine WC.cif h (by kernel_rfl) (fun hb69 h => ?_) (fun hb69 h => ?_)
        · skip
          refine WC.region ?_
          refine va rfl rfl rfl (q_move (v := .slice A40 out_39.length c41) rfl (by kernel_rfl)) ?_
          refine va rfl rfl rfl (q_ldla (i := 0) (vs := [.string (gt z29 i45).key, .slice A56 ((gt z29 i45).vers).length c57]) rfl rfl Tryz.isAgg51 Tryz.sizeOf51 rfl rfl) ?_
          refine e_buildSlice (cs := #[.string (gt z29 i45).key, .slice A56 ((gt z29 i45).vers).length c57]) (e := 51) rfl rfl rfl rfl (fun w => by kernel_rfl) ?_
          intro g70
          obtain ⟨hk71, h⟩ := chk_some h
          refine e_append (T := recT) (xs := out_39) (ys := [(gt z29 i45)]) elem_22 (i := 2) rfl rfl rfl rfl rfl rfl rfl ho43 (of_decide_eq_true hk71) (fun w hw => src_one (T := recT) (y := (gt z29 i45)) (i := 0) rfl (by exact ⟨A56, c57, rfl, (hx58 hl50).1⟩) hw) ?_
          intro row72 A73 c74 ho75
          refine va rfl rfl rfl (q_assign (v := .slice A73 (out_39 ++ [(gt z29 i45)]).length c74) rfl (by kernel_rfl)) ?_
          refine WR.nil ?_
          intro w hw
          exact ⟨(out_39 ++ [(gt z29 i45)]), A73, c74, row72, h, (sl_ (by kernel_rfl)), (hw.only (is := [2, 2, 2, 2]) rfl), ho75, trivial⟩
        · skip
          refine WC.skip ?_
          intro w hw
          exact ⟨out_39, A40, c41, row42, h, (sl_ (by kernel_rfl)), (hw.only (is := [1, 1, 1, 1]) rfl), ho43, trivial⟩
      · skip
        rintro σ w ⟨out_51, A52, c53, row54, h, hsl, hw, ho55, -⟩
        refine Wpt.slots hsl ?_
        refine WC.here (C := CC F Γ31 [row54, row8, row37, row24]) ?_ hw
        clear hw hsl
        refine WC.region ?_
        refine va rfl rfl rfl (q_add_r (r := ((i45 + 1 : Nat) : Int)) rfl rfl rfl (ctr_len hl50 hr38.le)) ?_
        refine va rfl rfl rfl (q_move (v := .int .i64 ((i45 + 1 : Nat) : Int)) rfl (by kernel_rfl)) ?_
        refine WR.nil ?_
        intro w hw
        exact ⟨hl50, out_51, h, A52, c53, row54, (sl_ (by kernel_rfl)), hw, ho55, trivial⟩
    · skip
      have h := hge48 (ige hb49)
      refine WC.exit ?_
      change WC _ _ _ _ _ _
      refine WC.rs ?_
      refine va rfl rfl rfl (q_move (v := .slice A40 out_39.length c41) rfl (by kernel_rfl)) ?_
      refine va rfl rfl rfl (q_assign (v := .slice A40 out_39.length c41) rfl (by kernel_rfl)) ?_
      refine WR.nil ?_
      change WC _ _ _ _ _ _
      refine WC.ret ?_
      intro w hw
      obtain rfl := Option.some.inj h
      subst hF
      exact end_e (is := [0]) (by kernel_rfl) hw rfl ⟨A40, c41, row42, rfl, rfl, ho43, trivial⟩
abbrev r_mend_Open (r : List Int) (U : List Rowb) (Γ : Gh) (v : Value) : Prop := ∃ (A0 : Option Addr), ∃ (c0 : Nat), ∃ (row0 : Rowb), v = .slice A0 r.length c0 ∧ U = [row0] ∧ Own u64T Γ 67 row0 A0 c0 r ∧ True
set_option maxRecDepth 100000 in
set_option maxHeartbeats 400000 in
theorem t_mend_Open {Γ : Gh} {w0 : World} {Aown : Option Addr} {cown : Nat} {own : List Rec} (hown : Sl recT Γ Aown own) (hownc : own.length ≤ cown) (hp : Pre [] Γ w0) {r : List Int} (h : m_mend_Open own = some r) : Calls Tryz.prog 13 #[.slice Aown own.length cown] w0 (Outc Γ [] w0 (r_mend_Open r)) := by
  refine calls_of (N := 14) (rs := [2]) (args := [.slice Aown own.length cown]) Tryz.func13 rfl Tryz.ntmps13 Tryz.results13 rfl ?_
  obtain ⟨F, hF⟩ : ∃ F : Fm, F = ⟨ids [], w0, Γ⟩ := ⟨_, rfl⟩
  refine WC.here (C := CC F Γ []) ?_ (hF ▸ hp.start)
  refine WC.rs ?_
  refine va rfl rfl rfl (q_assign (v := .slice none 0 0) rfl (by kernel_rfl)) ?_
  refine WR.nil ?_
  change WC _ _ _ _ _ _
  refine WC.rs ?_
  refine va rfl rfl rfl (q_move (v := .slice Aown own.length cown) rfl (by kernel_rfl)) ?_
  obtain ⟨z1, hz2, h⟩ := bnd h
  refine e_call (is := []) rfl rfl (call_run Tryz.call37 rfl rfl (by kernel_rfl)) rfl (fun w hp => t_tree_New hown hownc hp hz2) ?_
  rintro Γ3 U5 v6 hl4 ⟨g7, row8, rfl, rfl, hr9, hr10, _⟩
  change WR _ _ _ (CC F Γ3 [row8]) _ _ (upd _ 7 (.tuple #[optp z1.1 g7, .int .i64 z1.2]))
  refine va rfl rfl rfl (q_move (v := .tuple #[optp z1.1 g7, .int .i64 z1.2]) rfl (by kernel_rfl)) ?_
  refine va rfl rfl rfl (q_extract (v := optp z1.1 g7) rfl rfl rfl) ?_
  refine va rfl rfl rfl (q_extract (v := .int .i64 z1.2) rfl rfl rfl) ?_
  refine va rfl rfl rfl (q_assign (v := optp z1.1 g7) rfl (by kernel_rfl)) ?_
  refine va rfl rfl rfl (q_assign (v := .int .i64 z1.2) rfl (by kernel_rfl)) ?_
  refine WR.nil ?_
  change WC _ _ _ _ _ _
  refine WC.seq ?_
  refine WC.rs ?_
  refine va rfl rfl rfl (q_move (v := .int .i64 z1.2) rfl (by kernel_rfl)) ?_
  refine va rfl rfl rfl (q_neq rfl rfl rfl) ?_
  refine WR.nil ?_
  change WC _ _ _ _ _ _
  refine WC.cif h (by kernel_rfl) (fun hb11 h => ?_) (fun hb11 h => ?_)
  · skip
    refine WC.rs ?_
    refine va rfl rfl rfl (q_assign (v := .slice none 0 0) rfl (by kernel_rfl)) ?_
    refine WR.nil ?_
    change WC _ _ _ _ _ _
    refine WC.ret ?_
    intro w hw
    have hw := hw.pad
    obtain rfl := Option.some.inj h
    subst hF
    exact end_e (is := [0]) (by kernel_rfl) hw rfl ⟨none, 0, [], rfl, rfl, (Own.nil u64T _ 67), trivial⟩
  · skip
    refine WC.skip ?_
    change WC _ _ _ _ _ _
    refine WC.rs ?_
    refine va rfl rfl rfl (q_move (v := optp z1.1 g7) rfl (by kernel_rfl)) ?_
    obtain ⟨z12, hz13, h⟩ := bnd h
    have ho14 := optob_some hr9 hz13
    obtain ⟨z15, hz16, h⟩ := bnd h
    refine e_call (is := [0]) rfl rfl (call_run Tryz.call38 rfl rfl (args2 (optp_some rfl hz13) rfl)) rfl (fun w hp => t_tree_Tree_Kids t_HashC ho14 (Sl.nil intT _ none) (Nat.zero_le 0) (fun p hp => nomatch hp) hp hz16) ?_
    rintro Γ17 U19 v20 hl18 ⟨row21, A23, c24, row25, rfl, rfl, hr22, hr26, hz27, _⟩
    change WR _ _ _ (CC F Γ17 [row21, row25]) _ _ (upd _ 13 (.slice A23 z15.2.length c24))
    refine va rfl rfl rfl (q_assign (v := .slice A23 z15.2.length c24) rfl (by kernel_rfl)) ?_
    refine WR.nil ?_
    change WC _ _ _ _ _ _
    refine WC.ret ?_
    intro w hw
    obtain rfl := Option.some.inj h
    subst hF
    exact end_e (is := [1]) (by kernel_rfl) hw rfl ⟨A23, c24, row25, rfl, rfl, hr26, trivial⟩
end Fw
end Go.Proofs.YtbidmceookkapaaGreat
