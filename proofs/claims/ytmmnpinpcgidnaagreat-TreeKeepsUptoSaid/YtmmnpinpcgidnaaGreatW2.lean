/- Walks through the functions that the law reaches (printed by a program). No condition. -/
import Derived.Test.YtmmnpinpcgidnaaGreatW1
namespace Go.Proofs.YtmmnpinpcgidnaaGreat
namespace Fw
set_option linter.unusedVariables false
set_option linter.unusedSimpArgs false
set_option linter.unusedSectionVars false
open Go.RowKit
theorem OTree.back {e : TypeId} {k : Int × Int × Int} {gs : Nat} {l : List ((Int × Int × Int) × Nat)} {Γ : Gh} {g : Nat} {row : Rowb} {x : OTree} {hv : Int} (h : OTree.ob (e, (k, gs) :: l) Γ g row x) (hu : U64 hv) : OTree.ob (e, l) Γ g (row ++ [sumO 81 gs hv]) ⟨x.leaves, x.sums ++ [(k, hv)]⟩ := by
  obtain ⟨cs, rowL, sm, rowS, h1, h2, h3, h4, -⟩ := h
  exact ⟨cs, rowL, sm, rowS ++ [sumO 81 gs hv], by rw [h1]; simp only [List.flatten_cons, List.flatten_nil, List.append_nil, List.append_assoc], h2, h3, h4.back hu, trivial⟩
set_option maxRecDepth 100000 in
set_option maxHeartbeats 400000 in
theorem t_hash1 {H : OTree → List Int → Option (OTree × Int)} (hH : HashC H) {Γ : Gh} {w0 : World} {gt_ : Nat} {et : TG} {rowt : Rowb} {t : OTree} (ht_ : OTree.ob et Γ gt_ rowt t) {A : Option Addr} {c : Nat} {path : List Int} (hpath : Sl intT Γ A path) (hc : path.length ≤ c) (hlen : ∀ p ∈ et.2, p.1.1 ≤ (path.length : Int)) {b2 b3 b7 gs : Nat} {h0 : Int}
    (hp : Pre [[(b2, .cells #[.pointer (some ⟨gt_, 0, none⟩)] 25 (0, 0))], [(b3, .cells #[.slice A path.length c] 23 (0, 0))], [(b7, .cells #[.pointer (some ⟨gs, 0, none⟩)] 61 (0, 0))], rowt, [(gs, .cells #[.int .u32 0, .int .i32 1, .int .u32 0, .int .u64 h0] 81 (0, 0))]] Γ w0) {r : OTree × Int} (h : m_tree_Tree_reckon H t path = some r) :
    Calls Tryz.prog 24 #[.pointer (some ⟨b2, 0, none⟩), .pointer (some ⟨b3, 0, none⟩), .pointer (some ⟨b7, 0, none⟩)] w0 (Outc Γ [[(b2, .cells #[.pointer (some ⟨gt_, 0, none⟩)] 25 (0, 0))], [(b3, .cells #[.slice A path.length c] 23 (0, 0))], [(b7, .cells #[.pointer (some ⟨gs, 0, none⟩)] 61 (0, 0))], rowt, [(gs, .cells #[.int .u32 0, .int .i32 1, .int .u32 0, .int .u64 h0] 81 (0, 0))]] w0
      fun U Δ v => ∃ rowt' : Rowb, v = .tuple #[] ∧ U = [[(b2, .cells #[.pointer (some ⟨gt_, 0, none⟩)] 25 (0, 0))], [(b3, .cells #[.slice A path.length c] 23 (0, 0))], [(b7, .cells #[.pointer (some ⟨gs, 0, none⟩)] 61 (0, 0))], rowt', [(gs, .cells #[.int .u32 0, .int .i32 1, .int .u32 0, .int .u64 r.2] 81 (0, 0))]] ∧ OTree.ob et Δ gt_ rowt' r.1 ∧ U64 r.2 ∧ True) := by
  refine calls_of (N := 9) (rs := []) (args := [.pointer (some ⟨b2, 0, none⟩), .pointer (some ⟨b3, 0, none⟩), .pointer (some ⟨b7, 0, none⟩)]) Tryz.func24 rfl Tryz.ntmps24 Tryz.results24 rfl ?_
  obtain ⟨F, hF⟩ : ∃ F : Fm, F = ⟨ids [[(b2, .cells #[.pointer (some ⟨gt_, 0, none⟩)] 25 (0, 0))], [(b3, .cells #[.slice A path.length c] 23 (0, 0))], [(b7, .cells #[.pointer (some ⟨gs, 0, none⟩)] 61 (0, 0))], rowt, [(gs, .cells #[.int .u32 0, .int .i32 1, .int .u32 0, .int .u64 h0] 81 (0, 0))]], w0, Γ⟩ := ⟨_, rfl⟩
  refine WC.here (C := CC F Γ [[(b2, .cells #[.pointer (some ⟨gt_, 0, none⟩)] 25 (0, 0))], [(b3, .cells #[.slice A path.length c] 23 (0, 0))], [(b7, .cells #[.pointer (some ⟨gs, 0, none⟩)] 61 (0, 0))], rowt, [(gs, .cells #[.int .u32 0, .int .i32 1, .int .u32 0, .int .u64 h0] 81 (0, 0))]]) ?_ (hF ▸ hp.start)
  intro w hw; have h00 := hw.le
  refine WC.here (C := CC F Γ [[(b2, .cells #[.pointer (some ⟨gt_, 0, none⟩)] 25 (0, 0))], [(b3, .cells #[.slice A path.length c] 23 (0, 0))], [(b7, .cells #[.pointer (some ⟨gs, 0, none⟩)] 61 (0, 0))], rowt, [(gs, .cells #[.int .u32 0, .int .i32 1, .int .u32 0, .int .u64 h0] 81 (0, 0))]]) ?_ hw; clear hw
  refine WC.held (CC F Γ [[(b2, .cells #[.pointer (some ⟨gt_, 0, none⟩)] 25 (0, 0))], [(b3, .cells #[.slice A path.length c] 23 (0, 0))], [(b7, .cells #[.pointer (some ⟨gs, 0, none⟩)] 61 (0, 0))]]) (by kernel_rfl) (fun w hw => hw.drawn _) ?_
  change WH _ _ _ _ (CC F Γ [[(b2, .cells #[.pointer (some ⟨gt_, 0, none⟩)] 25 (0, 0))], [(b3, .cells #[.slice A path.length c] 23 (0, 0))], [(b7, .cells #[.pointer (some ⟨gs, 0, none⟩)] 61 (0, 0))], rowt, [(gs, .cells #[.int .u32 0, .int .i32 1, .int .u32 0, .int .u64 h0] 81 (0, 0))]]) _ 7 #[false, false, false, false, false, false, false] _
  refine ht (i := 0) rfl (by kernel_rfl) rfl rfl rfl (fun w hw => hw.back (Gh.refl _) h00 (.cons_cons _ (.cons_cons _ (.cons_cons _ (.cons _ (.cons _ .slnil)))))) (q_ldl (i := 2) (v := .pointer (some ⟨gs, 0, none⟩)) rfl rfl Tryz.isAgg61 rfl rfl) ?_
  refine ht (i := 1) rfl (by kernel_rfl) rfl rfl rfl (fun w hw => hw.back (Gh.refl _) h00 (.cons_cons _ (.cons_cons _ (.cons_cons _ (.cons _ (.cons _ .slnil)))))) (q_ldl (i := 0) (v := .pointer (some ⟨gt_, 0, none⟩)) rfl rfl Tryz.isAgg25 rfl rfl) ?_
  refine ht (i := 2) rfl (by kernel_rfl) rfl rfl rfl (fun w hw => hw.back (Gh.refl _) h00 (.cons_cons _ (.cons_cons _ (.cons_cons _ (.cons _ (.cons _ .slnil)))))) (q_ldl (i := 1) (v := .slice A path.length c) rfl rfl Tryz.isAgg23 rfl rfl) ?_
  refine WH.lone (i := 3) (by kernel_rfl) rfl ?_
  refine e_call (is := [3]) rfl rfl (call_run Tryz.call25 rfl rfl (by kernel_rfl)) rfl (fun w hp => t_tree_Tree_reckon hH ht_ hpath hc hlen hp h) ?_
  rintro Γ1 U1 v1 hl1 ⟨rowt', rfl, rfl, hob, hu, -⟩
  change WR _ _ _ (CC F Γ1 [rowt', [(b2, .cells #[.pointer (some ⟨gt_, 0, none⟩)] 25 (0, 0))], [(b3, .cells #[.slice A path.length c] 23 (0, 0))], [(b7, .cells #[.pointer (some ⟨gs, 0, none⟩)] 61 (0, 0))], [(gs, .cells #[.int .u32 0, .int .i32 1, .int .u32 0, .int .u64 h0] 81 (0, 0))]]) _ _ (upd _ 6 (.int .u64 r.2))
  refine WR.nil ?_
  refine WH.next (fun w hw => hw.back hl1 h00 (.cons _ (.cons_cons _ (.cons_cons _ (.cons_cons _ (.cons _ .slnil)))))) ?_
  refine ht (i := 4) rfl (by kernel_rfl) rfl rfl rfl (fun w hw => hw.back hl1 h00 (.cons _ (.cons_cons _ (.cons_cons _ (.cons_cons _ (.cons _ .slnil)))))) (q_nil (A := some ⟨gs, 0, none⟩) rfl rfl rfl) ?_
  refine ht (i := 5) rfl (by kernel_rfl) rfl rfl rfl (fun w hw => hw.back hl1 h00 (.cons _ (.cons_cons _ (.cons_cons _ (.cons_cons _ (.cons _ .slnil)))))) (q_fl 3 fld_81_1 rfl rfl rfl) ?_
  refine WH.lone (i := 6) (by kernel_rfl) rfl ?_
  refine e_st (i := 4) (v := .int .u64 r.2) (new := #[.int .u32 0, .int .i32 1, .int .u32 0, .int .u64 r.2]) rfl Tryz.sizeOf28 rfl rfl rfl rfl (by kernel_rfl) rfl rfl rfl rfl ?_
  refine WR.nil ?_
  refine WH.next (fun w hw => hw.back hl1 h00 (.cons _ (.cons_cons _ (.cons_cons _ (.cons_cons _ (.cons _ .slnil)))))) ?_
  refine WH.done (by kernel_rfl) ?_
  intro w hw
  subst hF
  exact end_e (is := [1, 1, 1, 0, 0]) (by kernel_rfl) hw rfl ⟨rowt', rfl, rfl, hob, hu, trivial⟩
set_option maxRecDepth 100000 in
set_option maxHeartbeats 400000 in
theorem t_once {H : OTree → List Int → Option (OTree × Int)} (hH : HashC H) {Γ : Gh} {w0 : World} {gt_ : Nat} {et : TG} {rowt : Rowb} {t : OTree} (ht_ : OTree.ob et Γ gt_ rowt t) {A : Option Addr} {c : Nat} {path : List Int} (hpath : Sl intT Γ A path) (hc : path.length ≤ c) (hlen : ∀ p ∈ et.2, p.1.1 ≤ (path.length : Int)) {b2 b3 b7 gs : Nat} {h0 : Int}
    (hp : Pre [[(b2, .cells #[.pointer (some ⟨gt_, 0, none⟩)] 25 (0, 0))], [(b3, .cells #[.slice A path.length c] 23 (0, 0))], [(b7, .cells #[.pointer (some ⟨gs, 0, none⟩)] 61 (0, 0))], rowt, [(gs, .cells #[.int .u32 0, .int .i32 0, .int .u32 0, .int .u64 h0] 81 (0, 0))]] Γ w0) {r : OTree × Int} (h : m_tree_Tree_reckon H t path = some r) :
    Calls Tryz.prog 23 #[.pointer (some ⟨gs, 0, none⟩), .func (.func 24) #[] #[.pointer (some ⟨b2, 0, none⟩), .pointer (some ⟨b3, 0, none⟩), .pointer (some ⟨b7, 0, none⟩)]] w0 (Outc Γ [[(b2, .cells #[.pointer (some ⟨gt_, 0, none⟩)] 25 (0, 0))], [(b3, .cells #[.slice A path.length c] 23 (0, 0))], [(b7, .cells #[.pointer (some ⟨gs, 0, none⟩)] 61 (0, 0))], rowt, [(gs, .cells #[.int .u32 0, .int .i32 0, .int .u32 0, .int .u64 h0] 81 (0, 0))]] w0
      fun U Δ v => ∃ rowt' : Rowb, v = .tuple #[] ∧ U = [[(b2, .cells #[.pointer (some ⟨gt_, 0, none⟩)] 25 (0, 0))], [(b3, .cells #[.slice A path.length c] 23 (0, 0))], [(b7, .cells #[.pointer (some ⟨gs, 0, none⟩)] 61 (0, 0))], rowt', [(gs, .cells #[.int .u32 1, .int .i32 0, .int .u32 0, .int .u64 r.2] 81 (0, 0))]] ∧ OTree.ob et Δ gt_ rowt' r.1 ∧ U64 r.2 ∧ True) := by
  have hs : w0.heap[gs]? = some (.cells #[.int .u32 0, .int .i32 0, .int .u32 0, .int .u64 h0] 81 (0, 0)) := hp.loc [(gs, .cells #[.int .u32 0, .int .i32 0, .int .u32 0, .int .u64 h0] 81 (0, 0))] (by simp) (gs, .cells #[.int .u32 0, .int .i32 0, .int .u32 0, .int .u64 h0] 81 (0, 0)) (by simp)
  have c1 := hp.start.setCell (i := 4) (j := 1) (v := .int .i32 1) (g := gs) (cs := #[.int .u32 0, .int .i32 0, .int .u32 0, .int .u64 h0]) (new := #[.int .u32 0, .int .i32 1, .int .u32 0, .int .u64 h0]) (t := 81) rfl rfl
  have hcl := t_hash1 hH ht_ hpath hc hlen (b2 := b2) (b3 := b3) (b7 := b7) (gs := gs) (h0 := h0) c1.pre h
  refine (Once.do_first gs 24 #[.pointer (some ⟨b2, 0, none⟩), .pointer (some ⟨b3, 0, none⟩), .pointer (some ⟨b7, 0, none⟩)] (fun w2 => ∃ (Δ : Gh) (rowt' : Rowb), Eff Γ Δ [[(b2, .cells #[.pointer (some ⟨gt_, 0, none⟩)] 25 (0, 0))], [(b3, .cells #[.slice A path.length c] 23 (0, 0))], [(b7, .cells #[.pointer (some ⟨gs, 0, none⟩)] 61 (0, 0))], rowt, [(gs, .cells #[.int .u32 0, .int .i32 1, .int .u32 0, .int .u64 h0] 81 (0, 0))]]
    [[(b2, .cells #[.pointer (some ⟨gt_, 0, none⟩)] 25 (0, 0))], [(b3, .cells #[.slice A path.length c] 23 (0, 0))], [(b7, .cells #[.pointer (some ⟨gs, 0, none⟩)] 61 (0, 0))], rowt', [(gs, .cells #[.int .u32 0, .int .i32 1, .int .u32 0, .int .u64 r.2] 81 (0, 0))]] (w0.setCell ⟨gs, 1, none⟩ (.int .i32 1)) w2 ∧ OTree.ob et Δ gt_ rowt' r.1 ∧ U64 r.2) w0 ?_ ?_ ?_ Tryz.call24 (hcl.mono ?_) ?_).mono ?_
  · rw [cell_of_row _ _ _ _ _ _ hs]; rfl
  · rw [cell_of_row _ _ _ _ _ _ hs]; rfl
  · simp [World.frozen?, hs]
  · rintro e w2 ⟨v, rfl, Δ, U', he, rowt', rfl, rfl, hob, hu, -⟩
    exact ⟨rfl, Δ, rowt', he, hob, hu⟩
  · rintro w2 ⟨Δ, rowt', he, hob, hu⟩
    have hb : w2.heap[gs]? = some (.cells #[.int .u32 0, .int .i32 1, .int .u32 0, .int .u64 r.2] 81 (0, 0)) := he.loc [(gs, .cells #[.int .u32 0, .int .i32 1, .int .u32 0, .int .u64 r.2] 81 (0, 0))] (by simp) (gs, .cells #[.int .u32 0, .int .i32 1, .int .u32 0, .int .u64 r.2] 81 (0, 0)) (by simp)
    exact ⟨by rw [cell_of_row _ _ _ _ _ _ hb]; rfl, by rw [cell_of_row _ _ _ _ _ _ hb]; rfl, by simp [World.frozen?, hb], by simp [World.frozen?, hb]⟩
  · rintro e w' ⟨rfl, w2, ⟨Δ, rowt', he, hob, hu⟩, rfl⟩
    have c2 := Cur.eff (R := []) c1 he
    have c3 := c2.drew.setCell (i := 4) (j := 0) (v := .int .u32 1) (g := gs) (cs := #[.int .u32 0, .int .i32 1, .int .u32 0, .int .u64 r.2]) (new := #[.int .u32 1, .int .i32 1, .int .u32 0, .int .u64 r.2]) (t := 81) rfl rfl
    have c4 := c3.setCell (i := 4) (j := 1) (v := .int .i32 0) (g := gs) (cs := #[.int .u32 1, .int .i32 1, .int .u32 0, .int .u64 r.2]) (new := #[.int .u32 1, .int .i32 0, .int .u32 0, .int .u64 r.2]) (t := 81) rfl rfl
    exact ⟨_, rfl, Δ, _, c4.toEff, rowt', rfl, rfl, hob, hu, trivial⟩
set_option maxRecDepth 100000 in
set_option maxHeartbeats 400000 in
theorem t_hash_step {H : OTree → List Int → Option (OTree × Int)} (hH : HashC H) : HashC (m_hashB H) := by
  intro Γ w0 gt_ et rowt t ht_ A c path hpath hc hlen hp r h
  refine calls_of (N := 40) (rs := [4]) (args := [.pointer (some ⟨gt_, 0, none⟩), .slice A path.length c]) Tryz.func7 rfl Tryz.ntmps7 Tryz.results7 rfl ?_
  obtain ⟨F, hF⟩ : ∃ F : Fm, F = ⟨ids [rowt], w0, Γ⟩ := ⟨_, rfl⟩
  refine WC.here (C := CC F Γ [rowt]) ?_ (hF ▸ hp.start)
  refine WC.rs ?_
  refine e_box (v := .pointer (some ⟨gt_, 0, none⟩)) rfl rfl rfl rfl (by kernel_rfl) ?_
  intro b2
  refine e_box (v := .slice A path.length c) rfl rfl rfl rfl (by kernel_rfl) ?_
  intro b3
  refine va rfl rfl rfl (q_assign (v := .int .u64 0) rfl (by kernel_rfl)) ?_
  refine WR.nil ?_
  change WC _ _ _ _ _ _
  refine WC.rs ?_
  refine va rfl rfl rfl (q_ldl (i := 0) (v := .slice A path.length c) rfl rfl Tryz.isAgg23 rfl rfl) ?_
  obtain ⟨z1, hz2, h⟩ := bnd h
  refine vc rfl rfl rfl (q_call (call_run Tryz.call22 rfl rfl (by kernel_rfl)) (fun w hw => t_tree_at (Γ := Gh.all w) (hpath.mono hw.sat.le_all) hc (Sat.all w) hz2)) ?_
  refine va rfl rfl rfl (q_move (v := .tuple #[.agg #[.int .i64 z1.1.1, .int .i64 z1.1.2.1, .int .i64 z1.1.2.2], .bool z1.2]) rfl (by kernel_rfl)) ?_
  refine va rfl rfl rfl (q_extract (v := .agg #[.int .i64 z1.1.1, .int .i64 z1.1.2.1, .int .i64 z1.1.2.2]) rfl rfl rfl) ?_
  refine va rfl rfl rfl (q_extract (v := .bool z1.2) rfl rfl rfl) ?_
  refine e_alloc Tryz.zeroValue58 rfl rfl rfl rfl ?_
  intro g5
  refine e_st (i := 0) (v := .agg #[.int .i64 z1.1.1, .int .i64 z1.1.2.1, .int .i64 z1.1.2.2]) (new := #[.int .i64 z1.1.1, .int .i64 z1.1.2.1, .int .i64 z1.1.2.2]) rfl Tryz.sizeOf58 rfl rfl rfl rfl (by kernel_rfl) rfl rfl rfl rfl ?_
  refine va rfl rfl rfl (q_assign (v := .bool z1.2) rfl (by kernel_rfl)) ?_
  refine WR.nil ?_
  change WC _ _ _ _ _ _
  refine WC.seq ?_
  refine WC.rs ?_
  refine va rfl rfl rfl (q_move (v := .bool z1.2) rfl (by kernel_rfl)) ?_
  refine va rfl rfl rfl (q_not rfl rfl) ?_
  refine WR.nil ?_
  change WC _ _ _ _ _ _
  refine WC.cif h (by kernel_rfl) (fun hb7 h => ?_) (fun hb7 h => ?_)
  · skip
    refine WC.rs ?_
    refine va rfl rfl rfl (q_assign (v := .int .u64 0) rfl (by kernel_rfl)) ?_
    refine WR.nil ?_
    change WC _ _ _ _ _ _
    refine WC.ret ?_
    intro w hw
    obtain rfl := Option.some.inj h
    subst hF
    exact end_e (is := [3]) (by kernel_rfl) hw rfl ⟨rowt, rfl, rfl, ht_, (show U64 0 by decide), trivial⟩
  skip
  refine WC.skip ?_
  change WC _ _ _ _ _ _
  obtain ⟨hk1, h⟩ := chk_some h
  obtain ⟨hk2, h⟩ := chk_some h
  obtain ⟨hk3, h⟩ := chk_some h
  have hq := ht_
  obtain ⟨cs, rowL, sm, rowS, hrow, hM, hl, hS, -⟩ := hq
  have hx : ∀ p ∈ et.2, p.1 ≠ z1.1 := fun p hp e => by
    have h9 := hlen p hp
    rw [e, of_decide_eq_true hk1] at h9
    omega
  have hblk : (gt_, Obj.cells (cs ++ [Value.map (some sm)]).toArray et.1 (0, 0)) ∈ rowt := hrow ▸ List.mem_flatten.2 ⟨([(gt_, .cells (cs ++ [Value.map (some sm)]).toArray et.1 (0, 0))] : Rowb), List.mem_cons_self .., List.mem_singleton.2 rfl⟩
  rcases hS.look hx (.pointer none) with ⟨hv, gs, rowM, B, hm, hu, hrS, hsum, hat⟩ | ⟨hm, own, rowM, ho1, ho2, hon, hrS, hat⟩
  · simp only [hm] at h
    have hmM : ∀ p ∈ rowM, p ∈ rowt := fun p hp => hrow ▸ List.mem_flatten.2 ⟨rowS, by simp, by rw [hrS]; exact List.mem_append_left _ hp⟩
    have hsum' : (gs, Obj.cells #[.int .u32 1, .int .i32 0, .int .u32 0, .int .u64 hv] 81 (0, 0)) ∈ rowt := hrow ▸ List.mem_flatten.2 ⟨rowS, by simp, hsum⟩
    refine WC.seq ?_
    intro w hw; have h00 := hw.le
    refine WC.here (C := CC F Γ [[(g5, .cells #[.int .i64 z1.1.1, .int .i64 z1.1.2.1, .int .i64 z1.1.2.2] 58 (0, 0))], [(b3, .cells #[.slice A path.length c] 23 (0, 0))], [(b2, .cells #[.pointer (some ⟨gt_, 0, none⟩)] 25 (0, 0))], rowt]) ?_ hw; clear hw
    refine WC.held (CC F Γ [[(g5, .cells #[.int .i64 z1.1.1, .int .i64 z1.1.2.1, .int .i64 z1.1.2.2] 58 (0, 0))], [(b3, .cells #[.slice A path.length c] 23 (0, 0))], [(b2, .cells #[.pointer (some ⟨gt_, 0, none⟩)] 25 (0, 0))], rowt]) (by kernel_rfl) (fun w hw => hw.drawn _) ?_
    change WH _ _ _ _ (CC F Γ [[(g5, .cells #[.int .i64 z1.1.1, .int .i64 z1.1.2.1, .int .i64 z1.1.2.2] 58 (0, 0))], [(b3, .cells #[.slice A path.length c] 23 (0, 0))], [(b2, .cells #[.pointer (some ⟨gt_, 0, none⟩)] 25 (0, 0))], rowt]) _ 8 #[false, false, false, false, false, false, false, false] _
    refine ht (i := 0) rfl (by kernel_rfl) rfl rfl rfl (fun w hw => hw) (q_ldl (i := 2) (v := .pointer (some ⟨gt_, 0, none⟩)) rfl rfl Tryz.isAgg25 rfl rfl) ?_
    refine ht (i := 1) rfl (by kernel_rfl) rfl rfl rfl (fun w hw => hw) (q_nil (A := some ⟨gt_, 0, none⟩) rfl rfl rfl) ?_
    refine ht (i := 2) rfl (by kernel_rfl) rfl rfl rfl (fun w hw => hw) (q_fl 256 fld_67_1 rfl rfl rfl) ?_
    refine ht (i := 3) rfl (by kernel_rfl) rfl rfl rfl (fun w hw => hw) (q_ldr (i := 3) (v := .map (some sm)) rfl hblk rfl Tryz.isAgg65 rfl (blk_end (hM.len.trans hl))) ?_
    refine ht (i := 4) rfl (by kernel_rfl) rfl rfl rfl (fun w hw => hw) (q_ldla (i := 0) (vs := [.int .i64 z1.1.1, .int .i64 z1.1.2.1, .int .i64 z1.1.2.2]) rfl rfl Tryz.isAgg58 Tryz.sizeOf58 rfl rfl) ?_
    refine ht (i := 5) rfl (by kernel_rfl) rfl rfl rfl (fun w hw => hw) (q_lookup1r (row := rowM) (x := z1.1) (v := .pointer (some ⟨gs, 0, none⟩)) (fun w hw p hp => hw.at_ (i := 3) rfl (hmM p hp)) hat rfl Tryz.underlying65 Tryz.zeroValue61 rfl rfl) ?_
    refine WH.lone (i := 6) (by kernel_rfl) rfl ?_
    refine e_alloc Tryz.zeroValue61 rfl rfl rfl rfl ?_
    intro b7
    refine WR.nil ?_
    refine WH.next (fun w hw => hw.back (Gh.refl _) h00 (.cons _ (.cons_cons _ (.cons_cons _ (.cons_cons _ (.cons_cons _ .slnil)))))) ?_
    refine WH.lone (i := 7) (by kernel_rfl) rfl ?_
    refine e_st (i := 0) (v := .pointer (some ⟨gs, 0, none⟩)) (new := #[.pointer (some ⟨gs, 0, none⟩)]) rfl Tryz.sizeOf61 rfl rfl rfl rfl (by kernel_rfl) rfl rfl rfl rfl ?_
    refine WR.nil ?_
    refine WH.next (fun w hw => hw.back (Gh.refl _) h00 (.cons _ (.cons_cons _ (.cons_cons _ (.cons_cons _ (.cons_cons _ .slnil)))))) ?_
    refine WH.done (by kernel_rfl) ?_
    change WC _ _ _ _ _ _
    refine WC.seq ?_
    refine WC.rs ?_
    refine va rfl rfl rfl (q_ldl (i := 0) (v := .pointer (some ⟨gs, 0, none⟩)) rfl rfl Tryz.isAgg61 rfl rfl) ?_
    refine va rfl rfl rfl (q_ptr_eql (a := some ⟨gs, 0, none⟩) Tryz.underlying61 rfl rfl rfl) ?_
    refine WR.nil ?_
    change WC _ _ _ _ _ _
    refine WC.cfk (b := false) (by kernel_rfl) rfl ?_
    refine WC.skip ?_
    change WC _ _ _ _ _ _
    refine WC.rs ?_
    refine va rfl rfl rfl (q_ldl (i := 0) (v := .pointer (some ⟨gs, 0, none⟩)) rfl rfl Tryz.isAgg61 rfl rfl) ?_
    refine va rfl rfl rfl (q_nil (A := some ⟨gs, 0, none⟩) rfl rfl rfl) ?_
    refine va rfl rfl rfl (q_fl 0 fld_81_0 rfl rfl rfl) ?_
    refine va rfl rfl rfl (q_mkfn (v := .func (.func 24) #[] #[.pointer (some ⟨b2, 0, none⟩), .pointer (some ⟨b3, 0, none⟩), .pointer (some ⟨b7, 0, none⟩)]) rfl (by kernel_rfl)) ?_
    refine vc rfl rfl rfl (q_call (v := .tuple #[]) (call_run (args := #[.pointer (some ⟨gs, 0, none⟩), .func (.func 24) #[] #[.pointer (some ⟨b2, 0, none⟩), .pointer (some ⟨b3, 0, none⟩), .pointer (some ⟨b7, 0, none⟩)]]) Tryz.call23 rfl rfl (by kernel_rfl)) (fun w hw => (Once.do_done ⟨gs, 0, none⟩ _ w ((cell_of_row w gs 0 _ _ _ (hw.at_ (i := 4) rfl hsum')).trans rfl)).mono fun e w' ⟨he, hw'⟩ => ⟨he, hw' ▸ Fr.refl _ _⟩)) ?_
    refine WR.nil ?_
    change WC _ _ _ _ _ _
    refine WC.rs ?_
    refine va rfl rfl rfl (q_ldl (i := 0) (v := .pointer (some ⟨gs, 0, none⟩)) rfl rfl Tryz.isAgg61 rfl rfl) ?_
    refine va rfl rfl rfl (q_nil (A := some ⟨gs, 0, none⟩) rfl rfl rfl) ?_
    refine va rfl rfl rfl (q_fl 3 fld_81_1 rfl rfl rfl) ?_
    refine va rfl rfl rfl (q_ldr (i := 4) (v := .int .u64 hv) rfl hsum' rfl Tryz.isAgg28 rfl rfl) ?_
    refine va rfl rfl rfl (q_assign (v := .int .u64 hv) rfl (by kernel_rfl)) ?_
    refine WR.nil ?_
    change WC _ _ _ _ _ _
    refine WC.ret ?_
    intro w hw
    obtain rfl := Option.some.inj h
    subst hF
    exact end_e (is := [4]) (by kernel_rfl) hw rfl ⟨rowt, rfl, rfl, ht_, hu, trivial⟩
  · simp only [hm] at h
    obtain ⟨z, hz, h⟩ := bnd h
    have hmM : ∀ p ∈ rowM, p ∈ rowt := fun p hp => hrow ▸ List.mem_flatten.2 ⟨rowS, by simp, by rw [hrS]; exact List.mem_append_left _ hp⟩
    obtain ⟨B, hB⟩ : ∃ B, B = List.zipWith (fun a b => sumO 81 a.2 b.2) own t.sums := ⟨_, rfl⟩
    have hrow4 : rowt = ([[(gt_, .cells (cs ++ [Value.map (some sm)]).toArray et.1 (0, 0))], rowL, rowM, B] : List Rowb).flatten := by rw [hrow, hrS, hB]; simp only [List.flatten_cons, List.flatten_nil, List.append_nil, List.append_assoc]
    refine WC.seq ?_
    intro w hw; have h00 := hw.le
    refine WC.here (C := CC F Γ [[(g5, .cells #[.int .i64 z1.1.1, .int .i64 z1.1.2.1, .int .i64 z1.1.2.2] 58 (0, 0))], [(b3, .cells #[.slice A path.length c] 23 (0, 0))], [(b2, .cells #[.pointer (some ⟨gt_, 0, none⟩)] 25 (0, 0))], rowt]) ?_ hw; clear hw
    refine WC.held (CC F Γ [[(g5, .cells #[.int .i64 z1.1.1, .int .i64 z1.1.2.1, .int .i64 z1.1.2.2] 58 (0, 0))], [(b3, .cells #[.slice A path.length c] 23 (0, 0))], [(b2, .cells #[.pointer (some ⟨gt_, 0, none⟩)] 25 (0, 0))], rowt]) (by kernel_rfl) (fun w hw => hw.drawn _) ?_
    change WH _ _ _ _ (CC F Γ [[(g5, .cells #[.int .i64 z1.1.1, .int .i64 z1.1.2.1, .int .i64 z1.1.2.2] 58 (0, 0))], [(b3, .cells #[.slice A path.length c] 23 (0, 0))], [(b2, .cells #[.pointer (some ⟨gt_, 0, none⟩)] 25 (0, 0))], rowt]) _ 8 #[false, false, false, false, false, false, false, false] _
    refine ht (i := 0) rfl (by kernel_rfl) rfl rfl rfl (fun w hw => hw) (q_ldl (i := 2) (v := .pointer (some ⟨gt_, 0, none⟩)) rfl rfl Tryz.isAgg25 rfl rfl) ?_
    refine ht (i := 1) rfl (by kernel_rfl) rfl rfl rfl (fun w hw => hw) (q_nil (A := some ⟨gt_, 0, none⟩) rfl rfl rfl) ?_
    refine ht (i := 2) rfl (by kernel_rfl) rfl rfl rfl (fun w hw => hw) (q_fl 256 fld_67_1 rfl rfl rfl) ?_
    refine ht (i := 3) rfl (by kernel_rfl) rfl rfl rfl (fun w hw => hw) (q_ldr (i := 3) (v := .map (some sm)) rfl hblk rfl Tryz.isAgg65 rfl (blk_end (hM.len.trans hl))) ?_
    refine ht (i := 4) rfl (by kernel_rfl) rfl rfl rfl (fun w hw => hw) (q_ldla (i := 0) (vs := [.int .i64 z1.1.1, .int .i64 z1.1.2.1, .int .i64 z1.1.2.2]) rfl rfl Tryz.isAgg58 Tryz.sizeOf58 rfl rfl) ?_
    refine ht (i := 5) rfl (by kernel_rfl) rfl rfl rfl (fun w hw => hw) (q_lookup1r (row := rowM) (x := z1.1) (v := .pointer none) (fun w hw p hp => hw.at_ (i := 3) rfl (hmM p hp)) hat rfl Tryz.underlying65 Tryz.zeroValue61 rfl rfl) ?_
    refine WH.lone (i := 6) (by kernel_rfl) rfl ?_
    refine e_alloc Tryz.zeroValue61 rfl rfl rfl rfl ?_
    intro b7
    refine WR.nil ?_
    refine WH.next (fun w hw => hw.back (Gh.refl _) h00 (.cons _ (.cons_cons _ (.cons_cons _ (.cons_cons _ (.cons_cons _ .slnil)))))) ?_
    refine WH.lone (i := 7) (by kernel_rfl) rfl ?_
    refine e_st (i := 0) (v := .pointer none) (new := #[.pointer none]) rfl Tryz.sizeOf61 rfl rfl rfl rfl (by kernel_rfl) rfl rfl rfl rfl ?_
    refine WR.nil ?_
    refine WH.next (fun w hw => hw.back (Gh.refl _) h00 (.cons _ (.cons_cons _ (.cons_cons _ (.cons_cons _ (.cons_cons _ .slnil)))))) ?_
    refine WH.done (by kernel_rfl) ?_
    change WC _ _ _ _ _ _
    refine WC.seq ?_
    refine WC.rs ?_
    refine va rfl rfl rfl (q_ldl (i := 0) (v := .pointer none) rfl rfl Tryz.isAgg61 rfl rfl) ?_
    refine va rfl rfl rfl (q_ptr_eql (a := none) Tryz.underlying61 rfl rfl rfl) ?_
    refine WR.nil ?_
    change WC _ _ _ _ _ _
    refine WC.ctk (b := true) (by kernel_rfl) rfl ?_
    refine WC.rs ?_
    refine va rfl rfl rfl (q_build (v := .agg #[.int .u32 0, .int .i32 0, .int .u32 0, .int .u64 0]) rfl (fun w => by kernel_rfl)) ?_
    refine e_box (v := .agg #[.int .u32 0, .int .i32 0, .int .u32 0, .int .u64 0]) rfl rfl rfl rfl (by kernel_rfl) ?_
    intro gs
    refine e_st (i := 1) (v := .pointer (some ⟨gs, 0, none⟩)) (new := #[.pointer (some ⟨gs, 0, none⟩)]) rfl Tryz.sizeOf61 rfl rfl rfl rfl (by kernel_rfl) rfl rfl rfl rfl ?_
    refine WR.nil ?_
    change WC _ _ _ _ _ _
    intro w hw; have hw := hw.unfold (i := 5) rfl hrow4; have h01 := hw.le
    refine WC.here (C := CC F Γ [[(gt_, .cells (cs ++ [Value.map (some sm)]).toArray et.1 (0, 0))], rowL, rowM, B, [(gs, .cells #[.int .u32 0, .int .i32 0, .int .u32 0, .int .u64 0] 81 (0, 0))], [(b7, .cells #[.pointer (some ⟨gs, 0, none⟩)] 61 (0, 0))], [(g5, .cells #[.int .i64 z1.1.1, .int .i64 z1.1.2.1, .int .i64 z1.1.2.2] 58 (0, 0))], [(b3, .cells #[.slice A path.length c] 23 (0, 0))], [(b2, .cells #[.pointer (some ⟨gt_, 0, none⟩)] 25 (0, 0))]]) ?_ hw; clear hw
    refine WC.held (CC F Γ [[(gt_, .cells (cs ++ [Value.map (some sm)]).toArray et.1 (0, 0))], [(b7, .cells #[.pointer (some ⟨gs, 0, none⟩)] 61 (0, 0))], [(g5, .cells #[.int .i64 z1.1.1, .int .i64 z1.1.2.1, .int .i64 z1.1.2.2] 58 (0, 0))], [(b2, .cells #[.pointer (some ⟨gt_, 0, none⟩)] 25 (0, 0))]]) (by kernel_rfl) (fun w hw => hw.drawn _) ?_
    change WH _ _ _ _ (CC F Γ [[(gt_, .cells (cs ++ [Value.map (some sm)]).toArray et.1 (0, 0))], rowL, rowM, B, [(gs, .cells #[.int .u32 0, .int .i32 0, .int .u32 0, .int .u64 0] 81 (0, 0))], [(b7, .cells #[.pointer (some ⟨gs, 0, none⟩)] 61 (0, 0))], [(g5, .cells #[.int .i64 z1.1.1, .int .i64 z1.1.2.1, .int .i64 z1.1.2.2] 58 (0, 0))], [(b3, .cells #[.slice A path.length c] 23 (0, 0))], [(b2, .cells #[.pointer (some ⟨gt_, 0, none⟩)] 25 (0, 0))]]) _ 7 #[false, false, false, false, false, false, false] _
    refine ht (i := 0) rfl (by kernel_rfl) rfl rfl rfl (fun w hw => hw.back (Gh.refl _) h01 (.cons_cons _ (.cons _ (.cons _ (.cons _ (.cons _ (.cons_cons _ (.cons_cons _ (.cons _ (.cons_cons _ .slnil)))))))))) (q_ldl (i := 3) (v := .pointer (some ⟨gt_, 0, none⟩)) rfl rfl Tryz.isAgg25 rfl rfl) ?_
    refine ht (i := 1) rfl (by kernel_rfl) rfl rfl rfl (fun w hw => hw.back (Gh.refl _) h01 (.cons_cons _ (.cons _ (.cons _ (.cons _ (.cons _ (.cons_cons _ (.cons_cons _ (.cons _ (.cons_cons _ .slnil)))))))))) (q_nil (A := some ⟨gt_, 0, none⟩) rfl rfl rfl) ?_
    refine ht (i := 2) rfl (by kernel_rfl) rfl rfl rfl (fun w hw => hw.back (Gh.refl _) h01 (.cons_cons _ (.cons _ (.cons _ (.cons _ (.cons _ (.cons_cons _ (.cons_cons _ (.cons _ (.cons_cons _ .slnil)))))))))) (q_fl 256 fld_67_1 rfl rfl rfl) ?_
    refine ht (i := 3) rfl (by kernel_rfl) rfl rfl rfl (fun w hw => hw.back (Gh.refl _) h01 (.cons_cons _ (.cons _ (.cons _ (.cons _ (.cons _ (.cons_cons _ (.cons_cons _ (.cons _ (.cons_cons _ .slnil)))))))))) (q_ldAe (i := 0) (cs := cs) rfl (hM.len.trans hl) rfl Tryz.isAgg65 rfl) ?_
    refine ht (i := 4) rfl (by kernel_rfl) rfl rfl rfl (fun w hw => hw.back (Gh.refl _) h01 (.cons_cons _ (.cons _ (.cons _ (.cons _ (.cons _ (.cons_cons _ (.cons_cons _ (.cons _ (.cons_cons _ .slnil)))))))))) (q_ldla (i := 2) (vs := [.int .i64 z1.1.1, .int .i64 z1.1.2.1, .int .i64 z1.1.2.2]) rfl rfl Tryz.isAgg58 Tryz.sizeOf58 rfl rfl) ?_
    refine ht (i := 5) rfl (by kernel_rfl) rfl rfl rfl (fun w hw => hw.back (Gh.refl _) h01 (.cons_cons _ (.cons _ (.cons _ (.cons _ (.cons _ (.cons_cons _ (.cons_cons _ (.cons _ (.cons_cons _ .slnil)))))))))) (q_ldl (i := 1) (v := .pointer (some ⟨gs, 0, none⟩)) rfl rfl Tryz.isAgg61 rfl rfl) ?_
    refine WH.lone (i := 6) (by kernel_rfl) rfl ?_
    refine e_mapUpdate (i := 2) (x := z1.1) (v := .pointer (some ⟨gs, 0, none⟩)) (a := gs) rfl rfl rfl Tryz.underlying65 rfl rfl (by kernel_rfl) rfl ho2 rfl ⟨by rw [of_decide_eq_true hk1]; exact len_r hpath.le, i64b_of hk2, i64b_of hk3⟩ ?_
    intro rowM' hM'
    refine WR.nil ?_
    refine WH.next (fun w hw => hw.back (Gh.refl _) h01 (.cons_cons _ (.cons _ (.cons _ (.cons _ (.cons _ (.cons_cons _ (.cons_cons _ (.cons _ (.cons_cons _ .slnil)))))))))) ?_
    refine WH.done (by kernel_rfl) ?_
    change WC _ _ _ _ _ _
    have hob1 : OTree.ob (et.1, (z1.1, gs) :: et.2) Γ gt_ ([[(gt_, .cells (cs ++ [Value.map (some sm)]).toArray et.1 (0, 0))], rowL, rowM', B] : List Rowb).flatten t := by
      refine ⟨cs, rowL, sm, rowM' ++ B, by simp only [List.flatten_cons, List.flatten_nil, List.append_nil, List.append_assoc], hM, hl, ?_, trivial⟩
      rw [hB]; exact Sums.lend ho1 hM' hon hS.ok
    obtain ⟨rowt1, hr1⟩ : ∃ rw : Rowb, rw = ([[(gt_, .cells (cs ++ [Value.map (some sm)]).toArray et.1 (0, 0))], rowL, rowM', B] : List Rowb).flatten := ⟨_, rfl⟩
    rw [← hr1] at hob1
    intro w hw; have hw := hw.fold (is := [0, 0, 0, 0]) (row := rowt1) rfl hr1
    refine WC.here (C := CC F Γ [rowt1, [(gs, .cells #[.int .u32 0, .int .i32 0, .int .u32 0, .int .u64 0] 81 (0, 0))], [(b7, .cells #[.pointer (some ⟨gs, 0, none⟩)] 61 (0, 0))], [(g5, .cells #[.int .i64 z1.1.1, .int .i64 z1.1.2.1, .int .i64 z1.1.2.2] 58 (0, 0))], [(b3, .cells #[.slice A path.length c] 23 (0, 0))], [(b2, .cells #[.pointer (some ⟨gt_, 0, none⟩)] 25 (0, 0))]]) ?_ hw; clear hw
    have hlen1 : ∀ p ∈ (et.1, (z1.1, gs) :: et.2).2, p.1.1 ≤ (path.length : Int) := fun p hp => by
      rcases List.mem_cons.1 hp with h9 | h9
      · rw [h9, of_decide_eq_true hk1]; exact Int.le_refl _
      · exact Int.le_of_lt (hlen p h9)
    refine WC.rs ?_
    refine va rfl rfl rfl (q_ldl (i := 2) (v := .pointer (some ⟨gs, 0, none⟩)) rfl rfl Tryz.isAgg61 rfl rfl) ?_
    refine va rfl rfl rfl (q_nil (A := some ⟨gs, 0, none⟩) rfl rfl rfl) ?_
    refine va rfl rfl rfl (q_fl 0 fld_81_0 rfl rfl rfl) ?_
    refine va rfl rfl rfl (q_mkfn (v := .func (.func 24) #[] #[.pointer (some ⟨b2, 0, none⟩), .pointer (some ⟨b3, 0, none⟩), .pointer (some ⟨b7, 0, none⟩)]) rfl (by kernel_rfl)) ?_
    refine e_call (is := [5, 4, 2, 0, 0]) rfl rfl (call_run (args := #[.pointer (some ⟨gs, 0, none⟩), .func (.func 24) #[] #[.pointer (some ⟨b2, 0, none⟩), .pointer (some ⟨b3, 0, none⟩), .pointer (some ⟨b7, 0, none⟩)]]) Tryz.call23 rfl rfl (by kernel_rfl)) rfl (fun w hp => t_once hH hob1 hpath hc hlen1 hp hz) ?_
    rintro Γ1 U1 v1 hl1 ⟨rowt2, rfl, rfl, hob2, hu2, -⟩
    change WR _ _ _ (CC F Γ1 [[(b2, .cells #[.pointer (some ⟨gt_, 0, none⟩)] 25 (0, 0))], [(b3, .cells #[.slice A path.length c] 23 (0, 0))], [(b7, .cells #[.pointer (some ⟨gs, 0, none⟩)] 61 (0, 0))], rowt2, [(gs, .cells #[.int .u32 1, .int .i32 0, .int .u32 0, .int .u64 z.2] 81 (0, 0))], [(g5, .cells #[.int .i64 z1.1.1, .int .i64 z1.1.2.1, .int .i64 z1.1.2.2] 58 (0, 0))]]) _ _ (upd _ 35 (.tuple #[]))
    refine WR.nil ?_
    change WC _ _ _ _ _ _
    refine WC.rs ?_
    refine va rfl rfl rfl (q_ldl (i := 2) (v := .pointer (some ⟨gs, 0, none⟩)) rfl rfl Tryz.isAgg61 rfl rfl) ?_
    refine va rfl rfl rfl (q_nil (A := some ⟨gs, 0, none⟩) rfl rfl rfl) ?_
    refine va rfl rfl rfl (q_fl 3 fld_81_1 rfl rfl rfl) ?_
    refine va rfl rfl rfl (q_ldl (i := 4) (v := .int .u64 z.2) rfl rfl Tryz.isAgg28 rfl rfl) ?_
    refine va rfl rfl rfl (q_assign (v := .int .u64 z.2) rfl (by kernel_rfl)) ?_
    refine WR.nil ?_
    change WC _ _ _ _ _ _
    refine WC.ret ?_
    intro w hw
    have hw := hw.fold (is := [3, 3]) (row := rowt2 ++ [sumO 81 gs z.2]) rfl (by simp [pkU]; rfl)
    obtain rfl := Option.some.inj h
    subst hF
    exact end_e (is := [0]) (by kernel_rfl) hw rfl ⟨rowt2 ++ [sumO 81 gs z.2], rfl, rfl, OTree.back hob2 hu2, hu2, trivial⟩
theorem t_hashN (n : Nat) : HashC (m_hashN n) := by
  induction n with
  | zero => intro Γ w0 gt_ et rowt t ht_ A c path hpath hc hlen hp r h; exact absurd h (by simp [m_hashN])
  | succ n ih => exact t_hash_step ih

theorem t_HashC : HashC m_tree_Tree_Hash := by
  exact t_hashN 3

abbrev r_tree_Differ (r : List Int) (U : List Rowb) (Γ : Gh) (v : Value) : Prop := ∃ (A0 : Option Addr), ∃ (c0 : Nat), ∃ (row0 : Rowb), v = .slice A0 r.length c0 ∧ U = [row0] ∧ Own intT Γ 3 row0 A0 c0 r ∧ True
set_option maxRecDepth 100000 in
set_option maxHeartbeats 400000 in
theorem t_tree_Differ {Γ : Gh} {w0 : World} {Aa : Option Addr} {ca : Nat} {a : List Int} (ha : Sl u64T Γ Aa a) (hac : a.length ≤ ca) {Ab : Option Addr} {cb : Nat} {b : List Int} (hb : Sl u64T Γ Ab b) (hbc : b.length ≤ cb) (hp : Pre [] Γ w0) {r : List Int} (h : m_tree_Differ a b = some r) : Calls Tryz.prog 20 #[.slice Aa a.length ca, .slice Ab b.length cb] w0 (Outc Γ [] w0 (r_tree_Differ r)) := by
  refine calls_of (N := 31) (rs := [4]) (args := [.slice Aa a.length ca, .slice Ab b.length cb]) Tryz.func20 rfl Tryz.ntmps20 Tryz.results20 rfl ?_
  obtain ⟨F, hF⟩ : ∃ F : Fm, F = ⟨ids [], w0, Γ⟩ := ⟨_, rfl⟩
  refine WC.here (C := CC F Γ []) ?_ (hF ▸ hp.start)
  refine WC.rs ?_
  refine va rfl rfl rfl (q_assign (v := .slice none 0 0) rfl (by kernel_rfl)) ?_
  refine WR.nil ?_
  change WC _ _ _ _ _ _
  refine WC.rs ?_
  refine e_alloc Tryz.zeroValue99 rfl rfl rfl rfl ?_
  intro g1
  have ho2 : Own u64T Γ 99 [(g1, .cells #[.int .u64 0, .int .u64 0, .int .u64 0, .int .u64 0, .int .u64 0, .int .u64 0, .int .u64 0, .int .u64 0, .int .u64 0, .int .u64 0, .int .u64 0, .int .u64 0, .int .u64 0, .int .u64 0, .int .u64 0, .int .u64 0] 99 (0, 0))] (some ⟨g1, 0, none⟩) 16 (List.replicate 16 0) := own_zero (T := u64T) 16 [.int .u64 0] 0 rfl ⟨rfl, (show U64 0 by decide)⟩ (by decide)
  refine e_alloc Tryz.zeroValue99 rfl rfl rfl rfl ?_
  intro g3
  have ho4 : Own u64T Γ 99 [(g3, .cells #[.int .u64 0, .int .u64 0, .int .u64 0, .int .u64 0, .int .u64 0, .int .u64 0, .int .u64 0, .int .u64 0, .int .u64 0, .int .u64 0, .int .u64 0, .int .u64 0, .int .u64 0, .int .u64 0, .int .u64 0, .int .u64 0] 99 (0, 0))] (some ⟨g3, 0, none⟩) 16 (List.replicate 16 0) := own_zero (T := u64T) 16 [.int .u64 0] 0 rfl ⟨rfl, (show U64 0 by decide)⟩ (by decide)
  refine WR.nil ?_
  change WC _ _ _ _ _ _
  refine WC.rs ?_
  refine va rfl rfl rfl (q_slarr Tryz.underlying99 Tryz.sizeOf28 rfl rfl) ?_
  refine va rfl rfl rfl (q_move (v := .slice Aa a.length ca) rfl (by kernel_rfl)) ?_
  refine e_copy (T := u64T) (xs := (List.replicate 16 0)) (ys := a) (i := 1) Tryz.underlying32 (by kernel_rfl) rfl rfl rfl rfl rfl rfl rfl ho2 List.length_replicate (fun w hw => src_sl ha hw) ?_
  intro row5 ho6
  refine WR.nil ?_
  change WC _ _ _ _ _ _
  refine WC.rs ?_
  refine va rfl rfl rfl (q_slarr Tryz.underlying99 Tryz.sizeOf28 rfl rfl) ?_
  refine va rfl rfl rfl (q_move (v := .slice Ab b.length cb) rfl (by kernel_rfl)) ?_
  refine e_copy (T := u64T) (xs := (List.replicate 16 0)) (ys := b) (i := 0) Tryz.underlying32 (by kernel_rfl) rfl rfl rfl rfl rfl rfl rfl ho4 List.length_replicate (fun w hw => src_sl hb hw) ?_
  intro row7 ho8
  refine WR.nil ?_
  change WC _ _ _ _ _ _
  refine WC.rs ?_
  refine va rfl rfl rfl (q_assign (v := .slice none 0 0) rfl (by kernel_rfl)) ?_
  refine WR.nil ?_
  change WC _ _ _ _ _ _
  refine WC.seq ?_
  refine WC.rs ?_
  refine va rfl rfl rfl (q_move (v := .int .i64 0) rfl (by kernel_rfl)) ?_
  refine WR.nil ?_
  change WC _ _ _ _ _ _
  refine WC.block ?_
  refine WC.forU h (fun (i15 : Nat) (out_9 : List Int) σ w => ∃ (A10 : Option Addr), ∃ (c11 : Nat), ∃ (row12 : Rowb), slots σ [(5, .pointer (some ⟨g1, 0, none⟩)), (6, .pointer (some ⟨g3, 0, none⟩)), (7, .slice A10 out_9.length c11), (15, .int .i64 ((i15 : Nat) : Int))] ∧ CC F Γ [row12, row7, row5] w ∧ Own intT Γ 3 row12 A10 c11 out_9 ∧ True) ?_ ?_
  · skip
    intro w hw
    have hw := hw.pad
    exact ⟨none, 0, [], (sl_ (by kernel_rfl)), hw, (Own.nil intT _ 3), trivial⟩
  rintro f14 i15 out_9 σ w hi16 hlt17 hge18 ⟨A10, c11, row12, hsl, hw, ho13, -⟩
  refine Wpt.slots hsl ?_
  refine WC.here (C := CC F Γ [row12, row7, row5]) ?_ hw
  clear hw hsl
  refine WC.rs ?_
  refine va rfl rfl rfl (q_lss rfl rfl rfl) ?_
  refine WR.nil ?_
  change WC _ _ _ _ _ _
  refine WC.seq ?_
  refine WC.cond (b := (decide (((i15 : Nat) : Int) < 16))) (by kernel_rfl) (fun hb19 => ?_) (fun hb19 => ?_)
  · skip
    have hl20 := ilt hb19
    have h := hlt17 hl20
    refine WC.skip ?_
    change WC _ _ _ _ _ _
    refine WC.cut (fun σ w => ∃ (out_21 : List Int), ∃ (A22 : Option Addr), ∃ (c23 : Nat), ∃ (row24 : Rowb), m_tree_Differ_j5 f14 out_21 = some r ∧ slots σ [(5, .pointer (some ⟨g1, 0, none⟩)), (6, .pointer (some ⟨g3, 0, none⟩)), (7, .slice A22 out_21.length c23), (15, .int .i64 ((i15 : Nat) : Int))] ∧ CC F Γ [row24, row7, row5] w ∧ Own intT Γ 3 row24 A22 c23 out_21 ∧ True) ?_ ?_
    · skip
      refine WC.block ?_
      refine WC.rs ?_
      refine va rfl rfl rfl (q_move (v := .int .i64 ((i15 : Nat) : Int)) rfl (by kernel_rfl)) ?_
      refine va rfl rfl rfl (q_assign (v := .int .i64 ((i15 : Nat) : Int)) rfl (by kernel_rfl)) ?_
      refine WR.nil ?_
      change WC _ _ _ _ _ _
      refine WC.seq ?_
      refine WC.dr (by kernel_rfl) (by kernel_rfl) (fun w hw => hw.drawn _) ?_
      refine wa rfl rfl rfl (q_move (v := .int .i64 ((i15 : Nat) : Int)) rfl (by kernel_rfl)) ?_
      refine wa rfl rfl rfl (q_ixan (i := i15) Tryz.underlying99 Tryz.sizeOf28 rfl rfl rfl hl20) ?_
      refine wa rfl rfl rfl (q_ldo (c := 0) (v := .int .u64 (gt (List.take (List.replicate 16 0).length a ++ List.drop a.length (List.replicate 16 0)) i15)) (i := 2) rfl (ho6.u64T_at (ltq hl20 ((copy_len _ _).trans List.length_replicate).symm)).2 rfl Tryz.isAgg28 rfl rfl) ?_
      refine wa rfl rfl rfl (q_move (v := .int .i64 ((i15 : Nat) : Int)) rfl (by kernel_rfl)) ?_
      refine wa rfl rfl rfl (q_ixan (i := i15) Tryz.underlying99 Tryz.sizeOf28 rfl rfl rfl hl20) ?_
      refine wa rfl rfl rfl (q_ldo (c := 0) (v := .int .u64 (gt (List.take (List.replicate 16 0).length b ++ List.drop b.length (List.replicate 16 0)) i15)) (i := 1) rfl (ho8.u64T_at (ltq hl20 ((copy_len _ _).trans List.length_replicate).symm)).2 rfl Tryz.isAgg28 rfl rfl) ?_
      refine wa rfl rfl rfl (q_neq rfl rfl rfl) ?_
      refine WQ.nil ?_
      change WC _ _ _ _ _ _
      refine WC.cif h (by kernel_rfl) (fun hb26 h => ?_) (fun hb26 h => ?_)
      · skip
        refine WC.region ?_
        refine va rfl rfl rfl (q_move (v := .slice A10 out_9.length c11) rfl (by kernel_rfl)) ?_
        refine va rfl rfl rfl (q_move (v := .int .i64 ((i15 : Nat) : Int)) rfl (by kernel_rfl)) ?_
        refine e_buildSlice (cs := #[.int .i64 ((i15 : Nat) : Int)]) (e := 3) rfl rfl rfl rfl (fun w => by kernel_rfl) ?_
        intro g27
        obtain ⟨hk28, h⟩ := chk_some h
        refine e_append (T := intT) (xs := out_9) (ys := [((i15 : Nat) : Int)]) elem_23 (i := 1) rfl rfl rfl rfl rfl rfl rfl ho13 (of_decide_eq_true hk28) (fun w hw => src_one (T := intT) (y := ((i15 : Nat) : Int)) (i := 0) rfl (by exact ⟨rfl, (ctr_lit0 hl20 (by decide))⟩) hw) ?_
        intro row29 A30 c31 ho32
        refine va rfl rfl rfl (q_assign (v := .slice A30 (out_9 ++ [((i15 : Nat) : Int)]).length c31) rfl (by kernel_rfl)) ?_
        refine WR.nil ?_
        intro w hw
        exact ⟨(out_9 ++ [((i15 : Nat) : Int)]), A30, c31, row29, h, (sl_ (by kernel_rfl)), (hw.only (is := [1, 1, 1]) rfl), ho32, trivial⟩
      · skip
        refine WC.skip ?_
        intro w hw
        exact ⟨out_9, A10, c11, row12, h, (sl_ (by kernel_rfl)), hw, ho13, trivial⟩
    · skip
      rintro σ w ⟨out_21, A22, c23, row24, h, hsl, hw, ho25, -⟩
      refine Wpt.slots hsl ?_
      refine WC.here (C := CC F Γ [row24, row7, row5]) ?_ hw
      clear hw hsl
      refine WC.region ?_
      refine va rfl rfl rfl (q_add_r (r := ((i15 + 1 : Nat) : Int)) rfl rfl rfl (ctr_lit hl20 (by decide))) ?_
      refine va rfl rfl rfl (q_move (v := .int .i64 ((i15 + 1 : Nat) : Int)) rfl (by kernel_rfl)) ?_
      refine WR.nil ?_
      intro w hw
      exact ⟨hl20, out_21, h, A22, c23, row24, (sl_ (by kernel_rfl)), hw, ho25, trivial⟩
  · skip
    have h := hge18 (ige hb19)
    refine WC.exit ?_
    change WC _ _ _ _ _ _
    refine WC.rs ?_
    refine va rfl rfl rfl (q_move (v := .slice A10 out_9.length c11) rfl (by kernel_rfl)) ?_
    refine va rfl rfl rfl (q_assign (v := .slice A10 out_9.length c11) rfl (by kernel_rfl)) ?_
    refine WR.nil ?_
    change WC _ _ _ _ _ _
    refine WC.ret ?_
    intro w hw
    obtain rfl := Option.some.inj h
    subst hF
    exact end_e (is := [0]) (by kernel_rfl) hw rfl ⟨A10, c11, row12, rfl, rfl, ho13, trivial⟩
set_option maxRecDepth 100000 in
set_option maxHeartbeats 400000 in
theorem t_firthlaw11_awake {Γ : Gh} {w0 : World}  (hs : Sat Γ w0) {r : Bool} (h : m_firthlaw11_awake = some r) : Calls Tryz.prog 5 #[] w0 (fun e w' => e = .returned (.bool r) ∧ Fr no w0 w') := by
  refine calls_of (N := 66) (rs := [0]) (args := []) Tryz.func5 rfl Tryz.ntmps5 Tryz.results5 rfl ?_
  obtain ⟨F, hF⟩ : ∃ F : Fm, F = ⟨no, w0, Γ⟩ := ⟨_, rfl⟩
  refine WC.here (C := CC F Γ []) ?_ (hF ▸ Cur.start0 hs)
  refine WC.rs ?_
  refine va rfl rfl rfl (q_assign (v := .bool false) rfl (by kernel_rfl)) ?_
  refine WR.nil ?_
  change WC _ _ _ _ _ _
  refine WC.rs ?_
  obtain ⟨z1, hz2, h⟩ := bnd h
  refine e_call (is := []) rfl rfl (call_run Tryz.call17 rfl rfl (by kernel_rfl)) rfl (fun w hp => t_tree_New (Sl.nil recT _ none) (Nat.zero_le 0) hp hz2) ?_
  rintro Γ3 U5 v6 hl4 ⟨g7, row8, rfl, rfl, hr9, hr10, _⟩
  change WR _ _ _ (CC F Γ3 [row8]) _ _ (upd _ 6 (.tuple #[optp z1.1 g7, .int .i64 z1.2]))
  refine va rfl rfl rfl (q_move (v := .tuple #[optp z1.1 g7, .int .i64 z1.2]) rfl (by kernel_rfl)) ?_
  refine va rfl rfl rfl (q_extract (v := optp z1.1 g7) rfl rfl rfl) ?_
  refine va rfl rfl rfl (q_extract (v := .int .i64 z1.2) rfl rfl rfl) ?_
  refine va rfl rfl rfl (q_assign (v := optp z1.1 g7) rfl (by kernel_rfl)) ?_
  refine va rfl rfl rfl (q_assign (v := .int .i64 z1.2) rfl (by kernel_rfl)) ?_
  refine WR.nil ?_
  change WC _ _ _ _ _ _
  refine WC.seq ?_
  refine WC.rs ?_
  refine va rfl rfl rfl (q_move (v := optp z1.1 g7) rfl (by kernel_rfl)) ?_
  refine va rfl rfl rfl (q_opt_eql Tryz.underlying25 rfl rfl rfl) ?_
  refine va rfl rfl rfl (q_move (v := .bool (Option.isNone z1.1)) rfl (by kernel_rfl)) ?_
  refine vg0 rfl rfl rfl rfl rfl (fun hg11 => QV.qo (q_move (v := .int .i64 z1.2) rfl (by kernel_rfl))) ?_
  refine vg0 rfl rfl rfl rfl rfl (fun hg12 => QV.qo (q_neq rfl (gu hg12 rfl) rfl)) ?_
  refine va rfl rfl rfl (q_pick rfl rfl (pk_or' (g := (Option.isNone z1.1)) (y := (z1.2 != 0)))) ?_
  refine va rfl rfl rfl (q_move (v := .bool ((Option.isNone z1.1) || (z1.2 != 0))) rfl (by kernel_rfl)) ?_
  refine vg0 rfl rfl rfl rfl rfl (fun hg13 => QV.qo (q_move (v := optp z1.1 g7) rfl (by kernel_rfl))) ?_
  refine (Bool.eq_false_or_eq_true (!((Option.isNone z1.1) || (z1.2 != 0)))).elim (fun hb14 => ?_) (fun hb14 => ?_)
  · skip
    have h := bt hb14 h
    obtain ⟨z15, hz16, h⟩ := bnd h
    have ho17 := optob_some hr9 hz16
    refine WR.sat (c0 := true) (g := ((Option.isNone z1.1) || (z1.2 != 0))) rfl rfl rfl hb14 ?_
    obtain ⟨z18, hz19, h⟩ := bnd h
    refine e_call (is := [0]) rfl rfl (call_run Tryz.call7 rfl rfl (args2 (optp_some (gu hb14 rfl) hz16) rfl)) rfl (fun w hp => t_HashC ho17 (Sl.nil intT _ none) (Nat.zero_le 0) (fun p hp => nomatch hp) hp hz19) ?_
    rintro Γ20 U22 v23 hl21 ⟨row24, rfl, rfl, hr25, hr26, _⟩
    change WR _ _ _ (CC F Γ20 [row24]) _ _ (upd _ 17 (.int .u64 z18.2))
    refine WR.sat (c0 := true) (g := ((Option.isNone z1.1) || (z1.2 != 0))) rfl rfl rfl hb14 ?_
    refine va rfl rfl rfl (q_neq rfl rfl rfl) ?_
    refine va rfl rfl rfl (q_pick_f (v := .bool (z18.2 != 0)) rfl rfl (not_t hb14) (by kernel_rfl)) ?_
    refine va rfl rfl rfl (q_move (v := .bool (z18.2 != 0)) rfl (by kernel_rfl)) ?_
    refine vg0 rfl rfl rfl rfl rfl (fun hg27 => QV.qo (q_move (v := .pointer (some ⟨g7, 0, none⟩)) rfl (optp_some rfl hz16))) ?_
    refine (Bool.eq_false_or_eq_true (!(z18.2 != 0))).elim (fun hb28 => ?_) (fun hb28 => ?_)
    · skip
      have h := bt hb28 h
      refine WR.sat (c0 := true) (g := (z18.2 != 0)) rfl rfl rfl hb28 ?_
      obtain ⟨z29, hz30, h⟩ := bnd h
      refine e_call (is := [0]) rfl rfl (call_run Tryz.call10 rfl rfl (args2 (gu hb28 rfl) rfl)) rfl (fun w hp => t_tree_Tree_Kids t_HashC hr25 (Sl.nil intT _ none) (Nat.zero_le 0) (fun p hp => nomatch hp) hp hz30) ?_
      rintro Γ31 U33 v34 hl32 ⟨row35, A37, c38, row39, rfl, rfl, hr36, hr40, hz41, _⟩
      change WR _ _ _ (CC F Γ31 [row35, row39]) _ _ (upd _ 22 (.slice A37 z29.2.length c38))
      refine WR.sat (c0 := true) (g := (z18.2 != 0)) rfl rfl rfl hb28 ?_
      refine va rfl rfl rfl (q_len_slice rfl Tryz.underlying32 rfl) ?_
      refine WR.sat (c0 := true) (g := (z18.2 != 0)) rfl rfl rfl hb28 ?_
      refine va rfl rfl rfl (q_neq rfl rfl rfl) ?_
      refine va rfl rfl rfl (q_pick_f (v := .bool (((z29.2.length : Nat) : Int) != 16)) rfl rfl (not_t hb28) (by kernel_rfl)) ?_
      refine WR.nil ?_
      change WC _ _ _ _ _ _
      refine WC.cif h (by kernel_rfl) (fun hb42 h => ?_) (fun hb42 h => ?_)
      · skip
        refine WC.rs ?_
        refine va rfl rfl rfl (q_assign (v := .bool false) rfl (by kernel_rfl)) ?_
        refine WR.nil ?_
        change WC _ _ _ _ _ _
        refine WC.ret ?_
        intro w hw
        obtain rfl := Option.some.inj h
        subst hF
        exact ⟨by kernel_rfl, hw.fr⟩
      · skip
        refine WC.skip ?_
        change WC _ _ _ _ _ _
        refine WC.seq ?_
        refine WC.rs ?_
        refine va rfl rfl rfl (q_move (v := .pointer (some ⟨g7, 0, none⟩)) rfl (optp_some rfl hz16)) ?_
        refine va rfl rfl rfl (q_build' (v := .agg #[.int .i64 1, .int .i64 1]) rfl (bargs2 rfl rfl) (fun w => by kernel_rfl)) ?_
        refine va rfl rfl rfl (q_build' (v := .agg #[.int .i64 1, .int .i64 1, .slice none 0 0, .bool false, .string ByteArray.empty]) rfl (bargs1 rfl) (fun w => by kernel_rfl)) ?_
        refine e_buildSlice (cs := #[.int .i64 1, .int .i64 1, .slice none 0 0, .bool false, .string ByteArray.empty]) (e := 51) rfl rfl rfl rfl (fun w => by kernel_rfl) ?_
        intro g43
        refine va rfl rfl rfl (q_build' (v := .agg #[.string (⟨#[107]⟩ : ByteArray), .slice (some ⟨g43, 0, none⟩) 1 1]) rfl (bargs2 rfl rfl) (fun w => by kernel_rfl)) ?_
        have ho44 : Own verT Γ31 51 [(g43, .cells #[.int .i64 1, .int .i64 1, .slice none 0 0, .bool false, .string ByteArray.empty] 51 (0, 0))] (some ⟨g43, 0, none⟩) 1 [(⟨(⟨1, 1⟩ : Dot), [], false, ByteArray.empty⟩ : Ver)] := Own.of_blockL (T := verT) (ys := [(⟨(⟨1, 1⟩ : Dot), [], false, ByteArray.empty⟩ : Ver)]) [[.int .i64 1, .int .i64 1, .slice none 0 0, .bool false, .string ByteArray.empty]] rfl (show 1 ≤ lim by decide) (show Ty.rd verT Γ31 [.int .i64 1, .int .i64 1, .slice none 0 0, .bool false, .string ByteArray.empty] (⟨(⟨1, 1⟩ : Dot), [], false, ByteArray.empty⟩ : Ver) ∧ True from ⟨⟨none, 0, rfl, ⟨(show I64 1 by decide), (show I64 1 by decide), ⟨Nat.zero_le _, Sl.nil _ _ _⟩, (show (ByteArray.empty : ByteArray).size ≤ lim by decide)⟩⟩, trivial⟩)
        have hc49 := ho44.capz
        intro w hw; obtain ⟨Γ45, hw, hl46, hr47⟩ := hw.seal (i := 0) rfl; have hs48 := ho44.sl hl46 hr47
        refine WR.here (C := CC F Γ45 [[], row35, row39]) ?_ hw
        clear hw
        obtain ⟨z50, hz51, h⟩ := bnd h
        refine e_call (is := [1]) rfl rfl (call_run Tryz.call19 rfl rfl (by kernel_rfl)) rfl (fun w hp => t_tree_Tree_Set (hr36.mono hl46) (⟨(⟨#[107]⟩ : ByteArray), [(⟨(⟨1, 1⟩ : Dot), [], false, ByteArray.empty⟩ : Ver)]⟩ : Rec) ⟨(show (⟨#[107]⟩ : ByteArray).size ≤ lim by decide), ⟨hc49, hs48⟩⟩ hp hz51) ?_
        rintro Γ52 U54 v55 hl53 ⟨row56, rfl, rfl, hr57, hr58, _⟩
        change WR _ _ _ (CC F Γ52 [row56, [], row39]) _ _ (upd _ 31 (.int .i64 z50.2))
        refine va rfl rfl rfl (q_neq rfl rfl rfl) ?_
        refine WR.nil ?_
        change WC _ _ _ _ _ _
        refine WC.cif h (by kernel_rfl) (fun hb59 h => ?_) (fun hb59 h => ?_)
        · skip
          refine WC.rs ?_
          refine va rfl rfl rfl (q_assign (v := .bool false) rfl (by kernel_rfl)) ?_
          refine WR.nil ?_
          change WC _ _ _ _ _ _
          refine WC.ret ?_
          intro w hw
          obtain rfl := Option.some.inj h
          subst hF
          exact ⟨by kernel_rfl, hw.fr⟩
        · skip
          refine WC.skip ?_
          change WC _ _ _ _ _ _
          refine WC.rs ?_
          refine va rfl rfl rfl (q_move (v := .pointer (some ⟨g7, 0, none⟩)) rfl (optp_some rfl hz16)) ?_
          obtain ⟨z60, hz61, h⟩ := bnd h
          refine e_call (is := [0]) rfl rfl (call_run Tryz.call10 rfl rfl (by kernel_rfl)) rfl (fun w hp => t_tree_Tree_Kids t_HashC hr57 (Sl.nil intT _ none) (Nat.zero_le 0) (fun p hp => nomatch hp) hp hz61) ?_
          rintro Γ62 U64 v65 hl63 ⟨row66, A68, c69, row70, rfl, rfl, hr67, hr71, hz72, _⟩
          change WR _ _ _ (CC F Γ62 [row66, row70, [], row39]) _ _ (upd _ 34 (.slice A68 z60.2.length c69))
          have hc77 := hr71.capz
          intro w hw; obtain ⟨Γ73, hw, hl74, hr75⟩ := hw.seal (i := 1) rfl; have hs76 := hr71.sl hl74 hr75
          refine WR.here (C := CC F Γ73 [row66, [], [], row39]) ?_ hw
          clear hw
          obtain ⟨z78, hz79, h⟩ := bnd h
          refine e_call (is := []) rfl rfl (call_run Tryz.call20 rfl rfl (by kernel_rfl)) rfl (fun w hp => t_tree_Differ hs76 hc77 (Sl.nil u64T _ none) (Nat.zero_le 0) hp hz79) ?_
          rintro Γ80 U82 v83 hl81 ⟨A84, c85, row86, rfl, rfl, hr87, _⟩
          change WR _ _ _ (CC F Γ80 [row86, row66, [], [], row39]) _ _ (upd _ 35 (.slice A84 z78.length c85))
          refine va rfl rfl rfl (q_assign (v := .slice A84 z78.length c85) rfl (by kernel_rfl)) ?_
          refine WR.nil ?_
          change WC _ _ _ _ _ _
          refine WC.rs ?_
          obtain ⟨z88, hz89, h⟩ := bnd h
          refine e_call (is := []) rfl rfl (call_run Tryz.call21 rfl rfl (by kernel_rfl)) rfl (fun w hp => t_tree_Place (⟨#[107]⟩ : ByteArray) (show (⟨#[107]⟩ : ByteArray).size ≤ lim by decide) hp hz89) ?_
          rintro Γ90 U92 v93 hl91 ⟨A94, c95, row96, rfl, rfl, hr97, _⟩
          change WR _ _ _ (CC F Γ90 [row96, row86, row66, [], [], row39]) _ _ (upd _ 36 (.slice A94 z88.length c95))
          refine va rfl rfl rfl (q_assign (v := .slice A94 z88.length c95) rfl (by kernel_rfl)) ?_
          refine WR.nil ?_
          change WC _ _ _ _ _ _
          refine WC.seq ?_
          have hc102 := hr97.capz
          intro w hw; obtain ⟨Γ98, hw, hl99, hr100⟩ := hw.seal (i := 0) rfl; have hs101 := hr97.sl hl99 hr100
          refine WC.here (C := CC F Γ98 [[], row86, row66, [], [], row39]) ?_ hw
          clear hw
          intro w hw; have h0103 := hw.le
          refine WC.here (C := CC F Γ98 [[], row86, row66, [], [], row39]) ?_ hw; clear hw
          refine WC.held (CC F Γ98 [[], row86, [], [], row39]) (by kernel_rfl) (fun w hw => hw.drawn _) ?_
          change WH _ _ _ _ (CC F Γ98 [[], row86, row66, [], [], row39]) _ 30 #[false, false, false, false, false, false, false, false, false, false, false, false, false, false, false, false, false, false, false, false, false, false, false, false, false, false, false, false, false, false] _
          refine ht (i := 0) rfl (by kernel_rfl) rfl rfl rfl (fun w hw => hw.back (Gh.refl _) h0103 (.cons_cons _ (.cons_cons _ (.cons _ (.cons_cons _ (.cons_cons _ (.cons_cons _ .slnil))))))) (q_move (v := .slice A94 z88.length c95) rfl (by kernel_rfl)) ?_
          refine ht (i := 1) rfl (by kernel_rfl) rfl rfl rfl (fun w hw => hw.back (Gh.refl _) h0103 (.cons_cons _ (.cons_cons _ (.cons _ (.cons_cons _ (.cons_cons _ (.cons_cons _ .slnil))))))) (q_len_slice rfl Tryz.underlying23 rfl) ?_
          refine ht (i := 2) rfl (by kernel_rfl) rfl rfl rfl (fun w hw => hw.back (Gh.refl _) h0103 (.cons_cons _ (.cons_cons _ (.cons _ (.cons_cons _ (.cons_cons _ (.cons_cons _ .slnil))))))) (q_eql rfl rfl rfl) ?_
          refine ht (i := 3) rfl (by kernel_rfl) rfl rfl rfl (fun w hw => hw.back (Gh.refl _) h0103 (.cons_cons _ (.cons_cons _ (.cons _ (.cons_cons _ (.cons_cons _ (.cons_cons _ .slnil))))))) (q_move (v := .bool (((z88.length : Nat) : Int) == 2)) rfl (by kernel_rfl)) ?_
          refine hg1 (i := 4) rfl (by kernel_rfl) rfl rfl rfl rfl rfl (fun w hw => hw.back (Gh.refl _) h0103 (.cons_cons _ (.cons_cons _ (.cons _ (.cons_cons _ (.cons_cons _ (.cons_cons _ .slnil))))))) (fun hg104 => (q_move (v := .slice A84 z78.length c85) rfl (by kernel_rfl))) ?_
          refine hg1 (i := 5) rfl (by kernel_rfl) rfl rfl rfl rfl rfl (fun w hw => hw.back (Gh.refl _) h0103 (.cons_cons _ (.cons_cons _ (.cons _ (.cons_cons _ (.cons_cons _ (.cons_cons _ .slnil))))))) (fun hg105 => (q_len_slice rfl Tryz.underlying23 (gu hg105 rfl))) ?_
          refine hg1 (i := 6) rfl (by kernel_rfl) rfl rfl rfl rfl rfl (fun w hw => hw.back (Gh.refl _) h0103 (.cons_cons _ (.cons_cons _ (.cons _ (.cons_cons _ (.cons_cons _ (.cons_cons _ .slnil))))))) (fun hg106 => (q_eql rfl (gu hg106 rfl) rfl)) ?_
          refine ht (i := 7) rfl (by kernel_rfl) rfl rfl rfl (fun w hw => hw.back (Gh.refl _) h0103 (.cons_cons _ (.cons_cons _ (.cons _ (.cons_cons _ (.cons_cons _ (.cons_cons _ .slnil))))))) (q_pick rfl rfl (pk_and' (g := (((z88.length : Nat) : Int) == 2)) (y := (((z78.length : Nat) : Int) == 1)))) ?_
          refine ht (i := 8) rfl (by kernel_rfl) rfl rfl rfl (fun w hw => hw.back (Gh.refl _) h0103 (.cons_cons _ (.cons_cons _ (.cons _ (.cons_cons _ (.cons_cons _ (.cons_cons _ .slnil))))))) (q_move (v := .bool ((((z88.length : Nat) : Int) == 2) && (((z78.length : Nat) : Int) == 1))) rfl (by kernel_rfl)) ?_
          refine hg1 (i := 9) rfl (by kernel_rfl) rfl rfl rfl rfl rfl (fun w hw => hw.back (Gh.refl _) h0103 (.cons_cons _ (.cons_cons _ (.cons _ (.cons_cons _ (.cons_cons _ (.cons_cons _ .slnil))))))) (fun hg107 => (q_move (v := .slice A84 z78.length c85) rfl (by kernel_rfl))) ?_
          obtain ⟨hk109, h⟩ := chk_some h
          refine hg1 (i := 10) rfl (by kernel_rfl) rfl rfl rfl rfl rfl (fun w hw => hw.back (Gh.refl _) h0103 (.cons_cons _ (.cons_cons _ (.cons _ (.cons_cons _ (.cons_cons _ (.cons_cons _ .slnil))))))) (fun hg108 => (q_ixn (i := 0) Tryz.underlying23 Tryz.sizeOf3 rfl (gu hg108 rfl) rfl (of_decide_eq_true (imp_of hk109 hg108)) ((hr87.mono (hl91.trans hl99)).some_ (of_decide_eq_true (imp_of hk109 hg108))))) ?_
          refine hg1 (i := 11) rfl (by kernel_rfl) rfl rfl rfl rfl rfl (fun w hw => hw.back (Gh.refl _) h0103 (.cons_cons _ (.cons_cons _ (.cons _ (.cons_cons _ (.cons_cons _ (.cons_cons _ .slnil))))))) (fun hg110 => (q_ldo (c := 0) (v := .int .i64 (gt z78 0)) (i := 1) rfl ((hr87.mono (hl91.trans hl99)).intT_at (of_decide_eq_true (imp_of hk109 hg110))).2 rfl Tryz.isAgg3 (gu hg110 rfl) rfl)) ?_
          refine hg1 (i := 12) rfl (by kernel_rfl) rfl rfl rfl rfl rfl (fun w hw => hw.back (Gh.refl _) h0103 (.cons_cons _ (.cons_cons _ (.cons _ (.cons_cons _ (.cons_cons _ (.cons_cons _ .slnil))))))) (fun hg111 => (q_move (v := .slice A94 z88.length c95) rfl (by kernel_rfl))) ?_
          obtain ⟨hk113, h⟩ := chk_some h
          refine hg1 (i := 13) rfl (by kernel_rfl) rfl rfl rfl rfl rfl (fun w hw => hw.back (Gh.refl _) h0103 (.cons_cons _ (.cons_cons _ (.cons _ (.cons_cons _ (.cons_cons _ (.cons_cons _ .slnil))))))) (fun hg112 => (q_ixn (i := 0) Tryz.underlying23 Tryz.sizeOf3 rfl (gu hg112 rfl) rfl (of_decide_eq_true (imp_of hk113 hg112)) (hs101.some_ (of_decide_eq_true (imp_of hk113 hg112))))) ?_
          refine hg1 (i := 14) rfl (by kernel_rfl) rfl rfl rfl rfl rfl (fun w hw => hw.back (Gh.refl _) h0103 (.cons_cons _ (.cons_cons _ (.cons _ (.cons_cons _ (.cons_cons _ (.cons_cons _ .slnil))))))) (fun hg114 => (q_ld (c := 0) (v := .int .i64 (gt z88 0)) (hs101.intT_at (of_decide_eq_true (imp_of hk113 hg114))).2 rfl Tryz.isAgg3 (gu hg114 rfl) rfl)) ?_
          refine hg1 (i := 15) rfl (by kernel_rfl) rfl rfl rfl rfl rfl (fun w hw => hw.back (Gh.refl _) h0103 (.cons_cons _ (.cons_cons _ (.cons _ (.cons_cons _ (.cons_cons _ (.cons_cons _ .slnil))))))) (fun hg115 => (q_eql rfl (gu hg115 rfl) (gu hg115 rfl))) ?_
          refine ht (i := 16) rfl (by kernel_rfl) rfl rfl rfl (fun w hw => hw.back (Gh.refl _) h0103 (.cons_cons _ (.cons_cons _ (.cons _ (.cons_cons _ (.cons_cons _ (.cons_cons _ .slnil))))))) (q_pick rfl rfl (pk_and' (g := ((((z88.length : Nat) : Int) == 2) && (((z78.length : Nat) : Int) == 1))) (y := ((gt z78 0) == (gt z88 0))))) ?_
          refine ht (i := 17) rfl (by kernel_rfl) rfl rfl rfl (fun w hw => hw.back (Gh.refl _) h0103 (.cons_cons _ (.cons_cons _ (.cons _ (.cons_cons _ (.cons_cons _ (.cons_cons _ .slnil))))))) (q_move (v := .bool (((((z88.length : Nat) : Int) == 2) && (((z78.length : Nat) : Int) == 1)) && ((gt z78 0) == (gt z88 0)))) rfl (by kernel_rfl)) ?_
          refine hg1 (i := 18) rfl (by kernel_rfl) rfl rfl rfl rfl rfl (fun w hw => hw.back (Gh.refl _) h0103 (.cons_cons _ (.cons_cons _ (.cons _ (.cons_cons _ (.cons_cons _ (.cons_cons _ .slnil))))))) (fun hg116 => (q_move (v := .pointer (some ⟨g7, 0, none⟩)) rfl (optp_some rfl hz16))) ?_
          refine (Bool.eq_false_or_eq_true (((((z88.length : Nat) : Int) == 2) && (((z78.length : Nat) : Int) == 1)) && ((gt z78 0) == (gt z88 0)))).elim (fun hb117 => ?_) (fun hb117 => ?_)
          · skip
            have h := bt hb117 h
            refine WH.lone (i := 19) (by kernel_rfl) rfl ?_
            refine WR.sat (c0 := true) (g := (((((z88.length : Nat) : Int) == 2) && (((z78.length : Nat) : Int) == 1)) && ((gt z78 0) == (gt z88 0)))) rfl rfl rfl hb117 ?_
            obtain ⟨z118, hz119, h⟩ := bnd h
            refine e_call (is := [2]) rfl rfl (call_run Tryz.call7 rfl rfl (args2 (gu hb117 rfl) rfl)) rfl (fun w hp => t_HashC (hr67.mono (((hl74.trans hl81).trans hl91).trans hl99)) (Sl.nil intT _ none) (Nat.zero_le 0) (fun p hp => nomatch hp) hp hz119) ?_
            rintro Γ120 U122 v123 hl121 ⟨row124, rfl, rfl, hr125, hr126, _⟩
            change WR _ _ _ (CC F Γ120 [row124, [], row86, [], [], row39]) _ _ (upd _ 56 (.int .u64 z118.2))
            refine WR.nil ?_
            refine WH.next (fun w hw => hw.back hl121 h0103 (.cons _ (.cons_cons _ (.cons_cons _ (.cons_cons _ (.cons_cons _ (.cons_cons _ .slnil))))))) ?_
            refine hg1 (i := 20) rfl (by kernel_rfl) rfl rfl rfl rfl rfl (fun w hw => hw.back hl121 h0103 (.cons _ (.cons_cons _ (.cons_cons _ (.cons_cons _ (.cons_cons _ (.cons_cons _ .slnil))))))) (fun hg127 => (q_neq rfl rfl rfl)) ?_
            refine ht (i := 21) rfl (by kernel_rfl) rfl rfl rfl (fun w hw => hw.back hl121 h0103 (.cons _ (.cons_cons _ (.cons_cons _ (.cons_cons _ (.cons_cons _ (.cons_cons _ .slnil))))))) (q_pick_t (v := .bool (z118.2 != 0)) rfl rfl hb117 (gu hb117 rfl)) ?_
            refine ht (i := 22) rfl (by kernel_rfl) rfl rfl rfl (fun w hw => hw.back hl121 h0103 (.cons _ (.cons_cons _ (.cons_cons _ (.cons_cons _ (.cons_cons _ (.cons_cons _ .slnil))))))) (q_move (v := .bool (z118.2 != 0)) rfl (by kernel_rfl)) ?_
            refine hg1 (i := 23) rfl (by kernel_rfl) rfl rfl rfl rfl rfl (fun w hw => hw.back hl121 h0103 (.cons _ (.cons_cons _ (.cons_cons _ (.cons_cons _ (.cons_cons _ (.cons_cons _ .slnil))))))) (fun hg128 => (q_move (v := .pointer (some ⟨g7, 0, none⟩)) rfl (optp_some rfl hz16))) ?_
            refine hg1 (i := 24) rfl (by kernel_rfl) rfl rfl rfl rfl rfl (fun w hw => hw.back hl121 h0103 (.cons _ (.cons_cons _ (.cons_cons _ (.cons_cons _ (.cons_cons _ (.cons_cons _ .slnil))))))) (fun hg129 => (q_move (v := .slice A94 z88.length c95) rfl (by kernel_rfl))) ?_
            refine (Bool.eq_false_or_eq_true (z118.2 != 0)).elim (fun hb130 => ?_) (fun hb130 => ?_)
            · skip
              have h := bt hb130 h
              refine WH.lone (i := 25) (by kernel_rfl) rfl ?_
              refine WR.sat (c0 := true) (g := (z118.2 != 0)) rfl rfl rfl hb130 ?_
              obtain ⟨z131, hz132, h⟩ := bnd h
              refine e_call (is := [0]) rfl rfl (call_run Tryz.call13 rfl rfl (args2 (gu hb130 rfl) (gu hb130 rfl))) rfl (fun w hp => t_tree_Tree_Recs hr125 (hs101.mono hl121) hc102 hp hz132) ?_
              rintro Γ133 U135 v136 hl134 ⟨A137, c138, row139, rfl, rfl, hr140, _⟩
              change WR _ _ _ (CC F Γ133 [row124, row139, [], row86, [], [], row39]) _ _ (upd _ 62 (.slice A137 z131.length c138))
              refine WR.nil ?_
              refine WH.next (fun w hw => hw.back (hl121.trans hl134) h0103 (.cons _ (.cons _ (.cons_cons _ (.cons_cons _ (.cons_cons _ (.cons_cons _ (.cons_cons _ .slnil)))))))) ?_
              refine WH.lone (i := 26) (by kernel_rfl) rfl ?_
              refine vg1 rfl rfl rfl rfl rfl (fun hg142 => QV.qo (q_len_slice rfl Tryz.underlying22 rfl)) ?_
              refine WR.nil ?_
              refine WH.next (fun w hw => hw.back (hl121.trans hl134) h0103 (.cons _ (.cons _ (.cons_cons _ (.cons_cons _ (.cons_cons _ (.cons_cons _ (.cons_cons _ .slnil)))))))) ?_
              refine hg1 (i := 27) rfl (by kernel_rfl) rfl rfl rfl rfl rfl (fun w hw => hw.back (hl121.trans hl134) h0103 (.cons _ (.cons _ (.cons_cons _ (.cons_cons _ (.cons_cons _ (.cons_cons _ (.cons_cons _ .slnil)))))))) (fun hg143 => (q_eql rfl (gu hg143 rfl) rfl)) ?_
              refine ht (i := 28) rfl (by kernel_rfl) rfl rfl rfl (fun w hw => hw.back (hl121.trans hl134) h0103 (.cons _ (.cons _ (.cons_cons _ (.cons_cons _ (.cons_cons _ (.cons_cons _ (.cons_cons _ .slnil)))))))) (q_pick_t (v := .bool (((z131.length : Nat) : Int) == 1)) rfl rfl hb130 (gu hb130 rfl)) ?_
              refine ht (i := 29) rfl (by kernel_rfl) rfl rfl rfl (fun w hw => hw.back (hl121.trans hl134) h0103 (.cons _ (.cons _ (.cons_cons _ (.cons_cons _ (.cons_cons _ (.cons_cons _ (.cons_cons _ .slnil)))))))) (q_assign (v := .bool (((z131.length : Nat) : Int) == 1)) rfl (by kernel_rfl)) ?_
              refine WH.done (by kernel_rfl) ?_
              change WC _ _ _ _ _ _
              refine WC.ret ?_
              intro w hw
              obtain rfl := Option.some.inj h
              subst hF
              exact ⟨by kernel_rfl, hw.fr⟩
            · skip
              have h := bf hb130 h
              refine hg1 (g := (z118.2 != 0)) (i := 25) (v := undef) rfl (by kernel_rfl) rfl rfl rfl rfl rfl (fun w hw => hw.back hl121 h0103 (.cons _ (.cons_cons _ (.cons_cons _ (.cons_cons _ (.cons_cons _ (.cons_cons _ .slnil))))))) (no_tf hb130) ?_
              refine WH.env (v := undef) (gv_false hb130) ?_
              refine hg1 (g := (z118.2 != 0)) (i := 26) (v := undef) rfl (by kernel_rfl) rfl rfl rfl rfl rfl (fun w hw => hw.back hl121 h0103 (.cons _ (.cons_cons _ (.cons_cons _ (.cons_cons _ (.cons_cons _ (.cons_cons _ .slnil))))))) (no_tf hb130) ?_
              refine WH.env (v := undef) (gv_false hb130) ?_
              refine hg1 (g := (z118.2 != 0)) (i := 27) (v := undef) rfl (by kernel_rfl) rfl rfl rfl rfl rfl (fun w hw => hw.back hl121 h0103 (.cons _ (.cons_cons _ (.cons_cons _ (.cons_cons _ (.cons_cons _ (.cons_cons _ .slnil))))))) (no_tf hb130) ?_
              refine WH.env (v := undef) (gv_false hb130) ?_
              refine ht (i := 28) rfl (by kernel_rfl) rfl rfl rfl (fun w hw => hw.back hl121 h0103 (.cons _ (.cons_cons _ (.cons_cons _ (.cons_cons _ (.cons_cons _ (.cons_cons _ .slnil))))))) (q_pick_f (v := .bool false) rfl rfl hb130 (by kernel_rfl)) ?_
              refine ht (i := 29) rfl (by kernel_rfl) rfl rfl rfl (fun w hw => hw.back hl121 h0103 (.cons _ (.cons_cons _ (.cons_cons _ (.cons_cons _ (.cons_cons _ (.cons_cons _ .slnil))))))) (q_assign (v := .bool false) rfl (by kernel_rfl)) ?_
              refine WH.done (by kernel_rfl) ?_
              change WC _ _ _ _ _ _
              refine WC.ret ?_
              intro w hw
              obtain rfl := Option.some.inj h
              subst hF
              exact ⟨by kernel_rfl, hw.fr⟩
          · skip
            have h := bf hb117 h
            refine hg1 (g := (((((z88.length : Nat) : Int) == 2) && (((z78.length : Nat) : Int) == 1)) && ((gt z78 0) == (gt z88 0)))) (i := 19) (v := undef) rfl (by kernel_rfl) rfl rfl rfl rfl rfl (fun w hw => hw.back (Gh.refl _) h0103 (.cons_cons _ (.cons_cons _ (.cons _ (.cons_cons _ (.cons_cons _ (.cons_cons _ .slnil))))))) (no_tf hb117) ?_
            refine WH.env (v := undef) (gv_false hb117) ?_
            refine hg1 (g := (((((z88.length : Nat) : Int) == 2) && (((z78.length : Nat) : Int) == 1)) && ((gt z78 0) == (gt z88 0)))) (i := 20) (v := undef) rfl (by kernel_rfl) rfl rfl rfl rfl rfl (fun w hw => hw.back (Gh.refl _) h0103 (.cons_cons _ (.cons_cons _ (.cons _ (.cons_cons _ (.cons_cons _ (.cons_cons _ .slnil))))))) (no_tf hb117) ?_
            refine WH.env (v := undef) (gv_false hb117) ?_
            refine ht (i := 21) rfl (by kernel_rfl) rfl rfl rfl (fun w hw => hw.back (Gh.refl _) h0103 (.cons_cons _ (.cons_cons _ (.cons _ (.cons_cons _ (.cons_cons _ (.cons_cons _ .slnil))))))) (q_pick_f (v := .bool false) rfl rfl hb117 (by kernel_rfl)) ?_
            refine ht (i := 22) rfl (by kernel_rfl) rfl rfl rfl (fun w hw => hw.back (Gh.refl _) h0103 (.cons_cons _ (.cons_cons _ (.cons _ (.cons_cons _ (.cons_cons _ (.cons_cons _ .slnil))))))) (q_move (v := .bool false) rfl (by kernel_rfl)) ?_
            refine hg1 (g := false) (i := 23) (v := undef) rfl (by kernel_rfl) rfl rfl rfl rfl rfl (fun w hw => hw.back (Gh.refl _) h0103 (.cons_cons _ (.cons_cons _ (.cons _ (.cons_cons _ (.cons_cons _ (.cons_cons _ .slnil))))))) (no_tf rfl) ?_
            refine WH.env (v := undef) (gv_false rfl) ?_
            refine hg1 (g := false) (i := 24) (v := undef) rfl (by kernel_rfl) rfl rfl rfl rfl rfl (fun w hw => hw.back (Gh.refl _) h0103 (.cons_cons _ (.cons_cons _ (.cons _ (.cons_cons _ (.cons_cons _ (.cons_cons _ .slnil))))))) (no_tf rfl) ?_
            refine WH.env (v := undef) (gv_false rfl) ?_
            refine hg1 (g := false) (i := 25) (v := undef) rfl (by kernel_rfl) rfl rfl rfl rfl rfl (fun w hw => hw.back (Gh.refl _) h0103 (.cons_cons _ (.cons_cons _ (.cons _ (.cons_cons _ (.cons_cons _ (.cons_cons _ .slnil))))))) (no_tf rfl) ?_
            refine WH.env (v := undef) (gv_false rfl) ?_
            refine hg1 (g := false) (i := 26) (v := undef) rfl (by kernel_rfl) rfl rfl rfl rfl rfl (fun w hw => hw.back (Gh.refl _) h0103 (.cons_cons _ (.cons_cons _ (.cons _ (.cons_cons _ (.cons_cons _ (.cons_cons _ .slnil))))))) (no_tf rfl) ?_
            refine WH.env (v := undef) (gv_false rfl) ?_
            refine hg1 (g := false) (i := 27) (v := undef) rfl (by kernel_rfl) rfl rfl rfl rfl rfl (fun w hw => hw.back (Gh.refl _) h0103 (.cons_cons _ (.cons_cons _ (.cons _ (.cons_cons _ (.cons_cons _ (.cons_cons _ .slnil))))))) (no_tf rfl) ?_
            refine WH.env (v := undef) (gv_false rfl) ?_
            refine ht (i := 28) rfl (by kernel_rfl) rfl rfl rfl (fun w hw => hw.back (Gh.refl _) h0103 (.cons_cons _ (.cons_cons _ (.cons _ (.cons_cons _ (.cons_cons _ (.cons_cons _ .slnil))))))) (q_pickf (v := .bool false) rfl rfl rfl) ?_
            refine ht (i := 29) rfl (by kernel_rfl) rfl rfl rfl (fun w hw => hw.back (Gh.refl _) h0103 (.cons_cons _ (.cons_cons _ (.cons _ (.cons_cons _ (.cons_cons _ (.cons_cons _ .slnil))))))) (q_assign (v := .bool false) rfl (by kernel_rfl)) ?_
            refine WH.done (by kernel_rfl) ?_
            change WC _ _ _ _ _ _
            refine WC.ret ?_
            intro w hw
            obtain rfl := Option.some.inj h
            subst hF
            exact ⟨by kernel_rfl, hw.fr⟩
    · skip
      have h := bf hb28 h
      refine WR.unsat (c0 := true) (g := (z18.2 != 0)) rfl rfl rfl hb28 rfl ?_
      refine WR.unsat (c0 := true) (g := (z18.2 != 0)) rfl rfl rfl hb28 rfl ?_
      refine WR.unsat (c0 := true) (g := (z18.2 != 0)) rfl rfl rfl hb28 rfl ?_
      refine va rfl rfl rfl (q_pick_t (v := .bool true) rfl rfl (not_f hb28) (by kernel_rfl)) ?_
      refine WR.nil ?_
      change WC _ _ _ _ _ _
      refine WC.ctk (b := true) (by kernel_rfl) rfl ?_
      refine WC.rs ?_
      refine va rfl rfl rfl (q_assign (v := .bool false) rfl (by kernel_rfl)) ?_
      refine WR.nil ?_
      change WC _ _ _ _ _ _
      refine WC.ret ?_
      intro w hw
      obtain rfl := Option.some.inj h
      subst hF
      exact ⟨by kernel_rfl, hw.fr⟩
  · skip
    have h := bf hb14 h
    refine WR.unsat (c0 := true) (g := ((Option.isNone z1.1) || (z1.2 != 0))) rfl rfl rfl hb14 rfl ?_
    refine WR.unsat (c0 := true) (g := ((Option.isNone z1.1) || (z1.2 != 0))) rfl rfl rfl hb14 rfl ?_
    refine va rfl rfl rfl (q_pick_t (v := .bool true) rfl rfl (not_f hb14) (by kernel_rfl)) ?_
    refine va rfl rfl rfl (q_move (v := .bool true) rfl (by kernel_rfl)) ?_
    refine WR.unsat (c0 := true) (g := true) rfl rfl rfl (nott rfl) rfl ?_
    refine WR.unsat (c0 := true) (g := true) rfl rfl rfl (nott rfl) rfl ?_
    refine WR.unsat (c0 := true) (g := true) rfl rfl rfl (nott rfl) rfl ?_
    refine WR.unsat (c0 := true) (g := true) rfl rfl rfl (nott rfl) rfl ?_
    refine va rfl rfl rfl (q_pickt (v := .bool true) rfl rfl rfl) ?_
    refine WR.nil ?_
    change WC _ _ _ _ _ _
    refine WC.ctk (b := true) (by kernel_rfl) rfl ?_
    refine WC.rs ?_
    refine va rfl rfl rfl (q_assign (v := .bool false) rfl (by kernel_rfl)) ?_
    refine WR.nil ?_
    change WC _ _ _ _ _ _
    refine WC.ret ?_
    intro w hw
    obtain rfl := Option.some.inj h
    subst hF
    exact ⟨by kernel_rfl, hw.fr⟩
set_option maxRecDepth 100000 in
set_option maxHeartbeats 400000 in
theorem t_firthref03_Dot {Γ : Gh} {w0 : World} (d : Dot) (hd : Dot.fits Γ  d) (hs : Sat Γ w0) {r : Bool} (h : m_firthref03_Dot d = some r) : Calls Tryz.prog 68 #[.agg #[.int .i64 d.s, .int .i64 d.n]] w0 (fun e w' => e = .returned (.bool r) ∧ Fr no w0 w') := by
  refine calls_of (N := 21) (rs := [2]) (args := [.agg #[.int .i64 d.s, .int .i64 d.n]]) Tryz.func68 rfl Tryz.ntmps68 Tryz.results68 rfl ?_
  obtain ⟨F, hF⟩ : ∃ F : Fm, F = ⟨no, w0, Γ⟩ := ⟨_, rfl⟩
  refine WC.here (C := CC F Γ []) ?_ (hF ▸ Cur.start0 hs)
  refine WC.rs ?_
  refine e_box (v := .agg #[.int .i64 d.s, .int .i64 d.n]) rfl rfl rfl rfl (by kernel_rfl) ?_
  intro g1
  refine va rfl rfl rfl (q_assign (v := .bool false) rfl (by kernel_rfl)) ?_
  refine WR.nil ?_
  change WC _ _ _ _ _ _
  refine WC.rs ?_
  refine va rfl rfl rfl (q_fl 0 fld_48_0 rfl rfl rfl) ?_
  refine va rfl rfl rfl (q_ldl (i := 0) (v := .int .i64 d.s) rfl rfl Tryz.isAgg3 rfl rfl) ?_
  refine va rfl rfl rfl (q_geq rfl rfl rfl) ?_
  refine va rfl rfl rfl (q_move (v := .bool (decide (1 ≤ d.s))) rfl (by kernel_rfl)) ?_
  refine vg1 rfl rfl rfl rfl rfl (fun hg2 => QV.qo (q_fl 0 fld_48_0 rfl rfl rfl)) ?_
  refine vg1 rfl rfl rfl rfl rfl (fun hg3 => QV.qo (q_ldl (i := 0) (v := .int .i64 d.s) rfl rfl Tryz.isAgg3 (gu hg3 rfl) rfl)) ?_
  refine vg1 rfl rfl rfl rfl rfl (fun hg4 => QV.qo (q_leq rfl (gu hg4 rfl) rfl)) ?_
  refine va rfl rfl rfl (q_pick rfl rfl (pk_and' (g := (decide (1 ≤ d.s))) (y := (decide (d.s ≤ 16))))) ?_
  refine va rfl rfl rfl (q_move (v := .bool ((decide (1 ≤ d.s)) && (decide (d.s ≤ 16)))) rfl (by kernel_rfl)) ?_
  refine vg1 rfl rfl rfl rfl rfl (fun hg5 => QV.qo (q_fl 1 fld_48_1 rfl rfl rfl)) ?_
  refine vg1 rfl rfl rfl rfl rfl (fun hg6 => QV.qo (q_ldl (i := 0) (v := .int .i64 d.n) rfl rfl Tryz.isAgg2 (gu hg6 rfl) rfl)) ?_
  refine vg1 rfl rfl rfl rfl rfl (fun hg7 => QV.qo (q_geq rfl (gu hg7 rfl) rfl)) ?_
  refine va rfl rfl rfl (q_pick rfl rfl (pk_and' (g := ((decide (1 ≤ d.s)) && (decide (d.s ≤ 16)))) (y := (decide (1 ≤ d.n))))) ?_
  refine va rfl rfl rfl (q_move (v := .bool (((decide (1 ≤ d.s)) && (decide (d.s ≤ 16))) && (decide (1 ≤ d.n)))) rfl (by kernel_rfl)) ?_
  refine vg1 rfl rfl rfl rfl rfl (fun hg8 => QV.qo (q_fl 1 fld_48_1 rfl rfl rfl)) ?_
  refine vg1 rfl rfl rfl rfl rfl (fun hg9 => QV.qo (q_ldl (i := 0) (v := .int .i64 d.n) rfl rfl Tryz.isAgg2 (gu hg9 rfl) rfl)) ?_
  refine vg1 rfl rfl rfl rfl rfl (fun hg10 => QV.qo (q_leq rfl (gu hg10 rfl) rfl)) ?_
  refine va rfl rfl rfl (q_pick rfl rfl (pk_and' (g := (((decide (1 ≤ d.s)) && (decide (d.s ≤ 16))) && (decide (1 ≤ d.n)))) (y := (decide (d.n ≤ 4611686018427387904))))) ?_
  refine va rfl rfl rfl (q_assign (v := .bool ((((decide (1 ≤ d.s)) && (decide (d.s ≤ 16))) && (decide (1 ≤ d.n))) && (decide (d.n ≤ 4611686018427387904)))) rfl (by kernel_rfl)) ?_
  refine WR.nil ?_
  change WC _ _ _ _ _ _
  refine WC.ret ?_
  intro w hw
  obtain rfl := Option.some.inj h
  subst hF
  exact ⟨by kernel_rfl, hw.fr⟩
set_option maxRecDepth 100000 in
set_option maxHeartbeats 400000 in
theorem t_firthref03_Right {Γ : Gh} {w0 : World} {Al : Option Addr} {cl : Nat} {l : List Span} (hl : Sl spanT Γ Al l) (hlc : l.length ≤ cl) (hs : Sat Γ w0) {r : Bool} (h : m_firthref03_Right l = some r) : Calls Tryz.prog 69 #[.slice Al l.length cl] w0 (fun e w' => e = .returned (.bool r) ∧ Fr no w0 w') := by
  refine calls_of (N := 99) (rs := [2]) (args := [.slice Al l.length cl]) Tryz.func69 rfl Tryz.ntmps69 Tryz.results69 rfl ?_
  obtain ⟨F, hF⟩ : ∃ F : Fm, F = ⟨no, w0, Γ⟩ := ⟨_, rfl⟩
  refine WC.here (C := CC F Γ []) ?_ (hF ▸ Cur.start0 hs)
  refine WC.rs ?_
  refine va rfl rfl rfl (q_assign (v := .bool false) rfl (by kernel_rfl)) ?_
  refine WR.nil ?_
  change WC _ _ _ _ _ _
  refine WC.seq ?_
  refine WC.rs ?_
  refine va rfl rfl rfl (q_move (v := .slice Al l.length cl) rfl (by kernel_rfl)) ?_
  refine va rfl rfl rfl (q_len_slice rfl Tryz.underlying49 rfl) ?_
  refine va rfl rfl rfl (q_gtr rfl rfl rfl) ?_
  refine WR.nil ?_
  change WC _ _ _ _ _ _
  refine WC.cif h (by kernel_rfl) (fun hb1 h => ?_) (fun hb1 h => ?_)
  · skip
    refine WC.rs ?_
    refine va rfl rfl rfl (q_assign (v := .bool false) rfl (by kernel_rfl)) ?_
    refine WR.nil ?_
    change WC _ _ _ _ _ _
    refine WC.ret ?_
    intro w hw
    obtain rfl := Option.some.inj h
    subst hF
    exact ⟨by kernel_rfl, hw.fr⟩
  · skip
    refine WC.skip ?_
    change WC _ _ _ _ _ _
    refine WC.seq ?_
    refine WC.rs ?_
    refine va rfl rfl rfl (q_assign (v := .int .i64 0) rfl (by kernel_rfl)) ?_
    refine WR.nil ?_
    change WC _ _ _ _ _ _
    refine WC.block ?_
    refine WC.forI h (fun (i3 : Nat) (s : Unit) σ w => match s with | () => slots σ [(0, .slice Al l.length cl), (3, .int .i64 ((i3 : Nat) : Int))] ∧ CC F Γ [] w ∧ True) ?_ ?_
    · skip
      intro w hw
      exact ⟨(sl_ (by kernel_rfl)), hw, trivial⟩
    rintro f2 i3 ⟨⟩ σ w hi4 hlt5 hge6 ⟨hsl, hw, -⟩
    refine Wpt.slots hsl ?_
    refine WC.here (C := CC F Γ []) ?_ hw
    clear hw hsl
    refine WC.seq ?_
    refine WC.rs ?_
    refine va rfl rfl rfl (q_move (v := .int .i64 ((i3 : Nat) : Int)) rfl (by kernel_rfl)) ?_
    refine va rfl rfl rfl (q_move (v := .slice Al l.length cl) rfl (by kernel_rfl)) ?_
    refine va rfl rfl rfl (q_len_slice rfl Tryz.underlying49 rfl) ?_
    refine va rfl rfl rfl (q_lss rfl rfl rfl) ?_
    refine WR.nil ?_
    change WC _ _ _ _ _ _
    refine WC.cond (b := (decide (((i3 : Nat) : Int) < ((l.length : Nat) : Int)))) (by kernel_rfl) (fun hb7 => ?_) (fun hb7 => ?_)
    · skip
      have hl8 := ilt hb7
      have h := hlt5 hl8
      refine WC.skip ?_
      change WC _ _ _ _ _ _
      refine WC.seq ?_
      refine WC.block ?_
      refine WC.seq ?_
      refine WC.seq ?_
      refine WC.dr (by kernel_rfl) (by kernel_rfl) (fun w hw => hw.drawn _) ?_
      refine wa rfl rfl rfl (q_move (v := .slice Al l.length cl) rfl (by kernel_rfl)) ?_
      refine wa rfl rfl rfl (q_move (v := .int .i64 ((i3 : Nat) : Int)) rfl (by kernel_rfl)) ?_
      refine wa rfl rfl rfl (q_ixn (i := i3) Tryz.underlying49 Tryz.sizeOf53 rfl rfl rfl hl8 (hl.some_ hl8)) ?_
      refine wa rfl rfl rfl (q_field_addr (i3 * 3) fld_53_0 rfl rfl (hl.some_ hl8) rfl) ?_
      refine wa rfl rfl rfl (q_ld (c := 0) (v := .int .i64 (gt l i3).s) (hl.spanT_at hl8).2 rfl Tryz.isAgg3 rfl rfl) ?_
      refine wa rfl rfl rfl (q_move (v := .slice Al l.length cl) rfl (by kernel_rfl)) ?_
      refine wa rfl rfl rfl (q_move (v := .int .i64 ((i3 : Nat) : Int)) rfl (by kernel_rfl)) ?_
      refine wa rfl rfl rfl (q_ixn (i := i3) Tryz.underlying49 Tryz.sizeOf53 rfl rfl rfl hl8 (hl.some_ hl8)) ?_
      refine wa rfl rfl rfl (q_field_addr (i3 * 3 + 1) fld_53_1 rfl rfl (hl.some_ hl8) rfl) ?_
      refine wa rfl rfl rfl (q_ld (c := 1) (v := .int .i64 (gt l i3).f) (hl.spanT_at hl8).2 rfl Tryz.isAgg2 rfl rfl) ?_
      refine wa rfl rfl rfl (q_build' (v := .agg #[.int .i64 (gt l i3).s, .int .i64 (gt l i3).f]) rfl (bargs2 rfl rfl) (fun w => by kernel_rfl)) ?_
      obtain ⟨z9, hz10, h⟩ := bnd h
      refine wc rfl rfl rfl (q_call (call_run Tryz.call68 rfl rfl (by kernel_rfl)) (fun w hw => t_firthref03_Dot (Γ := Gh.all w) (⟨(gt l i3).s, (gt l i3).f⟩ : Dot) ⟨(hl.spanT_at hl8).1.1, (hl.spanT_at hl8).1.2.1⟩ (Sat.all w) hz10)) ?_
      refine wa rfl rfl rfl (q_not rfl rfl) ?_
      refine wa rfl rfl rfl (q_move (v := .bool (!z9)) rfl (by kernel_rfl)) ?_
      refine wg0 rfl rfl rfl rfl rfl (fun hg11 => QV.qo (q_move (v := .slice Al l.length cl) rfl (by kernel_rfl))) ?_
      refine wg0 rfl rfl rfl rfl rfl (fun hg12 => QV.qo (q_move (v := .int .i64 ((i3 : Nat) : Int)) rfl (by kernel_rfl))) ?_
      refine wg0 rfl rfl rfl rfl rfl (fun hg13 => QV.qo (q_ixn (i := i3) Tryz.underlying49 Tryz.sizeOf53 rfl (gu hg13 rfl) (gu hg13 rfl) hl8 (hl.some_ hl8))) ?_
      refine wg0 rfl rfl rfl rfl rfl (fun hg14 => QV.qo (q_field_addr (i3 * 3) fld_53_0 rfl (gu hg14 rfl) (hl.some_ hl8) rfl)) ?_
      refine wg0 rfl rfl rfl rfl rfl (fun hg15 => QV.qo (q_ld (c := 0) (v := .int .i64 (gt l i3).s) (hl.spanT_at hl8).2 rfl Tryz.isAgg3 (gu hg15 rfl) rfl)) ?_
      refine wg0 rfl rfl rfl rfl rfl (fun hg16 => QV.qo (q_move (v := .slice Al l.length cl) rfl (by kernel_rfl))) ?_
      refine wg0 rfl rfl rfl rfl rfl (fun hg17 => QV.qo (q_move (v := .int .i64 ((i3 : Nat) : Int)) rfl (by kernel_rfl))) ?_
      refine wg0 rfl rfl rfl rfl rfl (fun hg18 => QV.qo (q_ixn (i := i3) Tryz.underlying49 Tryz.sizeOf53 rfl (gu hg18 rfl) (gu hg18 rfl) hl8 (hl.some_ hl8))) ?_
      refine wg0 rfl rfl rfl rfl rfl (fun hg19 => QV.qo (q_field_addr (i3 * 3 + 2) fld_53_2 rfl (gu hg19 rfl) (hl.some_ hl8) rfl)) ?_
      refine wg0 rfl rfl rfl rfl rfl (fun hg20 => QV.qo (q_ld (c := 2) (v := .int .i64 (gt l i3).t) (hl.spanT_at hl8).2 rfl Tryz.isAgg2 (gu hg20 rfl) rfl)) ?_
      refine wg0 rfl rfl rfl rfl rfl (fun hg21 => QV.qo (q_build' (v := .agg #[.int .i64 (gt l i3).s, .int .i64 (gt l i3).t]) rfl (bargs2 (gu hg21 rfl) (gu hg21 rfl)) (fun w => by kernel_rfl))) ?_
      obtain ⟨z23, hz24, h⟩ := bnd h
      refine wg0 rfl rfl rfl rfl rfl (fun hg22 => (q_call (call_run Tryz.call68 rfl rfl (args1 (gu hg22 rfl))) (fun w hw => t_firthref03_Dot (Γ := Gh.all w) (⟨(gt l i3).s, (gt l i3).t⟩ : Dot) ⟨(hl.spanT_at hl8).1.1, (hl.spanT_at hl8).1.2.2⟩ (Sat.all w) (gc_of hz24 hg22)))) ?_
      refine wg0 rfl rfl rfl rfl rfl (fun hg25 => QV.qo (q_not rfl (gu hg25 rfl))) ?_
      refine wa rfl rfl rfl (q_pick rfl rfl (pk_or' (g := (!z9)) (y := (!z23)))) ?_
      refine wa rfl rfl rfl (q_move (v := .bool ((!z9) || (!z23))) rfl (by kernel_rfl)) ?_
      refine wg0 rfl rfl rfl rfl rfl (fun hg26 => QV.qo (q_move (v := .slice Al l.length cl) rfl (by kernel_rfl))) ?_
      refine wg0 rfl rfl rfl rfl rfl (fun hg27 => QV.qo (q_move (v := .int .i64 ((i3 : Nat) : Int)) rfl (by kernel_rfl))) ?_
      refine wg0 rfl rfl rfl rfl rfl (fun hg28 => QV.qo (q_ixn (i := i3) Tryz.underlying49 Tryz.sizeOf53 rfl (gu hg28 rfl) (gu hg28 rfl) hl8 (hl.some_ hl8))) ?_
      refine wg0 rfl rfl rfl rfl rfl (fun hg29 => QV.qo (q_field_addr (i3 * 3 + 1) fld_53_1 rfl (gu hg29 rfl) (hl.some_ hl8) rfl)) ?_
      refine wg0 rfl rfl rfl rfl rfl (fun hg30 => QV.qo (q_ld (c := 1) (v := .int .i64 (gt l i3).f) (hl.spanT_at hl8).2 rfl Tryz.isAgg2 (gu hg30 rfl) rfl)) ?_
      refine wg0 rfl rfl rfl rfl rfl (fun hg31 => QV.qo (q_move (v := .slice Al l.length cl) rfl (by kernel_rfl))) ?_
      refine wg0 rfl rfl rfl rfl rfl (fun hg32 => QV.qo (q_move (v := .int .i64 ((i3 : Nat) : Int)) rfl (by kernel_rfl))) ?_
      refine wg0 rfl rfl rfl rfl rfl (fun hg33 => QV.qo (q_ixn (i := i3) Tryz.underlying49 Tryz.sizeOf53 rfl (gu hg33 rfl) (gu hg33 rfl) hl8 (hl.some_ hl8))) ?_
      refine wg0 rfl rfl rfl rfl rfl (fun hg34 => QV.qo (q_field_addr (i3 * 3 + 2) fld_53_2 rfl (gu hg34 rfl) (hl.some_ hl8) rfl)) ?_
      refine wg0 rfl rfl rfl rfl rfl (fun hg35 => QV.qo (q_ld (c := 2) (v := .int .i64 (gt l i3).t) (hl.spanT_at hl8).2 rfl Tryz.isAgg2 (gu hg35 rfl) rfl)) ?_
      refine wg0 rfl rfl rfl rfl rfl (fun hg36 => QV.qo (q_gtr rfl (gu hg36 rfl) (gu hg36 rfl))) ?_
      refine wa rfl rfl rfl (q_pick rfl rfl (pk_or' (g := ((!z9) || (!z23))) (y := (decide ((gt l i3).t < (gt l i3).f))))) ?_
      refine WQ.nil ?_
      change WC _ _ _ _ _ _
      refine WC.cif h (by kernel_rfl) (fun hb37 h => ?_) (fun hb37 h => ?_)
      · skip
        refine WC.rs ?_
        refine va rfl rfl rfl (q_assign (v := .bool false) rfl (by kernel_rfl)) ?_
        refine WR.nil ?_
        change WC _ _ _ _ _ _
        refine WC.ret ?_
        intro w hw
        obtain rfl := Option.some.inj h
        subst hF
        exact ⟨by kernel_rfl, hw.fr⟩
      · skip
        refine WC.skip ?_
        change WC _ _ _ _ _ _
        refine WC.seq ?_
        refine WC.dr (by kernel_rfl) (by kernel_rfl) (fun w hw => hw.drawn _) ?_
        refine wa rfl rfl rfl (q_move (v := .int .i64 ((i3 : Nat) : Int)) rfl (by kernel_rfl)) ?_
        refine wa rfl rfl rfl (q_gtr rfl rfl rfl) ?_
        refine wa rfl rfl rfl (q_move (v := .bool (decide (0 < ((i3 : Nat) : Int)))) rfl (by kernel_rfl)) ?_
        refine wg1 rfl rfl rfl rfl rfl (fun hg38 => QV.qo (q_move (v := .slice Al l.length cl) rfl (by kernel_rfl))) ?_
        refine wg1 rfl rfl rfl rfl rfl (fun hg39 => QV.qo (q_move (v := .int .i64 ((i3 : Nat) : Int)) rfl (by kernel_rfl))) ?_
        refine wg1 rfl rfl rfl rfl rfl (fun hg40 => QV.qo (q_ixn (i := i3) Tryz.underlying49 Tryz.sizeOf53 rfl (gu hg40 rfl) (gu hg40 rfl) hl8 (hl.some_ hl8))) ?_
        refine wg1 rfl rfl rfl rfl rfl (fun hg41 => QV.qo (q_field_addr (i3 * 3) fld_53_0 rfl (gu hg41 rfl) (hl.some_ hl8) rfl)) ?_
        refine wg1 rfl rfl rfl rfl rfl (fun hg42 => QV.qo (q_ld (c := 0) (v := .int .i64 (gt l i3).s) (hl.spanT_at hl8).2 rfl Tryz.isAgg3 (gu hg42 rfl) rfl)) ?_
        refine wg1 rfl rfl rfl rfl rfl (fun hg43 => QV.qo (q_move (v := .slice Al l.length cl) rfl (by kernel_rfl))) ?_
        refine wg1 rfl rfl rfl rfl rfl (fun hg44 => QV.qo (q_move (v := .int .i64 ((i3 : Nat) : Int)) rfl (by kernel_rfl))) ?_
        refine wg1 rfl rfl rfl rfl rfl (fun hg45 => QV.qo (q_sub rfl (gu hg45 rfl) rfl)) ?_
        obtain ⟨hk47, h⟩ := chk_some h
        refine wg1 rfl rfl rfl rfl rfl (fun hg46 => QV.qo (q_ix Tryz.underlying49 Tryz.sizeOf53 rfl (gu hg46 rfl) (gu hg46 rfl) (imp_of hk47 hg46) (hl.some_ (inb_lt (imp_of hk47 hg46))))) ?_
        refine wg1 rfl rfl rfl rfl rfl (fun hg48 => QV.qo (q_field_addr (((w64 (((i3 : Nat) : Int) - 1)).toNat) * 3) fld_53_0 rfl (gu hg48 rfl) (hl.some_ (inb_lt (imp_of hk47 hg48))) rfl)) ?_
        refine wg1 rfl rfl rfl rfl rfl (fun hg49 => QV.qo (q_ld (c := 0) (v := .int .i64 (gt l ((w64 (((i3 : Nat) : Int) - 1)).toNat)).s) (hl.spanT_at (inb_lt (imp_of hk47 hg49))).2 rfl Tryz.isAgg3 (gu hg49 rfl) rfl)) ?_
        refine wg1 rfl rfl rfl rfl rfl (fun hg50 => QV.qo (q_lss rfl (gu hg50 rfl) (gu hg50 rfl))) ?_
        refine wg1 rfl rfl rfl rfl rfl (fun hg51 => QV.qo (q_move (v := .bool (decide ((gt l i3).s < (gt l ((w64 (((i3 : Nat) : Int) - 1)).toNat)).s))) rfl (gu hg51 rfl))) ?_
        refine wh0 (c0 := (decide (0 < ((i3 : Nat) : Int)))) (g := (decide ((gt l i3).s < (gt l ((w64 (((i3 : Nat) : Int) - 1)).toNat)).s))) rfl rfl rfl rfl rfl (fun hg52 => QV.qo (q_move (v := .slice Al l.length cl) rfl (by kernel_rfl))) ?_
        refine wh0 (c0 := (decide (0 < ((i3 : Nat) : Int)))) (g := (decide ((gt l i3).s < (gt l ((w64 (((i3 : Nat) : Int) - 1)).toNat)).s))) rfl rfl rfl rfl rfl (fun hg53 => QV.qo (q_move (v := .int .i64 ((i3 : Nat) : Int)) rfl (by kernel_rfl))) ?_
        refine wh0 (c0 := (decide (0 < ((i3 : Nat) : Int)))) (g := (decide ((gt l i3).s < (gt l ((w64 (((i3 : Nat) : Int) - 1)).toNat)).s))) rfl rfl rfl rfl rfl (fun hg54 => QV.qo (q_ixn (i := i3) Tryz.underlying49 Tryz.sizeOf53 rfl (gu hg54 rfl) (gu hg54 rfl) hl8 (hl.some_ hl8))) ?_
        refine wh0 (c0 := (decide (0 < ((i3 : Nat) : Int)))) (g := (decide ((gt l i3).s < (gt l ((w64 (((i3 : Nat) : Int) - 1)).toNat)).s))) rfl rfl rfl rfl rfl (fun hg55 => QV.qo (q_field_addr (i3 * 3) fld_53_0 rfl (gu hg55 rfl) (hl.some_ hl8) rfl)) ?_
        refine wh0 (c0 := (decide (0 < ((i3 : Nat) : Int)))) (g := (decide ((gt l i3).s < (gt l ((w64 (((i3 : Nat) : Int) - 1)).toNat)).s))) rfl rfl rfl rfl rfl (fun hg56 => QV.qo (q_ld (c := 0) (v := .int .i64 (gt l i3).s) (hl.spanT_at hl8).2 rfl Tryz.isAgg3 (gu hg56 rfl) rfl)) ?_
        refine wh0 (c0 := (decide (0 < ((i3 : Nat) : Int)))) (g := (decide ((gt l i3).s < (gt l ((w64 (((i3 : Nat) : Int) - 1)).toNat)).s))) rfl rfl rfl rfl rfl (fun hg57 => QV.qo (q_move (v := .slice Al l.length cl) rfl (by kernel_rfl))) ?_
        refine wh0 (c0 := (decide (0 < ((i3 : Nat) : Int)))) (g := (decide ((gt l i3).s < (gt l ((w64 (((i3 : Nat) : Int) - 1)).toNat)).s))) rfl rfl rfl rfl rfl (fun hg58 => QV.qo (q_move (v := .int .i64 ((i3 : Nat) : Int)) rfl (by kernel_rfl))) ?_
        refine wh0 (c0 := (decide (0 < ((i3 : Nat) : Int)))) (g := (decide ((gt l i3).s < (gt l ((w64 (((i3 : Nat) : Int) - 1)).toNat)).s))) rfl rfl rfl rfl rfl (fun hg59 => QV.qo (q_sub rfl (gu hg59 rfl) rfl)) ?_
        refine wh0 (c0 := (decide (0 < ((i3 : Nat) : Int)))) (g := (decide ((gt l i3).s < (gt l ((w64 (((i3 : Nat) : Int) - 1)).toNat)).s))) rfl rfl rfl rfl rfl (fun hg60 => QV.qo (q_ix Tryz.underlying49 Tryz.sizeOf53 rfl (gu hg60 rfl) (gu hg60 rfl) (imp_of hk47 (and_l hg60)) (hl.some_ (inb_lt (imp_of hk47 (and_l hg60)))))) ?_
        refine wh0 (c0 := (decide (0 < ((i3 : Nat) : Int)))) (g := (decide ((gt l i3).s < (gt l ((w64 (((i3 : Nat) : Int) - 1)).toNat)).s))) rfl rfl rfl rfl rfl (fun hg61 => QV.qo (q_field_addr (((w64 (((i3 : Nat) : Int) - 1)).toNat) * 3) fld_53_0 rfl (gu hg61 rfl) (hl.some_ (inb_lt (imp_of hk47 (and_l hg61)))) rfl)) ?_
        refine wh0 (c0 := (decide (0 < ((i3 : Nat) : Int)))) (g := (decide ((gt l i3).s < (gt l ((w64 (((i3 : Nat) : Int) - 1)).toNat)).s))) rfl rfl rfl rfl rfl (fun hg62 => QV.qo (q_ld (c := 0) (v := .int .i64 (gt l ((w64 (((i3 : Nat) : Int) - 1)).toNat)).s) (hl.spanT_at (inb_lt (imp_of hk47 (and_l hg62)))).2 rfl Tryz.isAgg3 (gu hg62 rfl) rfl)) ?_
        refine wh0 (c0 := (decide (0 < ((i3 : Nat) : Int)))) (g := (decide ((gt l i3).s < (gt l ((w64 (((i3 : Nat) : Int) - 1)).toNat)).s))) rfl rfl rfl rfl rfl (fun hg63 => QV.qo (q_eql rfl (gu hg63 rfl) (gu hg63 rfl))) ?_
        refine wh0 (c0 := (decide (0 < ((i3 : Nat) : Int)))) (g := (decide ((gt l i3).s < (gt l ((w64 (((i3 : Nat) : Int) - 1)).toNat)).s))) rfl rfl rfl rfl rfl (fun hg64 => QV.qo (q_move (v := .bool ((gt l i3).s == (gt l ((w64 (((i3 : Nat) : Int) - 1)).toNat)).s)) rfl (gu hg64 rfl))) ?_
        refine wh1 (c0 := ((decide (0 < ((i3 : Nat) : Int))) && (!(decide ((gt l i3).s < (gt l ((w64 (((i3 : Nat) : Int) - 1)).toNat)).s))))) (g := ((gt l i3).s == (gt l ((w64 (((i3 : Nat) : Int) - 1)).toNat)).s)) rfl rfl rfl rfl rfl (fun hg65 => QV.qo (q_move (v := .slice Al l.length cl) rfl (by kernel_rfl))) ?_
        refine wh1 (c0 := ((decide (0 < ((i3 : Nat) : Int))) && (!(decide ((gt l i3).s < (gt l ((w64 (((i3 : Nat) : Int) - 1)).toNat)).s))))) (g := ((gt l i3).s == (gt l ((w64 (((i3 : Nat) : Int) - 1)).toNat)).s)) rfl rfl rfl rfl rfl (fun hg66 => QV.qo (q_move (v := .int .i64 ((i3 : Nat) : Int)) rfl (by kernel_rfl))) ?_
        refine wh1 (c0 := ((decide (0 < ((i3 : Nat) : Int))) && (!(decide ((gt l i3).s < (gt l ((w64 (((i3 : Nat) : Int) - 1)).toNat)).s))))) (g := ((gt l i3).s == (gt l ((w64 (((i3 : Nat) : Int) - 1)).toNat)).s)) rfl rfl rfl rfl rfl (fun hg67 => QV.qo (q_ixn (i := i3) Tryz.underlying49 Tryz.sizeOf53 rfl (gu hg67 rfl) (gu hg67 rfl) hl8 (hl.some_ hl8))) ?_
        refine wh1 (c0 := ((decide (0 < ((i3 : Nat) : Int))) && (!(decide ((gt l i3).s < (gt l ((w64 (((i3 : Nat) : Int) - 1)).toNat)).s))))) (g := ((gt l i3).s == (gt l ((w64 (((i3 : Nat) : Int) - 1)).toNat)).s)) rfl rfl rfl rfl rfl (fun hg68 => QV.qo (q_field_addr (i3 * 3 + 1) fld_53_1 rfl (gu hg68 rfl) (hl.some_ hl8) rfl)) ?_
        refine wh1 (c0 := ((decide (0 < ((i3 : Nat) : Int))) && (!(decide ((gt l i3).s < (gt l ((w64 (((i3 : Nat) : Int) - 1)).toNat)).s))))) (g := ((gt l i3).s == (gt l ((w64 (((i3 : Nat) : Int) - 1)).toNat)).s)) rfl rfl rfl rfl rfl (fun hg69 => QV.qo (q_ld (c := 1) (v := .int .i64 (gt l i3).f) (hl.spanT_at hl8).2 rfl Tryz.isAgg2 (gu hg69 rfl) rfl)) ?_
        refine wh1 (c0 := ((decide (0 < ((i3 : Nat) : Int))) && (!(decide ((gt l i3).s < (gt l ((w64 (((i3 : Nat) : Int) - 1)).toNat)).s))))) (g := ((gt l i3).s == (gt l ((w64 (((i3 : Nat) : Int) - 1)).toNat)).s)) rfl rfl rfl rfl rfl (fun hg70 => QV.qo (q_sub rfl (gu hg70 rfl) rfl)) ?_
        refine wh1 (c0 := ((decide (0 < ((i3 : Nat) : Int))) && (!(decide ((gt l i3).s < (gt l ((w64 (((i3 : Nat) : Int) - 1)).toNat)).s))))) (g := ((gt l i3).s == (gt l ((w64 (((i3 : Nat) : Int) - 1)).toNat)).s)) rfl rfl rfl rfl rfl (fun hg71 => QV.qo (q_move (v := .slice Al l.length cl) rfl (by kernel_rfl))) ?_
        refine wh1 (c0 := ((decide (0 < ((i3 : Nat) : Int))) && (!(decide ((gt l i3).s < (gt l ((w64 (((i3 : Nat) : Int) - 1)).toNat)).s))))) (g := ((gt l i3).s == (gt l ((w64 (((i3 : Nat) : Int) - 1)).toNat)).s)) rfl rfl rfl rfl rfl (fun hg72 => QV.qo (q_move (v := .int .i64 ((i3 : Nat) : Int)) rfl (by kernel_rfl))) ?_
        refine wh1 (c0 := ((decide (0 < ((i3 : Nat) : Int))) && (!(decide ((gt l i3).s < (gt l ((w64 (((i3 : Nat) : Int) - 1)).toNat)).s))))) (g := ((gt l i3).s == (gt l ((w64 (((i3 : Nat) : Int) - 1)).toNat)).s)) rfl rfl rfl rfl rfl (fun hg73 => QV.qo (q_sub rfl (gu hg73 rfl) rfl)) ?_
        refine wh1 (c0 := ((decide (0 < ((i3 : Nat) : Int))) && (!(decide ((gt l i3).s < (gt l ((w64 (((i3 : Nat) : Int) - 1)).toNat)).s))))) (g := ((gt l i3).s == (gt l ((w64 (((i3 : Nat) : Int) - 1)).toNat)).s)) rfl rfl rfl rfl rfl (fun hg74 => QV.qo (q_ix Tryz.underlying49 Tryz.sizeOf53 rfl (gu hg74 rfl) (gu hg74 rfl) (imp_of hk47 (and_l (and_l hg74))) (hl.some_ (inb_lt (imp_of hk47 (and_l (and_l hg74))))))) ?_
        refine wh1 (c0 := ((decide (0 < ((i3 : Nat) : Int))) && (!(decide ((gt l i3).s < (gt l ((w64 (((i3 : Nat) : Int) - 1)).toNat)).s))))) (g := ((gt l i3).s == (gt l ((w64 (((i3 : Nat) : Int) - 1)).toNat)).s)) rfl rfl rfl rfl rfl (fun hg75 => QV.qo (q_field_addr (((w64 (((i3 : Nat) : Int) - 1)).toNat) * 3 + 2) fld_53_2 rfl (gu hg75 rfl) (hl.some_ (inb_lt (imp_of hk47 (and_l (and_l hg75))))) rfl)) ?_
        refine wh1 (c0 := ((decide (0 < ((i3 : Nat) : Int))) && (!(decide ((gt l i3).s < (gt l ((w64 (((i3 : Nat) : Int) - 1)).toNat)).s))))) (g := ((gt l i3).s == (gt l ((w64 (((i3 : Nat) : Int) - 1)).toNat)).s)) rfl rfl rfl rfl rfl (fun hg76 => QV.qo (q_ld (c := 2) (v := .int .i64 (gt l ((w64 (((i3 : Nat) : Int) - 1)).toNat)).t) (hl.spanT_at (inb_lt (imp_of hk47 (and_l (and_l hg76))))).2 rfl Tryz.isAgg2 (gu hg76 rfl) rfl)) ?_
        refine wh1 (c0 := ((decide (0 < ((i3 : Nat) : Int))) && (!(decide ((gt l i3).s < (gt l ((w64 (((i3 : Nat) : Int) - 1)).toNat)).s))))) (g := ((gt l i3).s == (gt l ((w64 (((i3 : Nat) : Int) - 1)).toNat)).s)) rfl rfl rfl rfl rfl (fun hg77 => QV.qo (q_leq rfl (gu hg77 rfl) (gu hg77 rfl))) ?_
        refine wh0 (c0 := (decide (0 < ((i3 : Nat) : Int)))) (g := (decide ((gt l i3).s < (gt l ((w64 (((i3 : Nat) : Int) - 1)).toNat)).s))) rfl rfl rfl rfl rfl (fun hg78 => QV.qo (q_pick rfl (gu hg78 rfl) (pk_and (c := ((decide (0 < ((i3 : Nat) : Int))) && (!(decide ((gt l i3).s < (gt l ((w64 (((i3 : Nat) : Int) - 1)).toNat)).s))))) (g := ((gt l i3).s == (gt l ((w64 (((i3 : Nat) : Int) - 1)).toNat)).s)) (y := (decide ((w64 ((gt l i3).f - 1)) ≤ (gt l ((w64 (((i3 : Nat) : Int) - 1)).toNat)).t))) hg78))) ?_
        refine wg1 rfl rfl rfl rfl rfl (fun hg79 => QV.qo (q_pick rfl (gu hg79 rfl) (pk_or (c := (decide (0 < ((i3 : Nat) : Int)))) (g := (decide ((gt l i3).s < (gt l ((w64 (((i3 : Nat) : Int) - 1)).toNat)).s))) (y := (((gt l i3).s == (gt l ((w64 (((i3 : Nat) : Int) - 1)).toNat)).s) && (decide ((w64 ((gt l i3).f - 1)) ≤ (gt l ((w64 (((i3 : Nat) : Int) - 1)).toNat)).t)))) hg79))) ?_
        refine wa rfl rfl rfl (q_pick rfl rfl (pk_and' (g := (decide (0 < ((i3 : Nat) : Int)))) (y := ((decide ((gt l i3).s < (gt l ((w64 (((i3 : Nat) : Int) - 1)).toNat)).s)) || (((gt l i3).s == (gt l ((w64 (((i3 : Nat) : Int) - 1)).toNat)).s) && (decide ((w64 ((gt l i3).f - 1)) ≤ (gt l ((w64 (((i3 : Nat) : Int) - 1)).toNat)).t))))))) ?_
        refine WQ.nil ?_
        change WC _ _ _ _ _ _
        refine WC.cif h (by kernel_rfl) (fun hb80 h => ?_) (fun hb80 h => ?_)
        · skip
          refine WC.rs ?_
          refine va rfl rfl rfl (q_assign (v := .bool false) rfl (by kernel_rfl)) ?_
          refine WR.nil ?_
          change WC _ _ _ _ _ _
          refine WC.ret ?_
          intro w hw
          obtain rfl := Option.some.inj h
          subst hF
          exact ⟨by kernel_rfl, hw.fr⟩
        · skip
          refine WC.skip ?_
          change WC _ _ _ _ _ _
          refine WC.region ?_
          refine va rfl rfl rfl (q_move (v := .int .i64 ((i3 : Nat) : Int)) rfl (by kernel_rfl)) ?_
          refine va rfl rfl rfl (q_add_r (r := ((i3 + 1 : Nat) : Int)) rfl rfl rfl (ctr_len hl8 hl.le)) ?_
          refine va rfl rfl rfl (q_assign (v := .int .i64 ((i3 + 1 : Nat) : Int)) rfl (by kernel_rfl)) ?_
          refine WR.nil ?_
          intro w hw
          exact ⟨hl8, (), h, (sl_ (by kernel_rfl)), hw, trivial⟩
    · skip
      have h := hge6 (ige hb7)
      refine WC.exit ?_
      change WC _ _ _ _ _ _
      refine WC.rs ?_
      refine va rfl rfl rfl (q_assign (v := .bool true) rfl (by kernel_rfl)) ?_
      refine WR.nil ?_
      change WC _ _ _ _ _ _
      refine WC.ret ?_
      intro w hw
      obtain rfl := Option.some.inj h
      subst hF
      exact ⟨by kernel_rfl, hw.fr⟩
set_option maxRecDepth 100000 in
set_option maxHeartbeats 400000 in
theorem t_firthref03_Top {Γ : Gh} {w0 : World} {Al : Option Addr} {cl : Nat} {l : List Span} (hl : Sl spanT Γ Al l) (hlc : l.length ≤ cl) (s_ : Int) (hs_ : I64 s_) (hs : Sat Γ w0) {r : Int} (h : m_firthref03_Top l s_ = some r) : Calls Tryz.prog 70 #[.slice Al l.length cl, .int .i64 s_] w0 (fun e w' => e = .returned (.int .i64 r) ∧ Fr no w0 w') := by
  refine calls_of (N := 35) (rs := [4]) (args := [.slice Al l.length cl, .int .i64 s_]) Tryz.func70 rfl Tryz.ntmps70 Tryz.results70 rfl ?_
  obtain ⟨F, hF⟩ : ∃ F : Fm, F = ⟨no, w0, Γ⟩ := ⟨_, rfl⟩
  refine WC.here (C := CC F Γ []) ?_ (hF ▸ Cur.start0 hs)
  refine WC.rs ?_
  refine va rfl rfl rfl (q_assign (v := .int .i64 0) rfl (by kernel_rfl)) ?_
  refine WR.nil ?_
  change WC _ _ _ _ _ _
  refine WC.rs ?_
  refine va rfl rfl rfl (q_assign (v := .int .i64 0) rfl (by kernel_rfl)) ?_
  refine WR.nil ?_
  change WC _ _ _ _ _ _
  refine WC.seq ?_
  refine WC.rs ?_
  refine va rfl rfl rfl (q_assign (v := .int .i64 0) rfl (by kernel_rfl)) ?_
  refine WR.nil ?_
  change WC _ _ _ _ _ _
  refine WC.block ?_
  refine WC.forI h (fun (i4 : Nat) (n_1 : Int) σ w => slots σ [(0, .slice Al l.length cl), (1, .int .i64 s_), (5, .int .i64 n_1), (6, .int .i64 ((i4 : Nat) : Int))] ∧ CC F Γ [] w ∧ I64 n_1 ∧ True) ?_ ?_
  · skip
    intro w hw
    exact ⟨(sl_ (by kernel_rfl)), hw, (show I64 0 by decide), trivial⟩
  rintro f3 i4 n_1 σ w hi5 hlt6 hge7 ⟨hsl, hw, hr2, -⟩
  refine Wpt.slots hsl ?_
  refine WC.here (C := CC F Γ []) ?_ hw
  clear hw hsl
  refine WC.seq ?_
  refine WC.rs ?_
  refine va rfl rfl rfl (q_move (v := .int .i64 ((i4 : Nat) : Int)) rfl (by kernel_rfl)) ?_
  refine va rfl rfl rfl (q_move (v := .slice Al l.length cl) rfl (by kernel_rfl)) ?_
  refine va rfl rfl rfl (q_len_slice rfl Tryz.underlying49 rfl) ?_
  refine va rfl rfl rfl (q_lss rfl rfl rfl) ?_
  refine WR.nil ?_
  change WC _ _ _ _ _ _
  refine WC.cond (b := (decide (((i4 : Nat) : Int) < ((l.length : Nat) : Int)))) (by kernel_rfl) (fun hb8 => ?_) (fun hb8 => ?_)
  · skip
    have hl9 := ilt hb8
    have h := hlt6 hl9
    refine WC.skip ?_
    change WC _ _ _ _ _ _
    refine WC.cut (fun σ w => ∃ (n_10 : Int), m_firthref03_Top_j6 f3 n_10 = some r ∧ slots σ [(0, .slice Al l.length cl), (1, .int .i64 s_), (5, .int .i64 n_10), (6, .int .i64 ((i4 : Nat) : Int))] ∧ CC F Γ [] w ∧ I64 n_10 ∧ True) ?_ ?_
    · skip
      refine WC.block ?_
      refine WC.rs ?_
      refine va rfl rfl rfl (q_move (v := .slice Al l.length cl) rfl (by kernel_rfl)) ?_
      refine va rfl rfl rfl (q_move (v := .int .i64 ((i4 : Nat) : Int)) rfl (by kernel_rfl)) ?_
      refine va rfl rfl rfl (q_ixn (i := i4) Tryz.underlying49 Tryz.sizeOf53 rfl rfl rfl hl9 (hl.some_ hl9)) ?_
      refine va rfl rfl rfl (q_field_addr (i4 * 3) fld_53_0 rfl rfl (hl.some_ hl9) rfl) ?_
      refine va rfl rfl rfl (q_ld (c := 0) (v := .int .i64 (gt l i4).s) (hl.spanT_at hl9).2 rfl Tryz.isAgg3 rfl rfl) ?_
      refine va rfl rfl rfl (q_move (v := .int .i64 s_) rfl (by kernel_rfl)) ?_
      refine va rfl rfl rfl (q_eql rfl rfl rfl) ?_
      refine va rfl rfl rfl (q_move (v := .bool ((gt l i4).s == s_)) rfl (by kernel_rfl)) ?_
      refine vg1 rfl rfl rfl rfl rfl (fun hg12 => QV.qo (q_move (v := .slice Al l.length cl) rfl (by kernel_rfl))) ?_
      refine vg1 rfl rfl rfl rfl rfl (fun hg13 => QV.qo (q_move (v := .int .i64 ((i4 : Nat) : Int)) rfl (by kernel_rfl))) ?_
      refine vg1 rfl rfl rfl rfl rfl (fun hg14 => QV.qo (q_ixn (i := i4) Tryz.underlying49 Tryz.sizeOf53 rfl (gu hg14 rfl) (gu hg14 rfl) hl9 (hl.some_ hl9))) ?_
      refine vg1 rfl rfl rfl rfl rfl (fun hg15 => QV.qo (q_field_addr (i4 * 3 + 2) fld_53_2 rfl (gu hg15 rfl) (hl.some_ hl9) rfl)) ?_
      refine vg1 rfl rfl rfl rfl rfl (fun hg16 => QV.qo (q_ld (c := 2) (v := .int .i64 (gt l i4).t) (hl.spanT_at hl9).2 rfl Tryz.isAgg2 (gu hg16 rfl) rfl)) ?_
      refine vg1 rfl rfl rfl rfl rfl (fun hg17 => QV.qo (q_move (v := .int .i64 n_1) rfl (by kernel_rfl))) ?_
      refine vg1 rfl rfl rfl rfl rfl (fun hg18 => QV.qo (q_gtr rfl (gu hg18 rfl) (gu hg18 rfl))) ?_
      refine va rfl rfl rfl (q_pick rfl rfl (pk_and' (g := ((gt l i4).s == s_)) (y := (decide (n_1 < (gt l i4).t))))) ?_
      refine WR.nil ?_
      change WC _ _ _ _ _ _
      refine WC.cif h (by kernel_rfl) (fun hb19 h => ?_) (fun hb19 h => ?_)
      · skip
        refine WC.region ?_
        refine va rfl rfl rfl (q_move (v := .slice Al l.length cl) rfl (by kernel_rfl)) ?_
        refine va rfl rfl rfl (q_move (v := .int .i64 ((i4 : Nat) : Int)) rfl (by kernel_rfl)) ?_
        refine va rfl rfl rfl (q_ixn (i := i4) Tryz.underlying49 Tryz.sizeOf53 rfl rfl rfl hl9 (hl.some_ hl9)) ?_
        refine va rfl rfl rfl (q_field_addr (i4 * 3 + 2) fld_53_2 rfl rfl (hl.some_ hl9) rfl) ?_
        refine va rfl rfl rfl (q_ld (c := 2) (v := .int .i64 (gt l i4).t) (hl.spanT_at hl9).2 rfl Tryz.isAgg2 rfl rfl) ?_
        refine va rfl rfl rfl (q_assign (v := .int .i64 (gt l i4).t) rfl (by kernel_rfl)) ?_
        refine WR.nil ?_
        intro w hw
        exact ⟨(gt l i4).t, h, (sl_ (by kernel_rfl)), hw, (hl.spanT_at hl9).1.2.2, trivial⟩
      · skip
        refine WC.skip ?_
        intro w hw
        exact ⟨n_1, h, (sl_ (by kernel_rfl)), hw, hr2, trivial⟩
    · skip
      rintro σ w ⟨n_10, h, hsl, hw, hr11, -⟩
      refine Wpt.slots hsl ?_
      refine WC.here (C := CC F Γ []) ?_ hw
      clear hw hsl
      refine WC.region ?_
      refine va rfl rfl rfl (q_move (v := .int .i64 ((i4 : Nat) : Int)) rfl (by kernel_rfl)) ?_
      refine va rfl rfl rfl (q_add_r (r := ((i4 + 1 : Nat) : Int)) rfl rfl rfl (ctr_len hl9 hl.le)) ?_
      refine va rfl rfl rfl (q_assign (v := .int .i64 ((i4 + 1 : Nat) : Int)) rfl (by kernel_rfl)) ?_
      refine WR.nil ?_
      intro w hw
      exact ⟨hl9, n_10, h, (sl_ (by kernel_rfl)), hw, hr11, trivial⟩
  · skip
    have h := hge7 (ige hb8)
    refine WC.exit ?_
    change WC _ _ _ _ _ _
    refine WC.rs ?_
    refine va rfl rfl rfl (q_move (v := .int .i64 n_1) rfl (by kernel_rfl)) ?_
    refine va rfl rfl rfl (q_assign (v := .int .i64 n_1) rfl (by kernel_rfl)) ?_
    refine WR.nil ?_
    change WC _ _ _ _ _ _
    refine WC.ret ?_
    intro w hw
    obtain rfl := Option.some.inj h
    subst hF
    exact ⟨by kernel_rfl, hw.fr⟩
set_option maxRecDepth 100000 in
set_option maxHeartbeats 400000 in
theorem t_firthref05_RightOne {Γ : Gh} {w0 : World} {Av_2 : Option Addr} {cv_2 : Nat} (v_ : Ver) (hv_ : Ver.fits Γ Av_2 cv_2 v_) (hs : Sat Γ w0) {r : Bool} (h : m_firthref05_RightOne v_ = some r) : Calls Tryz.prog 52 #[.agg #[.int .i64 v_.dot.s, .int .i64 v_.dot.n, .slice Av_2 v_.past.length cv_2, .bool v_.gone, .string v_.val]] w0 (fun e w' => e = .returned (.bool r) ∧ Fr no w0 w') := by
  refine calls_of (N := 34) (rs := [2]) (args := [.agg #[.int .i64 v_.dot.s, .int .i64 v_.dot.n, .slice Av_2 v_.past.length cv_2, .bool v_.gone, .string v_.val]]) Tryz.func52 rfl Tryz.ntmps52 Tryz.results52 rfl ?_
  obtain ⟨F, hF⟩ : ∃ F : Fm, F = ⟨no, w0, Γ⟩ := ⟨_, rfl⟩
  refine WC.here (C := CC F Γ []) ?_ (hF ▸ Cur.start0 hs)
  refine WC.rs ?_
  refine e_box (v := .agg #[.int .i64 v_.dot.s, .int .i64 v_.dot.n, .slice Av_2 v_.past.length cv_2, .bool v_.gone, .string v_.val]) rfl rfl rfl rfl (by kernel_rfl) ?_
  intro g1
  refine va rfl rfl rfl (q_assign (v := .bool false) rfl (by kernel_rfl)) ?_
  refine WR.nil ?_
  change WC _ _ _ _ _ _
  refine WC.seq ?_
  refine WC.seq ?_
  refine WC.dr (by kernel_rfl) (by kernel_rfl) (fun w hw => hw.drawn _) ?_
  refine wa rfl rfl rfl (q_fl 0 fld_51_0 rfl rfl rfl) ?_
  refine wa rfl rfl rfl (q_ldla (i := 0) (vs := [.int .i64 v_.dot.s, .int .i64 v_.dot.n]) rfl rfl Tryz.isAgg48 Tryz.sizeOf48 rfl rfl) ?_
  obtain ⟨z2, hz3, h⟩ := bnd h
  refine wc rfl rfl rfl (q_call (call_run Tryz.call68 rfl rfl (by kernel_rfl)) (fun w hw => t_firthref03_Dot (Γ := Gh.all w) v_.dot ⟨hv_.1, hv_.2.1⟩ (Sat.all w) hz3)) ?_
  refine wa rfl rfl rfl (q_not rfl rfl) ?_
  refine wa rfl rfl rfl (q_move (v := .bool (!z2)) rfl (by kernel_rfl)) ?_
  refine wg0 rfl rfl rfl rfl rfl (fun hg4 => QV.qo (q_fl 2 fld_51_1 rfl rfl rfl)) ?_
  refine wg0 rfl rfl rfl rfl rfl (fun hg5 => QV.qo (q_ldl (i := 0) (v := .slice Av_2 v_.past.length cv_2) rfl rfl Tryz.isAgg49 (gu hg5 rfl) rfl)) ?_
  obtain ⟨z7, hz8, h⟩ := bnd h
  refine wg0 rfl rfl rfl rfl rfl (fun hg6 => (q_call (call_run Tryz.call69 rfl rfl (args1 (gu hg6 rfl))) (fun w hw => t_firthref03_Right (Γ := Gh.all w) (hv_.2.2.1.2.mono hw.sat.le_all) hv_.2.2.1.1 (Sat.all w) (gc_of hz8 hg6)))) ?_
  refine wg0 rfl rfl rfl rfl rfl (fun hg9 => QV.qo (q_not rfl (gu hg9 rfl))) ?_
  refine wa rfl rfl rfl (q_pick rfl rfl (pk_or' (g := (!z2)) (y := (!z7)))) ?_
  refine wa rfl rfl rfl (q_move (v := .bool ((!z2) || (!z7))) rfl (by kernel_rfl)) ?_
  refine wg0 rfl rfl rfl rfl rfl (fun hg10 => QV.qo (q_fl 2 fld_51_1 rfl rfl rfl)) ?_
  refine wg0 rfl rfl rfl rfl rfl (fun hg11 => QV.qo (q_ldl (i := 0) (v := .slice Av_2 v_.past.length cv_2) rfl rfl Tryz.isAgg49 (gu hg11 rfl) rfl)) ?_
  refine wg0 rfl rfl rfl rfl rfl (fun hg12 => QV.qo (q_fl 0 fld_51_0 rfl rfl rfl)) ?_
  refine wg0 rfl rfl rfl rfl rfl (fun hg13 => QV.qo (q_fl 0 fld_48_0 rfl (gu hg13 rfl) rfl)) ?_
  refine wg0 rfl rfl rfl rfl rfl (fun hg14 => QV.qo (q_ldl (i := 0) (v := .int .i64 v_.dot.s) rfl rfl Tryz.isAgg3 (gu hg14 rfl) rfl)) ?_
  obtain ⟨z16, hz17, h⟩ := bnd h
  refine wg0 rfl rfl rfl rfl rfl (fun hg15 => (q_call (call_run Tryz.call70 rfl rfl (args2 (gu hg15 rfl) (gu hg15 rfl))) (fun w hw => t_firthref03_Top (Γ := Gh.all w) (hv_.2.2.1.2.mono hw.sat.le_all) hv_.2.2.1.1 v_.dot.s hv_.1 (Sat.all w) (gc_of hz17 hg15)))) ?_
  refine wg0 rfl rfl rfl rfl rfl (fun hg18 => QV.qo (q_fl 0 fld_51_0 rfl rfl rfl)) ?_
  refine wg0 rfl rfl rfl rfl rfl (fun hg19 => QV.qo (q_fl 1 fld_48_1 rfl (gu hg19 rfl) rfl)) ?_
  refine wg0 rfl rfl rfl rfl rfl (fun hg20 => QV.qo (q_ldl (i := 0) (v := .int .i64 v_.dot.n) rfl rfl Tryz.isAgg2 (gu hg20 rfl) rfl)) ?_
  refine wg0 rfl rfl rfl rfl rfl (fun hg21 => QV.qo (q_geq rfl (gu hg21 rfl) (gu hg21 rfl))) ?_
  refine wa rfl rfl rfl (q_pick rfl rfl (pk_or' (g := ((!z2) || (!z7))) (y := (decide (v_.dot.n ≤ z16))))) ?_
  refine WQ.nil ?_
  change WC _ _ _ _ _ _
  refine WC.cif h (by kernel_rfl) (fun hb22 h => ?_) (fun hb22 h => ?_)
  · skip
    refine WC.rs ?_
    refine va rfl rfl rfl (q_assign (v := .bool false) rfl (by kernel_rfl)) ?_
    refine WR.nil ?_
    change WC _ _ _ _ _ _
    refine WC.ret ?_
    intro w hw
    obtain rfl := Option.some.inj h
    subst hF
    exact ⟨by kernel_rfl, hw.fr⟩
  · skip
    refine WC.skip ?_
    change WC _ _ _ _ _ _
    refine WC.seq ?_
    refine WC.rs ?_
    refine va rfl rfl rfl (q_fl 3 fld_51_2 rfl rfl rfl) ?_
    refine va rfl rfl rfl (q_ldl (i := 0) (v := .bool v_.gone) rfl rfl Tryz.isAgg4 rfl rfl) ?_
    refine WR.nil ?_
    change WC _ _ _ _ _ _
    refine WC.cif h (by kernel_rfl) (fun hb23 h => ?_) (fun hb23 h => ?_)
    · skip
      refine WC.rs ?_
      refine va rfl rfl rfl (q_fl 4 fld_51_3 rfl rfl rfl) ?_
      refine va rfl rfl rfl (q_ldl (i := 0) (v := .string v_.val) rfl rfl Tryz.isAgg9 rfl rfl) ?_
      refine va rfl rfl rfl (q_seql rfl rfl rfl) ?_
      refine va rfl rfl rfl (q_assign (v := .bool (v_.val == ByteArray.empty)) rfl (by kernel_rfl)) ?_
      refine WR.nil ?_
      change WC _ _ _ _ _ _
      refine WC.ret ?_
      intro w hw
      obtain rfl := Option.some.inj h
      subst hF
      exact ⟨by kernel_rfl, hw.fr⟩
    · skip
      refine WC.skip ?_
      change WC _ _ _ _ _ _
      refine WC.rs ?_
      refine va rfl rfl rfl (q_fl 4 fld_51_3 rfl rfl rfl) ?_
      refine va rfl rfl rfl (q_ldl (i := 0) (v := .string v_.val) rfl rfl Tryz.isAgg9 rfl rfl) ?_
      refine va rfl rfl rfl (q_len_str rfl Tryz.underlying9 rfl) ?_
      refine va rfl rfl rfl (q_leq rfl rfl rfl) ?_
      refine va rfl rfl rfl (q_assign (v := .bool (decide (((v_.val.size : Nat) : Int) ≤ 256))) rfl (by kernel_rfl)) ?_
      refine WR.nil ?_
      change WC _ _ _ _ _ _
      refine WC.ret ?_
      intro w hw
      obtain rfl := Option.some.inj h
      subst hF
      exact ⟨by kernel_rfl, hw.fr⟩
set_option maxRecDepth 100000 in
set_option maxHeartbeats 400000 in
theorem t_firthref03_Has {Γ : Gh} {w0 : World} {Al : Option Addr} {cl : Nat} {l : List Span} (hl : Sl spanT Γ Al l) (hlc : l.length ≤ cl) (d : Dot) (hd : Dot.fits Γ  d) (hs : Sat Γ w0) {r : Bool} (h : m_firthref03_Has l d = some r) : Calls Tryz.prog 71 #[.slice Al l.length cl, .agg #[.int .i64 d.s, .int .i64 d.n]] w0 (fun e w' => e = .returned (.bool r) ∧ Fr no w0 w') := by
  refine calls_of (N := 40) (rs := [4]) (args := [.slice Al l.length cl, .agg #[.int .i64 d.s, .int .i64 d.n]]) Tryz.func71 rfl Tryz.ntmps71 Tryz.results71 rfl ?_
  obtain ⟨F, hF⟩ : ∃ F : Fm, F = ⟨no, w0, Γ⟩ := ⟨_, rfl⟩
  refine WC.here (C := CC F Γ []) ?_ (hF ▸ Cur.start0 hs)
  refine WC.rs ?_
  refine e_box (v := .agg #[.int .i64 d.s, .int .i64 d.n]) rfl rfl rfl rfl (by kernel_rfl) ?_
  intro g1
  refine va rfl rfl rfl (q_assign (v := .bool false) rfl (by kernel_rfl)) ?_
  refine WR.nil ?_
  change WC _ _ _ _ _ _
  refine WC.seq ?_
  refine WC.rs ?_
  refine va rfl rfl rfl (q_assign (v := .int .i64 0) rfl (by kernel_rfl)) ?_
  refine WR.nil ?_
  change WC _ _ _ _ _ _
  refine WC.block ?_
  refine WC.forI h (fun (i3 : Nat) (s : Unit) σ w => match s with | () => slots σ [(0, .slice Al l.length cl), (3, .pointer (some ⟨g1, 0, none⟩)), (5, .int .i64 ((i3 : Nat) : Int))] ∧ CC F Γ [[(g1, .cells #[.int .i64 d.s, .int .i64 d.n] 48 (0, 0))]] w ∧ True) ?_ ?_
  · skip
    intro w hw
    exact ⟨(sl_ (by kernel_rfl)), hw, trivial⟩
  rintro f2 i3 ⟨⟩ σ w hi4 hlt5 hge6 ⟨hsl, hw, -⟩
  refine Wpt.slots hsl ?_
  refine WC.here (C := CC F Γ [[(g1, .cells #[.int .i64 d.s, .int .i64 d.n] 48 (0, 0))]]) ?_ hw
  clear hw hsl
  refine WC.seq ?_
  refine WC.rs ?_
  refine va rfl rfl rfl (q_move (v := .int .i64 ((i3 : Nat) : Int)) rfl (by kernel_rfl)) ?_
  refine va rfl rfl rfl (q_move (v := .slice Al l.length cl) rfl (by kernel_rfl)) ?_
  refine va rfl rfl rfl (q_len_slice rfl Tryz.underlying49 rfl) ?_
  refine va rfl rfl rfl (q_lss rfl rfl rfl) ?_
  refine WR.nil ?_
  change WC _ _ _ _ _ _
  refine WC.cond (b := (decide (((i3 : Nat) : Int) < ((l.length : Nat) : Int)))) (by kernel_rfl) (fun hb7 => ?_) (fun hb7 => ?_)
  · skip
    have hl8 := ilt hb7
    have h := hlt5 hl8
    refine WC.skip ?_
    change WC _ _ _ _ _ _
    refine WC.seq ?_
    refine WC.block ?_
    refine WC.seq ?_
    refine WC.dr (by kernel_rfl) (by kernel_rfl) (fun w hw => hw.drawn _) ?_
    refine wa rfl rfl rfl (q_move (v := .slice Al l.length cl) rfl (by kernel_rfl)) ?_
    refine wa rfl rfl rfl (q_move (v := .int .i64 ((i3 : Nat) : Int)) rfl (by kernel_rfl)) ?_
    refine wa rfl rfl rfl (q_ixn (i := i3) Tryz.underlying49 Tryz.sizeOf53 rfl rfl rfl hl8 (hl.some_ hl8)) ?_
    refine wa rfl rfl rfl (q_field_addr (i3 * 3) fld_53_0 rfl rfl (hl.some_ hl8) rfl) ?_
    refine wa rfl rfl rfl (q_ld (c := 0) (v := .int .i64 (gt l i3).s) (hl.spanT_at hl8).2 rfl Tryz.isAgg3 rfl rfl) ?_
    refine wa rfl rfl rfl (q_fl 0 fld_48_0 rfl rfl rfl) ?_
    refine wa rfl rfl rfl (q_ldl (i := 0) (v := .int .i64 d.s) rfl rfl Tryz.isAgg3 rfl rfl) ?_
    refine wa rfl rfl rfl (q_eql rfl rfl rfl) ?_
    refine wa rfl rfl rfl (q_move (v := .bool ((gt l i3).s == d.s)) rfl (by kernel_rfl)) ?_
    refine wg1 rfl rfl rfl rfl rfl (fun hg9 => QV.qo (q_fl 1 fld_48_1 rfl rfl rfl)) ?_
    refine wg1 rfl rfl rfl rfl rfl (fun hg10 => QV.qo (q_ldl (i := 0) (v := .int .i64 d.n) rfl rfl Tryz.isAgg2 (gu hg10 rfl) rfl)) ?_
    refine wg1 rfl rfl rfl rfl rfl (fun hg11 => QV.qo (q_move (v := .slice Al l.length cl) rfl (by kernel_rfl))) ?_
    refine wg1 rfl rfl rfl rfl rfl (fun hg12 => QV.qo (q_move (v := .int .i64 ((i3 : Nat) : Int)) rfl (by kernel_rfl))) ?_
    refine wg1 rfl rfl rfl rfl rfl (fun hg13 => QV.qo (q_ixn (i := i3) Tryz.underlying49 Tryz.sizeOf53 rfl (gu hg13 rfl) (gu hg13 rfl) hl8 (hl.some_ hl8))) ?_
    refine wg1 rfl rfl rfl rfl rfl (fun hg14 => QV.qo (q_field_addr (i3 * 3 + 1) fld_53_1 rfl (gu hg14 rfl) (hl.some_ hl8) rfl)) ?_
    refine wg1 rfl rfl rfl rfl rfl (fun hg15 => QV.qo (q_ld (c := 1) (v := .int .i64 (gt l i3).f) (hl.spanT_at hl8).2 rfl Tryz.isAgg2 (gu hg15 rfl) rfl)) ?_
    refine wg1 rfl rfl rfl rfl rfl (fun hg16 => QV.qo (q_geq rfl (gu hg16 rfl) (gu hg16 rfl))) ?_
    refine wa rfl rfl rfl (q_pick rfl rfl (pk_and' (g := ((gt l i3).s == d.s)) (y := (decide ((gt l i3).f ≤ d.n))))) ?_
    refine wa rfl rfl rfl (q_move (v := .bool (((gt l i3).s == d.s) && (decide ((gt l i3).f ≤ d.n)))) rfl (by kernel_rfl)) ?_
    refine wg1 rfl rfl rfl rfl rfl (fun hg17 => QV.qo (q_fl 1 fld_48_1 rfl rfl rfl)) ?_
    refine wg1 rfl rfl rfl rfl rfl (fun hg18 => QV.qo (q_ldl (i := 0) (v := .int .i64 d.n) rfl rfl Tryz.isAgg2 (gu hg18 rfl) rfl)) ?_
    refine wg1 rfl rfl rfl rfl rfl (fun hg19 => QV.qo (q_move (v := .slice Al l.length cl) rfl (by kernel_rfl))) ?_
    refine wg1 rfl rfl rfl rfl rfl (fun hg20 => QV.qo (q_move (v := .int .i64 ((i3 : Nat) : Int)) rfl (by kernel_rfl))) ?_
    refine wg1 rfl rfl rfl rfl rfl (fun hg21 => QV.qo (q_ixn (i := i3) Tryz.underlying49 Tryz.sizeOf53 rfl (gu hg21 rfl) (gu hg21 rfl) hl8 (hl.some_ hl8))) ?_
    refine wg1 rfl rfl rfl rfl rfl (fun hg22 => QV.qo (q_field_addr (i3 * 3 + 2) fld_53_2 rfl (gu hg22 rfl) (hl.some_ hl8) rfl)) ?_
    refine wg1 rfl rfl rfl rfl rfl (fun hg23 => QV.qo (q_ld (c := 2) (v := .int .i64 (gt l i3).t) (hl.spanT_at hl8).2 rfl Tryz.isAgg2 (gu hg23 rfl) rfl)) ?_
    refine wg1 rfl rfl rfl rfl rfl (fun hg24 => QV.qo (q_leq rfl (gu hg24 rfl) (gu hg24 rfl))) ?_
    refine wa rfl rfl rfl (q_pick rfl rfl (pk_and' (g := (((gt l i3).s == d.s) && (decide ((gt l i3).f ≤ d.n)))) (y := (decide (d.n ≤ (gt l i3).t))))) ?_
    refine WQ.nil ?_
    change WC _ _ _ _ _ _
    refine WC.cif h (by kernel_rfl) (fun hb25 h => ?_) (fun hb25 h => ?_)
    · skip
      refine WC.rs ?_
      refine va rfl rfl rfl (q_assign (v := .bool true) rfl (by kernel_rfl)) ?_
      refine WR.nil ?_
      change WC _ _ _ _ _ _
      refine WC.ret ?_
      intro w hw
      obtain rfl := Option.some.inj h
      subst hF
      exact ⟨by kernel_rfl, hw.fr⟩
    · skip
      refine WC.skip ?_
      change WC _ _ _ _ _ _
      refine WC.region ?_
      refine va rfl rfl rfl (q_move (v := .int .i64 ((i3 : Nat) : Int)) rfl (by kernel_rfl)) ?_
      refine va rfl rfl rfl (q_add_r (r := ((i3 + 1 : Nat) : Int)) rfl rfl rfl (ctr_len hl8 hl.le)) ?_
      refine va rfl rfl rfl (q_assign (v := .int .i64 ((i3 + 1 : Nat) : Int)) rfl (by kernel_rfl)) ?_
      refine WR.nil ?_
      intro w hw
      exact ⟨hl8, (), h, (sl_ (by kernel_rfl)), hw, trivial⟩
  · skip
    have h := hge6 (ige hb7)
    refine WC.exit ?_
    change WC _ _ _ _ _ _
    refine WC.rs ?_
    refine va rfl rfl rfl (q_assign (v := .bool false) rfl (by kernel_rfl)) ?_
    refine WR.nil ?_
    change WC _ _ _ _ _ _
    refine WC.ret ?_
    intro w hw
    obtain rfl := Option.some.inj h
    subst hF
    exact ⟨by kernel_rfl, hw.fr⟩
set_option maxRecDepth 100000 in
set_option maxHeartbeats 400000 in
theorem t_firthref05_Behind {Γ : Gh} {w0 : World} {Al : Option Addr} {cl : Nat} {l : List Ver} (hl : Sl verT Γ Al l) (hlc : l.length ≤ cl) (d : Dot) (hd : Dot.fits Γ  d) (hs : Sat Γ w0) {r : Bool} (h : m_firthref05_Behind l d = some r) : Calls Tryz.prog 53 #[.slice Al l.length cl, .agg #[.int .i64 d.s, .int .i64 d.n]] w0 (fun e w' => e = .returned (.bool r) ∧ Fr no w0 w') := by
  refine calls_of (N := 19) (rs := [4]) (args := [.slice Al l.length cl, .agg #[.int .i64 d.s, .int .i64 d.n]]) Tryz.func53 rfl Tryz.ntmps53 Tryz.results53 rfl ?_
  obtain ⟨F, hF⟩ : ∃ F : Fm, F = ⟨no, w0, Γ⟩ := ⟨_, rfl⟩
  refine WC.here (C := CC F Γ []) ?_ (hF ▸ Cur.start0 hs)
  refine WC.rs ?_
  refine e_box (v := .agg #[.int .i64 d.s, .int .i64 d.n]) rfl rfl rfl rfl (by kernel_rfl) ?_
  intro g1
  refine va rfl rfl rfl (q_assign (v := .bool false) rfl (by kernel_rfl)) ?_
  refine WR.nil ?_
  change WC _ _ _ _ _ _
  refine WC.seq ?_
  refine WC.rs ?_
  refine va rfl rfl rfl (q_assign (v := .int .i64 0) rfl (by kernel_rfl)) ?_
  refine WR.nil ?_
  change WC _ _ _ _ _ _
  refine WC.block ?_
  refine WC.forI h (fun (i3 : Nat) (s : Unit) σ w => match s with | () => slots σ [(0, .slice Al l.length cl), (3, .pointer (some ⟨g1, 0, none⟩)), (5, .int .i64 ((i3 : Nat) : Int))] ∧ CC F Γ [[(g1, .cells #[.int .i64 d.s, .int .i64 d.n] 48 (0, 0))]] w ∧ True) ?_ ?_
  · skip
    intro w hw
    exact ⟨(sl_ (by kernel_rfl)), hw, trivial⟩
  rintro f2 i3 ⟨⟩ σ w hi4 hlt5 hge6 ⟨hsl, hw, -⟩
  refine Wpt.slots hsl ?_
  refine WC.here (C := CC F Γ [[(g1, .cells #[.int .i64 d.s, .int .i64 d.n] 48 (0, 0))]]) ?_ hw
  clear hw hsl
  refine WC.seq ?_
  refine WC.rs ?_
  refine va rfl rfl rfl (q_move (v := .int .i64 ((i3 : Nat) : Int)) rfl (by kernel_rfl)) ?_
  refine va rfl rfl rfl (q_move (v := .slice Al l.length cl) rfl (by kernel_rfl)) ?_
  refine va rfl rfl rfl (q_len_slice rfl Tryz.underlying39 rfl) ?_
  refine va rfl rfl rfl (q_lss rfl rfl rfl) ?_
  refine WR.nil ?_
  change WC _ _ _ _ _ _
  refine WC.cond (b := (decide (((i3 : Nat) : Int) < ((l.length : Nat) : Int)))) (by kernel_rfl) (fun hb7 => ?_) (fun hb7 => ?_)
  · skip
    have hl8 := ilt hb7
    have h := hlt5 hl8
    refine WC.skip ?_
    change WC _ _ _ _ _ _
    refine WC.seq ?_
    refine WC.block ?_
    refine WC.seq ?_
    refine WC.dr (by kernel_rfl) (by kernel_rfl) (fun w hw => hw.drawn _) ?_
    refine wa rfl rfl rfl (q_move (v := .slice Al l.length cl) rfl (by kernel_rfl)) ?_
    refine wa rfl rfl rfl (q_move (v := .int .i64 ((i3 : Nat) : Int)) rfl (by kernel_rfl)) ?_
    refine wa rfl rfl rfl (q_ixn (i := i3) Tryz.underlying39 Tryz.sizeOf51 rfl rfl rfl hl8 (hl.some_ hl8)) ?_
    refine wa rfl rfl rfl (q_field_addr (i3 * 5 + 2) fld_51_1 rfl rfl (hl.some_ hl8) rfl) ?_
    obtain ⟨A9, c10, hx11⟩ := hl.verT_at i3
    refine wa rfl rfl rfl (q_ld (c := 2) (v := .slice A9 ((gt l i3).past).length c10) (hx11 hl8).2 rfl Tryz.isAgg49 rfl rfl) ?_
    refine wa rfl rfl rfl (q_ldla (i := 0) (vs := [.int .i64 d.s, .int .i64 d.n]) rfl rfl Tryz.isAgg48 Tryz.sizeOf48 rfl rfl) ?_
    obtain ⟨z12, hz13, h⟩ := bnd h
    refine wc rfl rfl rfl (q_call (call_run Tryz.call71 rfl rfl (by kernel_rfl)) (fun w hw => t_firthref03_Has (Γ := Gh.all w) ((hx11 hl8).1.2.2.1.2.mono hw.sat.le_all) (hx11 hl8).1.2.2.1.1 d hd (Sat.all w) hz13)) ?_
    refine WQ.nil ?_
    change WC _ _ _ _ _ _
    refine WC.cif h (by kernel_rfl) (fun hb14 h => ?_) (fun hb14 h => ?_)
    · skip
      refine WC.rs ?_
      refine va rfl rfl rfl (q_assign (v := .bool true) rfl (by kernel_rfl)) ?_
      refine WR.nil ?_
      change WC _ _ _ _ _ _
      refine WC.ret ?_
      intro w hw
      obtain rfl := Option.some.inj h
      subst hF
      exact ⟨by kernel_rfl, hw.fr⟩
    · skip
      refine WC.skip ?_
      change WC _ _ _ _ _ _
      refine WC.region ?_
      refine va rfl rfl rfl (q_move (v := .int .i64 ((i3 : Nat) : Int)) rfl (by kernel_rfl)) ?_
      refine va rfl rfl rfl (q_add_r (r := ((i3 + 1 : Nat) : Int)) rfl rfl rfl (ctr_len hl8 hl.le)) ?_
      refine va rfl rfl rfl (q_assign (v := .int .i64 ((i3 + 1 : Nat) : Int)) rfl (by kernel_rfl)) ?_
      refine WR.nil ?_
      intro w hw
      exact ⟨hl8, (), h, (sl_ (by kernel_rfl)), hw, trivial⟩
  · skip
    have h := hge6 (ige hb7)
    refine WC.exit ?_
    change WC _ _ _ _ _ _
    refine WC.rs ?_
    refine va rfl rfl rfl (q_assign (v := .bool false) rfl (by kernel_rfl)) ?_
    refine WR.nil ?_
    change WC _ _ _ _ _ _
    refine WC.ret ?_
    intro w hw
    obtain rfl := Option.some.inj h
    subst hF
    exact ⟨by kernel_rfl, hw.fr⟩
set_option maxRecDepth 100000 in
set_option maxHeartbeats 400000 in
theorem t_firthref05_Less {Γ : Gh} {w0 : World} (a : Dot) (ha : Dot.fits Γ  a) (b : Dot) (hb : Dot.fits Γ  b) (hs : Sat Γ w0) {r : Bool} (h : m_firthref05_Less a b = some r) : Calls Tryz.prog 54 #[.agg #[.int .i64 a.s, .int .i64 a.n], .agg #[.int .i64 b.s, .int .i64 b.n]] w0 (fun e w' => e = .returned (.bool r) ∧ Fr no w0 w') := by
  refine calls_of (N := 20) (rs := [4]) (args := [.agg #[.int .i64 a.s, .int .i64 a.n], .agg #[.int .i64 b.s, .int .i64 b.n]]) Tryz.func54 rfl Tryz.ntmps54 Tryz.results54 rfl ?_
  obtain ⟨F, hF⟩ : ∃ F : Fm, F = ⟨no, w0, Γ⟩ := ⟨_, rfl⟩
  refine WC.here (C := CC F Γ []) ?_ (hF ▸ Cur.start0 hs)
  refine WC.rs ?_
  refine e_box (v := .agg #[.int .i64 a.s, .int .i64 a.n]) rfl rfl rfl rfl (by kernel_rfl) ?_
  intro g1
  refine e_box (v := .agg #[.int .i64 b.s, .int .i64 b.n]) rfl rfl rfl rfl (by kernel_rfl) ?_
  intro g2
  refine va rfl rfl rfl (q_assign (v := .bool false) rfl (by kernel_rfl)) ?_
  refine WR.nil ?_
  change WC _ _ _ _ _ _
  refine WC.seq ?_
  refine WC.rs ?_
  refine va rfl rfl rfl (q_fl 0 fld_48_0 rfl rfl rfl) ?_
  refine va rfl rfl rfl (q_ldl (i := 1) (v := .int .i64 a.s) rfl rfl Tryz.isAgg3 rfl rfl) ?_
  refine va rfl rfl rfl (q_fl 0 fld_48_0 rfl rfl rfl) ?_
  refine va rfl rfl rfl (q_ldl (i := 0) (v := .int .i64 b.s) rfl rfl Tryz.isAgg3 rfl rfl) ?_
  refine va rfl rfl rfl (q_neq rfl rfl rfl) ?_
  refine WR.nil ?_
  change WC _ _ _ _ _ _
  refine WC.cif h (by kernel_rfl) (fun hb3 h => ?_) (fun hb3 h => ?_)
  · skip
    refine WC.rs ?_
    refine va rfl rfl rfl (q_fl 0 fld_48_0 rfl rfl rfl) ?_
    refine va rfl rfl rfl (q_ldl (i := 1) (v := .int .i64 a.s) rfl rfl Tryz.isAgg3 rfl rfl) ?_
    refine va rfl rfl rfl (q_fl 0 fld_48_0 rfl rfl rfl) ?_
    refine va rfl rfl rfl (q_ldl (i := 0) (v := .int .i64 b.s) rfl rfl Tryz.isAgg3 rfl rfl) ?_
    refine va rfl rfl rfl (q_lss rfl rfl rfl) ?_
    refine va rfl rfl rfl (q_assign (v := .bool (decide (a.s < b.s))) rfl (by kernel_rfl)) ?_
    refine WR.nil ?_
    change WC _ _ _ _ _ _
    refine WC.ret ?_
    intro w hw
    obtain rfl := Option.some.inj h
    subst hF
    exact ⟨by kernel_rfl, hw.fr⟩
  · skip
    refine WC.skip ?_
    change WC _ _ _ _ _ _
    refine WC.rs ?_
    refine va rfl rfl rfl (q_fl 1 fld_48_1 rfl rfl rfl) ?_
    refine va rfl rfl rfl (q_ldl (i := 1) (v := .int .i64 a.n) rfl rfl Tryz.isAgg2 rfl rfl) ?_
    refine va rfl rfl rfl (q_fl 1 fld_48_1 rfl rfl rfl) ?_
    refine va rfl rfl rfl (q_ldl (i := 0) (v := .int .i64 b.n) rfl rfl Tryz.isAgg2 rfl rfl) ?_
    refine va rfl rfl rfl (q_lss rfl rfl rfl) ?_
    refine va rfl rfl rfl (q_assign (v := .bool (decide (a.n < b.n))) rfl (by kernel_rfl)) ?_
    refine WR.nil ?_
    change WC _ _ _ _ _ _
    refine WC.ret ?_
    intro w hw
    obtain rfl := Option.some.inj h
    subst hF
    exact ⟨by kernel_rfl, hw.fr⟩
set_option maxRecDepth 100000 in
set_option maxHeartbeats 400000 in
theorem t_firthref05_Right {Γ : Gh} {w0 : World} {Al : Option Addr} {cl : Nat} {l : List Ver} (hl : Sl verT Γ Al l) (hlc : l.length ≤ cl) (hs : Sat Γ w0) {r : Bool} (h : m_firthref05_Right l = some r) : Calls Tryz.prog 37 #[.slice Al l.length cl] w0 (fun e w' => e = .returned (.bool r) ∧ Fr no w0 w') := by
  refine calls_of (N := 45) (rs := [2]) (args := [.slice Al l.length cl]) Tryz.func37 rfl Tryz.ntmps37 Tryz.results37 rfl ?_
  obtain ⟨F, hF⟩ : ∃ F : Fm, F = ⟨no, w0, Γ⟩ := ⟨_, rfl⟩
  refine WC.here (C := CC F Γ []) ?_ (hF ▸ Cur.start0 hs)
  refine WC.rs ?_
  refine va rfl rfl rfl (q_assign (v := .bool false) rfl (by kernel_rfl)) ?_
  refine WR.nil ?_
  change WC _ _ _ _ _ _
  refine WC.seq ?_
  refine WC.rs ?_
  refine va rfl rfl rfl (q_move (v := .slice Al l.length cl) rfl (by kernel_rfl)) ?_
  refine va rfl rfl rfl (q_len_slice rfl Tryz.underlying39 rfl) ?_
  refine va rfl rfl rfl (q_gtr rfl rfl rfl) ?_
  refine WR.nil ?_
  change WC _ _ _ _ _ _
  refine WC.cif h (by kernel_rfl) (fun hb1 h => ?_) (fun hb1 h => ?_)
  · skip
    refine WC.rs ?_
    refine va rfl rfl rfl (q_assign (v := .bool false) rfl (by kernel_rfl)) ?_
    refine WR.nil ?_
    change WC _ _ _ _ _ _
    refine WC.ret ?_
    intro w hw
    obtain rfl := Option.some.inj h
    subst hF
    exact ⟨by kernel_rfl, hw.fr⟩
  · skip
    refine WC.skip ?_
    change WC _ _ _ _ _ _
    refine WC.seq ?_
    refine WC.rs ?_
    refine va rfl rfl rfl (q_assign (v := .int .i64 0) rfl (by kernel_rfl)) ?_
    refine WR.nil ?_
    change WC _ _ _ _ _ _
    refine WC.block ?_
    refine WC.forI h (fun (i3 : Nat) (s : Unit) σ w => match s with | () => slots σ [(0, .slice Al l.length cl), (3, .int .i64 ((i3 : Nat) : Int))] ∧ CC F Γ [] w ∧ True) ?_ ?_
    · skip
      intro w hw
      exact ⟨(sl_ (by kernel_rfl)), hw, trivial⟩
    rintro f2 i3 ⟨⟩ σ w hi4 hlt5 hge6 ⟨hsl, hw, -⟩
    refine Wpt.slots hsl ?_
    refine WC.here (C := CC F Γ []) ?_ hw
    clear hw hsl
    refine WC.seq ?_
    refine WC.rs ?_
    refine va rfl rfl rfl (q_move (v := .int .i64 ((i3 : Nat) : Int)) rfl (by kernel_rfl)) ?_
    refine va rfl rfl rfl (q_move (v := .slice Al l.length cl) rfl (by kernel_rfl)) ?_
    refine va rfl rfl rfl (q_len_slice rfl Tryz.underlying39 rfl) ?_
    refine va rfl rfl rfl (q_lss rfl rfl rfl) ?_
    refine WR.nil ?_
    change WC _ _ _ _ _ _
    refine WC.cond (b := (decide (((i3 : Nat) : Int) < ((l.length : Nat) : Int)))) (by kernel_rfl) (fun hb7 => ?_) (fun hb7 => ?_)
    · skip
      have hl8 := ilt hb7
      have h := hlt5 hl8
      refine WC.skip ?_
      change WC _ _ _ _ _ _
      refine WC.seq ?_
      refine WC.block ?_
      refine WC.seq ?_
      refine WC.rs ?_
      refine va rfl rfl rfl (q_move (v := .slice Al l.length cl) rfl (by kernel_rfl)) ?_
      refine va rfl rfl rfl (q_move (v := .int .i64 ((i3 : Nat) : Int)) rfl (by kernel_rfl)) ?_
      refine va rfl rfl rfl (q_ixn (i := i3) Tryz.underlying39 Tryz.sizeOf51 rfl rfl rfl hl8 (hl.some_ hl8)) ?_
      obtain ⟨A9, c10, hx11⟩ := hl.verT_at i3
      refine va rfl rfl rfl (q_lda (c := 0) (vs := [.int .i64 (gt l i3).dot.s, .int .i64 (gt l i3).dot.n, .slice A9 ((gt l i3).past).length c10, .bool (gt l i3).gone, .string (gt l i3).val]) (hx11 hl8).2 rfl Tryz.isAgg51 Tryz.sizeOf51 rfl rfl rfl) ?_
      obtain ⟨z12, hz13, h⟩ := bnd h
      refine vc rfl rfl rfl (q_call (call_run Tryz.call52 rfl rfl (by kernel_rfl)) (fun w hw => t_firthref05_RightOne (Γ := Gh.all w) (gt l i3) (Ver.fits_mono (hx11 hl8).1 hw.sat.le_all) (Sat.all w) hz13)) ?_
      refine va rfl rfl rfl (q_not rfl rfl) ?_
      refine va rfl rfl rfl (q_move (v := .bool (!z12)) rfl (by kernel_rfl)) ?_
      refine vg0 rfl rfl rfl rfl rfl (fun hg14 => QV.qo (q_move (v := .slice Al l.length cl) rfl (by kernel_rfl))) ?_
      refine vg0 rfl rfl rfl rfl rfl (fun hg15 => QV.qo (q_move (v := .slice Al l.length cl) rfl (by kernel_rfl))) ?_
      refine vg0 rfl rfl rfl rfl rfl (fun hg16 => QV.qo (q_move (v := .int .i64 ((i3 : Nat) : Int)) rfl (by kernel_rfl))) ?_
      refine vg0 rfl rfl rfl rfl rfl (fun hg17 => QV.qo (q_ixn (i := i3) Tryz.underlying39 Tryz.sizeOf51 rfl (gu hg17 rfl) (gu hg17 rfl) hl8 (hl.some_ hl8))) ?_
      refine vg0 rfl rfl rfl rfl rfl (fun hg18 => QV.qo (q_field_addr (i3 * 5) fld_51_0 rfl (gu hg18 rfl) (hl.some_ hl8) rfl)) ?_
      refine vg0 rfl rfl rfl rfl rfl (fun hg19 => QV.qo (q_lda (c := 0) (vs := [.int .i64 (gt l i3).dot.s, .int .i64 (gt l i3).dot.n]) (hx11 hl8).2 rfl Tryz.isAgg48 Tryz.sizeOf48 (gu hg19 rfl) rfl rfl)) ?_
      obtain ⟨z21, hz22, h⟩ := bnd h
      refine vg0 rfl rfl rfl rfl rfl (fun hg20 => (q_call (call_run Tryz.call53 rfl rfl (args2 (gu hg20 rfl) (gu hg20 rfl))) (fun w hw => t_firthref05_Behind (Γ := Gh.all w) (hl.mono hw.sat.le_all) hlc ((gt l i3).dot) ⟨(hx11 hl8).1.1, (hx11 hl8).1.2.1⟩ (Sat.all w) (gc_of hz22 hg20)))) ?_
      refine va rfl rfl rfl (q_pick rfl rfl (pk_or' (g := (!z12)) (y := z21))) ?_
      refine WR.nil ?_
      change WC _ _ _ _ _ _
      refine WC.cif h (by kernel_rfl) (fun hb23 h => ?_) (fun hb23 h => ?_)
      · skip
        refine WC.rs ?_
        refine va rfl rfl rfl (q_assign (v := .bool false) rfl (by kernel_rfl)) ?_
        refine WR.nil ?_
        change WC _ _ _ _ _ _
        refine WC.ret ?_
        intro w hw
        obtain rfl := Option.some.inj h
        subst hF
        exact ⟨by kernel_rfl, hw.fr⟩
      · skip
        refine WC.skip ?_
        change WC _ _ _ _ _ _
        refine WC.seq ?_
        refine WC.dr (by kernel_rfl) (by kernel_rfl) (fun w hw => hw.drawn _) ?_
        refine wa rfl rfl rfl (q_move (v := .int .i64 ((i3 : Nat) : Int)) rfl (by kernel_rfl)) ?_
        refine wa rfl rfl rfl (q_gtr rfl rfl rfl) ?_
        refine wa rfl rfl rfl (q_move (v := .bool (decide (0 < ((i3 : Nat) : Int)))) rfl (by kernel_rfl)) ?_
        refine wg1 rfl rfl rfl rfl rfl (fun hg24 => QV.qo (q_move (v := .slice Al l.length cl) rfl (by kernel_rfl))) ?_
        refine wg1 rfl rfl rfl rfl rfl (fun hg25 => QV.qo (q_move (v := .int .i64 ((i3 : Nat) : Int)) rfl (by kernel_rfl))) ?_
        refine wg1 rfl rfl rfl rfl rfl (fun hg26 => QV.qo (q_sub rfl (gu hg26 rfl) rfl)) ?_
        obtain ⟨hk28, h⟩ := chk_some h
        refine wg1 rfl rfl rfl rfl rfl (fun hg27 => QV.qo (q_ix Tryz.underlying39 Tryz.sizeOf51 rfl (gu hg27 rfl) (gu hg27 rfl) (imp_of hk28 hg27) (hl.some_ (inb_lt (imp_of hk28 hg27))))) ?_
        refine wg1 rfl rfl rfl rfl rfl (fun hg29 => QV.qo (q_field_addr (((w64 (((i3 : Nat) : Int) - 1)).toNat) * 5) fld_51_0 rfl (gu hg29 rfl) (hl.some_ (inb_lt (imp_of hk28 hg29))) rfl)) ?_
        obtain ⟨A31, c32, hx33⟩ := hl.verT_at ((w64 (((i3 : Nat) : Int) - 1)).toNat)
        refine wg1 rfl rfl rfl rfl rfl (fun hg30 => QV.qo (q_lda (c := 0) (vs := [.int .i64 (gt l ((w64 (((i3 : Nat) : Int) - 1)).toNat)).dot.s, .int .i64 (gt l ((w64 (((i3 : Nat) : Int) - 1)).toNat)).dot.n]) (hx33 (inb_lt (imp_of hk28 hg30))).2 rfl Tryz.isAgg48 Tryz.sizeOf48 (gu hg30 rfl) rfl rfl)) ?_
        refine wg1 rfl rfl rfl rfl rfl (fun hg34 => QV.qo (q_move (v := .slice Al l.length cl) rfl (by kernel_rfl))) ?_
        refine wg1 rfl rfl rfl rfl rfl (fun hg35 => QV.qo (q_move (v := .int .i64 ((i3 : Nat) : Int)) rfl (by kernel_rfl))) ?_
        refine wg1 rfl rfl rfl rfl rfl (fun hg36 => QV.qo (q_ixn (i := i3) Tryz.underlying39 Tryz.sizeOf51 rfl (gu hg36 rfl) (gu hg36 rfl) hl8 (hl.some_ hl8))) ?_
        refine wg1 rfl rfl rfl rfl rfl (fun hg37 => QV.qo (q_field_addr (i3 * 5) fld_51_0 rfl (gu hg37 rfl) (hl.some_ hl8) rfl)) ?_
        refine wg1 rfl rfl rfl rfl rfl (fun hg38 => QV.qo (q_lda (c := 0) (vs := [.int .i64 (gt l i3).dot.s, .int .i64 (gt l i3).dot.n]) (hx11 hl8).2 rfl Tryz.isAgg48 Tryz.sizeOf48 (gu hg38 rfl) rfl rfl)) ?_
        obtain ⟨z40, hz41, h⟩ := bnd h
        refine wg1 rfl rfl rfl rfl rfl (fun hg39 => (q_call (call_run Tryz.call54 rfl rfl (args2 (gu hg39 rfl) (gu hg39 rfl))) (fun w hw => t_firthref05_Less (Γ := Gh.all w) ((gt l ((w64 (((i3 : Nat) : Int) - 1)).toNat)).dot) ⟨(hx33 (inb_lt (imp_of hk28 hg39))).1.1, (hx33 (inb_lt (imp_of hk28 hg39))).1.2.1⟩ ((gt l i3).dot) ⟨(hx11 hl8).1.1, (hx11 hl8).1.2.1⟩ (Sat.all w) (gc_of hz41 hg39)))) ?_
        refine wg1 rfl rfl rfl rfl rfl (fun hg42 => QV.qo (q_not rfl (gu hg42 rfl))) ?_
        refine wa rfl rfl rfl (q_pick rfl rfl (pk_and' (g := (decide (0 < ((i3 : Nat) : Int)))) (y := (!z40)))) ?_
        refine WQ.nil ?_
        change WC _ _ _ _ _ _
        refine WC.cif h (by kernel_rfl) (fun hb43 h => ?_) (fun hb43 h => ?_)
        · skip
          refine WC.rs ?_
          refine va rfl rfl rfl (q_assign (v := .bool false) rfl (by kernel_rfl)) ?_
          refine WR.nil ?_
          change WC _ _ _ _ _ _
          refine WC.ret ?_
          intro w hw
          obtain rfl := Option.some.inj h
          subst hF
          exact ⟨by kernel_rfl, hw.fr⟩
        · skip
          refine WC.skip ?_
          change WC _ _ _ _ _ _
          refine WC.region ?_
          refine va rfl rfl rfl (q_move (v := .int .i64 ((i3 : Nat) : Int)) rfl (by kernel_rfl)) ?_
          refine va rfl rfl rfl (q_add_r (r := ((i3 + 1 : Nat) : Int)) rfl rfl rfl (ctr_len hl8 hl.le)) ?_
          refine va rfl rfl rfl (q_assign (v := .int .i64 ((i3 + 1 : Nat) : Int)) rfl (by kernel_rfl)) ?_
          refine WR.nil ?_
          intro w hw
          exact ⟨hl8, (), h, (sl_ (by kernel_rfl)), hw, trivial⟩
    · skip
      have h := hge6 (ige hb7)
      refine WC.exit ?_
      change WC _ _ _ _ _ _
      refine WC.rs ?_
      refine va rfl rfl rfl (q_assign (v := .bool true) rfl (by kernel_rfl)) ?_
      refine WR.nil ?_
      change WC _ _ _ _ _ _
      refine WC.ret ?_
      intro w hw
      obtain rfl := Option.some.inj h
      subst hF
      exact ⟨by kernel_rfl, hw.fr⟩
set_option maxRecDepth 100000 in
set_option maxHeartbeats 400000 in
theorem t_firthref06_RightRec {Γ : Gh} {w0 : World} {Ar_1 : Option Addr} {cr_1 : Nat} (r_ : Rec) (hr_ : Rec.fits Γ Ar_1 cr_1 r_) (hs : Sat Γ w0) {r : Bool} (h : m_firthref06_RightRec r_ = some r) : Calls Tryz.prog 15 #[.agg #[.string r_.key, .slice Ar_1 r_.vers.length cr_1]] w0 (fun e w' => e = .returned (.bool r) ∧ Fr no w0 w') := by
  refine calls_of (N := 17) (rs := [2]) (args := [.agg #[.string r_.key, .slice Ar_1 r_.vers.length cr_1]]) Tryz.func15 rfl Tryz.ntmps15 Tryz.results15 rfl ?_
  obtain ⟨F, hF⟩ : ∃ F : Fm, F = ⟨no, w0, Γ⟩ := ⟨_, rfl⟩
  refine WC.here (C := CC F Γ []) ?_ (hF ▸ Cur.start0 hs)
  refine WC.rs ?_
  refine e_box (v := .agg #[.string r_.key, .slice Ar_1 r_.vers.length cr_1]) rfl rfl rfl rfl (by kernel_rfl) ?_
  intro g1
  refine va rfl rfl rfl (q_assign (v := .bool false) rfl (by kernel_rfl)) ?_
  refine WR.nil ?_
  change WC _ _ _ _ _ _
  refine WC.rs ?_
  refine va rfl rfl rfl (q_fl 0 fld_41_0 rfl rfl rfl) ?_
  refine va rfl rfl rfl (q_ldl (i := 0) (v := .string r_.key) rfl rfl Tryz.isAgg9 rfl rfl) ?_
  refine va rfl rfl rfl (q_sneq rfl rfl rfl) ?_
  refine va rfl rfl rfl (q_move (v := .bool (r_.key != ByteArray.empty)) rfl (by kernel_rfl)) ?_
  refine vg1 rfl rfl rfl rfl rfl (fun hg2 => QV.qo (q_fl 0 fld_41_0 rfl rfl rfl)) ?_
  refine vg1 rfl rfl rfl rfl rfl (fun hg3 => QV.qo (q_ldl (i := 0) (v := .string r_.key) rfl rfl Tryz.isAgg9 (gu hg3 rfl) rfl)) ?_
  refine vg1 rfl rfl rfl rfl rfl (fun hg4 => QV.qo (q_len_str rfl Tryz.underlying9 (gu hg4 rfl))) ?_
  refine vg1 rfl rfl rfl rfl rfl (fun hg5 => QV.qo (q_leq rfl (gu hg5 rfl) rfl)) ?_
  refine va rfl rfl rfl (q_pick rfl rfl (pk_and' (g := (r_.key != ByteArray.empty)) (y := (decide (((r_.key.size : Nat) : Int) ≤ 32))))) ?_
  refine va rfl rfl rfl (q_move (v := .bool ((r_.key != ByteArray.empty) && (decide (((r_.key.size : Nat) : Int) ≤ 32)))) rfl (by kernel_rfl)) ?_
  refine vg1 rfl rfl rfl rfl rfl (fun hg6 => QV.qo (q_fl 1 fld_41_1 rfl rfl rfl)) ?_
  refine vg1 rfl rfl rfl rfl rfl (fun hg7 => QV.qo (q_ldl (i := 0) (v := .slice Ar_1 r_.vers.length cr_1) rfl rfl Tryz.isAgg39 (gu hg7 rfl) rfl)) ?_
  obtain ⟨z9, hz10, h⟩ := bnd h
  refine vg1 rfl rfl rfl rfl rfl (fun hg8 => (q_call (call_run Tryz.call37 rfl rfl (args1 (gu hg8 rfl))) (fun w hw => t_firthref05_Right (Γ := Gh.all w) (hr_.2.2.mono hw.sat.le_all) hr_.2.1 (Sat.all w) (gc_of hz10 hg8)))) ?_
  refine va rfl rfl rfl (q_pick rfl rfl (pk_and' (g := ((r_.key != ByteArray.empty) && (decide (((r_.key.size : Nat) : Int) ≤ 32)))) (y := z9))) ?_
  refine va rfl rfl rfl (q_assign (v := .bool (((r_.key != ByteArray.empty) && (decide (((r_.key.size : Nat) : Int) ≤ 32))) && z9)) rfl (by kernel_rfl)) ?_
  refine WR.nil ?_
  change WC _ _ _ _ _ _
  refine WC.ret ?_
  intro w hw
  obtain rfl := Option.some.inj h
  subst hF
  exact ⟨by kernel_rfl, hw.fr⟩
abbrev r_firthref10_With (r : List Rec) (U : List Rowb) (Γ : Gh) (v : Value) : Prop := ∃ (A0 : Option Addr), ∃ (c0 : Nat), ∃ (row0 : Rowb), v = .slice A0 r.length c0 ∧ U = [row0] ∧ Own recT Γ 41 row0 A0 c0 r ∧ True
set_option maxRecDepth 100000 in
set_option maxHeartbeats 400000 in
theorem t_firthref10_With {Γ : Gh} {w0 : World} {Al : Option Addr} {cl : Nat} {l : List Rec} (hl : Sl recT Γ Al l) (hlc : l.length ≤ cl) {Ar_1 : Option Addr} {cr_1 : Nat} (r_ : Rec) (hr_ : Rec.fits Γ Ar_1 cr_1 r_) (hp : Pre [] Γ w0) {r : List Rec} (h : m_firthref10_With l r_ = some r) : Calls Tryz.prog 18 #[.slice Al l.length cl, .agg #[.string r_.key, .slice Ar_1 r_.vers.length cr_1]] w0 (Outc Γ [] w0 (r_firthref10_With r)) := by
  refine calls_of (N := 56) (rs := [4]) (args := [.slice Al l.length cl, .agg #[.string r_.key, .slice Ar_1 r_.vers.length cr_1]]) Tryz.func18 rfl Tryz.ntmps18 Tryz.results18 rfl ?_
  obtain ⟨F, hF⟩ : ∃ F : Fm, F = ⟨ids [], w0, Γ⟩ := ⟨_, rfl⟩
  refine WC.here (C := CC F Γ []) ?_ (hF ▸ hp.start)
  refine WC.rs ?_
  refine e_box (v := .agg #[.string r_.key, .slice Ar_1 r_.vers.length cr_1]) rfl rfl rfl rfl (by kernel_rfl) ?_
  intro g1
  refine va rfl rfl rfl (q_assign (v := .slice none 0 0) rfl (by kernel_rfl)) ?_
  refine WR.nil ?_
  change WC _ _ _ _ _ _
  refine WC.rs ?_
  refine va rfl rfl rfl (q_assign (v := .slice none 0 0) rfl (by kernel_rfl)) ?_
  refine WR.nil ?_
  change WC _ _ _ _ _ _
  refine WC.rs ?_
  refine va rfl rfl rfl (q_fl 1 fld_41_1 rfl rfl rfl) ?_
  refine va rfl rfl rfl (q_ldl (i := 0) (v := .slice Ar_1 r_.vers.length cr_1) rfl rfl Tryz.isAgg39 rfl rfl) ?_
  refine va rfl rfl rfl (q_len_slice rfl Tryz.underlying39 rfl) ?_
  refine va rfl rfl rfl (q_eql rfl rfl rfl) ?_
  refine va rfl rfl rfl (q_assign (v := .bool (((r_.vers.length : Nat) : Int) == 0)) rfl (by kernel_rfl)) ?_
  refine WR.nil ?_
  change WC _ _ _ _ _ _
  refine WC.seq ?_
  refine WC.rs ?_
  refine va rfl rfl rfl (q_assign (v := .int .i64 0) rfl (by kernel_rfl)) ?_
  refine WR.nil ?_
  change WC _ _ _ _ _ _
  refine WC.block ?_
  refine WC.forI h (fun (i9 : Nat) (s : (List Rec) × Bool) σ w => match s with | (out_2, laid_7) => ∃ (A3 : Option Addr), ∃ (c4 : Nat), ∃ (row5 : Rowb), slots σ [(0, .slice Al l.length cl), (3, .pointer (some ⟨g1, 0, none⟩)), (5, .slice A3 out_2.length c4), (6, .bool laid_7), (7, .int .i64 ((i9 : Nat) : Int))] ∧ CC F Γ [row5, [(g1, .cells #[.string r_.key, .slice Ar_1 r_.vers.length cr_1] 41 (0, 0))]] w ∧ Own recT Γ 41 row5 A3 c4 out_2 ∧ True) ?_ ?_
  · skip
    intro w hw
    have hw := hw.pad
    exact ⟨none, 0, [], (sl_ (by kernel_rfl)), hw, (Own.nil recT _ 41), trivial⟩
  rintro f8 i9 ⟨out_2, laid_7⟩ σ w hi10 hlt11 hge12 ⟨A3, c4, row5, hsl, hw, ho6, -⟩
  refine Wpt.slots hsl ?_
  refine WC.here (C := CC F Γ [row5, [(g1, .cells #[.string r_.key, .slice Ar_1 r_.vers.length cr_1] 41 (0, 0))]]) ?_ hw
  clear hw hsl
  refine WC.seq ?_
  refine WC.rs ?_
  refine va rfl rfl rfl (q_move (v := .int .i64 ((i9 : Nat) : Int)) rfl (by kernel_rfl)) ?_
  refine va rfl rfl rfl (q_move (v := .slice Al l.length cl) rfl (by kernel_rfl)) ?_
  refine va rfl rfl rfl (q_len_slice rfl Tryz.underlying22 rfl) ?_
  refine va rfl rfl rfl (q_lss rfl rfl rfl) ?_
  refine WR.nil ?_
  change WC _ _ _ _ _ _
  refine WC.cond (b := (decide (((i9 : Nat) : Int) < ((l.length : Nat) : Int)))) (by kernel_rfl) (fun hb13 => ?_) (fun hb13 => ?_)
  · skip
    have hl14 := ilt hb13
    have h := hlt11 hl14
    refine WC.skip ?_
    change WC _ _ _ _ _ _
    refine WC.cut (fun σ w => ∃ (out_15 : List Rec), ∃ (laid_20 : Bool), ∃ (A16 : Option Addr), ∃ (c17 : Nat), ∃ (row18 : Rowb), m_firthref10_With_j11 f8 out_15 laid_20 = some r ∧ slots σ [(0, .slice Al l.length cl), (3, .pointer (some ⟨g1, 0, none⟩)), (5, .slice A16 out_15.length c17), (6, .bool laid_20), (7, .int .i64 ((i9 : Nat) : Int))] ∧ CC F Γ [row18, [(g1, .cells #[.string r_.key, .slice Ar_1 r_.vers.length cr_1] 41 (0, 0))]] w ∧ Own recT Γ 41 row18 A16 c17 out_15 ∧ True) ?_ ?_
    · skip
      refine WC.block ?_
      refine WC.seq ?_
      refine WC.seq ?_
      refine WC.dr (by kernel_rfl) (by kernel_rfl) (fun w hw => hw.drawn _) ?_
      refine wa rfl rfl rfl (q_move (v := .slice Al l.length cl) rfl (by kernel_rfl)) ?_
      refine wa rfl rfl rfl (q_move (v := .int .i64 ((i9 : Nat) : Int)) rfl (by kernel_rfl)) ?_
      refine wa rfl rfl rfl (q_ixn (i := i9) Tryz.underlying22 Tryz.sizeOf41 rfl rfl rfl hl14 (hl.some_ hl14)) ?_
      refine wa rfl rfl rfl (q_field_addr (i9 * 2) fld_41_0 rfl rfl (hl.some_ hl14) rfl) ?_
      obtain ⟨A21, c22, hx23⟩ := hl.recT_at i9
      refine wa rfl rfl rfl (q_ld (c := 0) (v := .string (gt l i9).key) (hx23 hl14).2 rfl Tryz.isAgg9 rfl rfl) ?_
      refine wa rfl rfl rfl (q_fl 0 fld_41_0 rfl rfl rfl) ?_
      refine wa rfl rfl rfl (q_ldl (i := 1) (v := .string r_.key) rfl rfl Tryz.isAgg9 rfl rfl) ?_
      refine wa rfl rfl rfl (q_seql rfl rfl rfl) ?_
      refine WQ.nil ?_
      change WC _ _ _ _ _ _
      refine WC.cif h (by kernel_rfl) (fun hb24 h => ?_) (fun hb24 h => ?_)
      · skip
        refine WC.exit ?_
        intro w hw
        exact ⟨out_2, laid_7, A3, c4, row5, h, (sl_ (by kernel_rfl)), hw, ho6, trivial⟩
      · skip
        refine WC.skip ?_
        change WC _ _ _ _ _ _
        refine WC.cut (fun σ w => ∃ (out_25 : List Rec), ∃ (laid_30 : Bool), ∃ (A26 : Option Addr), ∃ (c27 : Nat), ∃ (row28 : Rowb), m_firthref10_With_j13 l f8 i9 out_25 laid_30 = some r ∧ slots σ [(0, .slice Al l.length cl), (3, .pointer (some ⟨g1, 0, none⟩)), (5, .slice A26 out_25.length c27), (6, .bool laid_30), (7, .int .i64 ((i9 : Nat) : Int))] ∧ CC F Γ [row28, [(g1, .cells #[.string r_.key, .slice Ar_1 r_.vers.length cr_1] 41 (0, 0))]] w ∧ Own recT Γ 41 row28 A26 c27 out_25 ∧ True) ?_ ?_
        · skip
          refine WC.seq ?_
          refine WC.dr (by kernel_rfl) (by kernel_rfl) (fun w hw => hw.drawn _) ?_
          refine wa rfl rfl rfl (q_move (v := .bool laid_7) rfl (by kernel_rfl)) ?_
          refine wa rfl rfl rfl (q_not rfl rfl) ?_
          refine wa rfl rfl rfl (q_move (v := .bool (!laid_7)) rfl (by kernel_rfl)) ?_
          refine wg1 rfl rfl rfl rfl rfl (fun hg31 => QV.qo (q_fl 0 fld_41_0 rfl rfl rfl)) ?_
          refine wg1 rfl rfl rfl rfl rfl (fun hg32 => QV.qo (q_ldl (i := 1) (v := .string r_.key) rfl rfl Tryz.isAgg9 (gu hg32 rfl) rfl)) ?_
          refine wg1 rfl rfl rfl rfl rfl (fun hg33 => QV.qo (q_move (v := .slice Al l.length cl) rfl (by kernel_rfl))) ?_
          refine wg1 rfl rfl rfl rfl rfl (fun hg34 => QV.qo (q_move (v := .int .i64 ((i9 : Nat) : Int)) rfl (by kernel_rfl))) ?_
          refine wg1 rfl rfl rfl rfl rfl (fun hg35 => QV.qo (q_ixn (i := i9) Tryz.underlying22 Tryz.sizeOf41 rfl (gu hg35 rfl) (gu hg35 rfl) hl14 (hl.some_ hl14))) ?_
          refine wg1 rfl rfl rfl rfl rfl (fun hg36 => QV.qo (q_field_addr (i9 * 2) fld_41_0 rfl (gu hg36 rfl) (hl.some_ hl14) rfl)) ?_
          refine wg1 rfl rfl rfl rfl rfl (fun hg37 => QV.qo (q_ld (c := 0) (v := .string (gt l i9).key) (hx23 hl14).2 rfl Tryz.isAgg9 (gu hg37 rfl) rfl)) ?_
          refine wg1 rfl rfl rfl rfl rfl (fun hg38 => QV.qo (q_slss rfl (gu hg38 rfl) (gu hg38 rfl))) ?_
          refine wa rfl rfl rfl (q_pick rfl rfl (pk_and' (g := (!laid_7)) (y := (strLt r_.key ((gt l i9).key))))) ?_
          refine WQ.nil ?_
          change WC _ _ _ _ _ _
          refine WC.cif h (by kernel_rfl) (fun hb39 h => ?_) (fun hb39 h => ?_)
          · skip
            refine WC.rs ?_
            refine va rfl rfl rfl (q_move (v := .slice A3 out_2.length c4) rfl (by kernel_rfl)) ?_
            refine va rfl rfl rfl (q_ldla (i := 1) (vs := [.string r_.key, .slice Ar_1 r_.vers.length cr_1]) rfl rfl Tryz.isAgg41 Tryz.sizeOf41 rfl rfl) ?_
            refine e_buildSlice (cs := #[.string r_.key, .slice Ar_1 r_.vers.length cr_1]) (e := 41) rfl rfl rfl rfl (fun w => by kernel_rfl) ?_
            intro g40
            obtain ⟨hk41, h⟩ := chk_some h
            refine e_append (T := recT) (xs := out_2) (ys := [r_]) elem_22 (i := 1) rfl rfl rfl rfl rfl rfl rfl ho6 (of_decide_eq_true hk41) (fun w hw => src_one (T := recT) (y := r_) (i := 0) rfl (by exact ⟨Ar_1, cr_1, rfl, hr_⟩) hw) ?_
            intro row42 A43 c44 ho45
            refine va rfl rfl rfl (q_assign (v := .slice A43 (out_2 ++ [r_]).length c44) rfl (by kernel_rfl)) ?_
            refine WR.nil ?_
            change WC _ _ _ _ _ _
            refine WC.region ?_
            refine va rfl rfl rfl (q_assign (v := .bool true) rfl (by kernel_rfl)) ?_
            refine WR.nil ?_
            intro w hw
            exact ⟨(out_2 ++ [r_]), true, A43, c44, row42, h, (sl_ (by kernel_rfl)), (hw.only (is := [1, 1]) rfl), ho45, trivial⟩
          · skip
            refine WC.skip ?_
            intro w hw
            exact ⟨out_2, laid_7, A3, c4, row5, h, (sl_ (by kernel_rfl)), hw, ho6, trivial⟩
        · skip
          rintro σ w ⟨out_25, laid_30, A26, c27, row28, h, hsl, hw, ho29, -⟩
          refine Wpt.slots hsl ?_
          refine WC.here (C := CC F Γ [row28, [(g1, .cells #[.string r_.key, .slice Ar_1 r_.vers.length cr_1] 41 (0, 0))]]) ?_ hw
          clear hw hsl
          refine WC.region ?_
          refine va rfl rfl rfl (q_move (v := .slice A26 out_25.length c27) rfl (by kernel_rfl)) ?_
          refine va rfl rfl rfl (q_move (v := .slice Al l.length cl) rfl (by kernel_rfl)) ?_
          refine va rfl rfl rfl (q_move (v := .int .i64 ((i9 : Nat) : Int)) rfl (by kernel_rfl)) ?_
          refine va rfl rfl rfl (q_ixn (i := i9) Tryz.underlying22 Tryz.sizeOf41 rfl rfl rfl hl14 (hl.some_ hl14)) ?_
          obtain ⟨A46, c47, hx48⟩ := hl.recT_at i9
          refine va rfl rfl rfl (q_lda (c := 0) (vs := [.string (gt l i9).key, .slice A46 ((gt l i9).vers).length c47]) (hx48 hl14).2 rfl Tryz.isAgg41 Tryz.sizeOf41 rfl rfl rfl) ?_
          refine e_buildSlice (cs := #[.string (gt l i9).key, .slice A46 ((gt l i9).vers).length c47]) (e := 41) rfl rfl rfl rfl (fun w => by kernel_rfl) ?_
          intro g49
          obtain ⟨hk50, h⟩ := chk_some h
          refine e_append (T := recT) (xs := out_25) (ys := [(gt l i9)]) elem_22 (i := 1) rfl rfl rfl rfl rfl rfl rfl ho29 (of_decide_eq_true hk50) (fun w hw => src_one (T := recT) (y := (gt l i9)) (i := 0) rfl (by exact ⟨A46, c47, rfl, (hx48 hl14).1⟩) hw) ?_
          intro row51 A52 c53 ho54
          refine va rfl rfl rfl (q_assign (v := .slice A52 (out_25 ++ [(gt l i9)]).length c53) rfl (by kernel_rfl)) ?_
          refine WR.nil ?_
          intro w hw
          exact ⟨(out_25 ++ [(gt l i9)]), laid_30, A52, c53, row51, h, (sl_ (by kernel_rfl)), (hw.only (is := [1, 1]) rfl), ho54, trivial⟩
    · skip
      rintro σ w ⟨out_15, laid_20, A16, c17, row18, h, hsl, hw, ho19, -⟩
      refine Wpt.slots hsl ?_
      refine WC.here (C := CC F Γ [row18, [(g1, .cells #[.string r_.key, .slice Ar_1 r_.vers.length cr_1] 41 (0, 0))]]) ?_ hw
      clear hw hsl
      refine WC.region ?_
      refine va rfl rfl rfl (q_move (v := .int .i64 ((i9 : Nat) : Int)) rfl (by kernel_rfl)) ?_
      refine va rfl rfl rfl (q_add_r (r := ((i9 + 1 : Nat) : Int)) rfl rfl rfl (ctr_len hl14 hl.le)) ?_
      refine va rfl rfl rfl (q_assign (v := .int .i64 ((i9 + 1 : Nat) : Int)) rfl (by kernel_rfl)) ?_
      refine WR.nil ?_
      intro w hw
      exact ⟨hl14, (out_15, laid_20), h, A16, c17, row18, (sl_ (by kernel_rfl)), hw, ho19, trivial⟩
  · skip
    have h := hge12 (ige hb13)
    refine WC.exit ?_
    change WC _ _ _ _ _ _
    refine WC.seq ?_
    refine WC.rs ?_
    refine va rfl rfl rfl (q_move (v := .bool laid_7) rfl (by kernel_rfl)) ?_
    refine va rfl rfl rfl (q_not rfl rfl) ?_
    refine WR.nil ?_
    change WC _ _ _ _ _ _
    refine WC.cif h (by kernel_rfl) (fun hb55 h => ?_) (fun hb55 h => ?_)
    · skip
      refine WC.region ?_
      refine va rfl rfl rfl (q_move (v := .slice A3 out_2.length c4) rfl (by kernel_rfl)) ?_
      refine va rfl rfl rfl (q_ldla (i := 1) (vs := [.string r_.key, .slice Ar_1 r_.vers.length cr_1]) rfl rfl Tryz.isAgg41 Tryz.sizeOf41 rfl rfl) ?_
      refine e_buildSlice (cs := #[.string r_.key, .slice Ar_1 r_.vers.length cr_1]) (e := 41) rfl rfl rfl rfl (fun w => by kernel_rfl) ?_
      intro g56
      obtain ⟨hk57, h⟩ := chk_some h
      refine e_append (T := recT) (xs := out_2) (ys := [r_]) elem_22 (i := 1) rfl rfl rfl rfl rfl rfl rfl ho6 (of_decide_eq_true hk57) (fun w hw => src_one (T := recT) (y := r_) (i := 0) rfl (by exact ⟨Ar_1, cr_1, rfl, hr_⟩) hw) ?_
      intro row58 A59 c60 ho61
      refine va rfl rfl rfl (q_assign (v := .slice A59 (out_2 ++ [r_]).length c60) rfl (by kernel_rfl)) ?_
      refine WR.nil ?_
      change WC _ _ _ _ _ _
      refine WC.rs ?_
      refine va rfl rfl rfl (q_move (v := .slice A59 (out_2 ++ [r_]).length c60) rfl (by kernel_rfl)) ?_
      refine va rfl rfl rfl (q_assign (v := .slice A59 (out_2 ++ [r_]).length c60) rfl (by kernel_rfl)) ?_
      refine WR.nil ?_
      change WC _ _ _ _ _ _
      refine WC.ret ?_
      intro w hw
      obtain rfl := Option.some.inj h
      subst hF
      exact end_e (is := [1]) (by kernel_rfl) hw rfl ⟨A59, c60, row58, rfl, rfl, ho61, trivial⟩
    · skip
      refine WC.skip ?_
      change WC _ _ _ _ _ _
      refine WC.rs ?_
      refine va rfl rfl rfl (q_move (v := .slice A3 out_2.length c4) rfl (by kernel_rfl)) ?_
      refine va rfl rfl rfl (q_assign (v := .slice A3 out_2.length c4) rfl (by kernel_rfl)) ?_
      refine WR.nil ?_
      change WC _ _ _ _ _ _
      refine WC.ret ?_
      intro w hw
      obtain rfl := Option.some.inj h
      subst hF
      exact end_e (is := [0]) (by kernel_rfl) hw rfl ⟨A3, c4, row5, rfl, rfl, ho6, trivial⟩
set_option maxRecDepth 100000 in
set_option maxHeartbeats 400000 in
theorem t_firthref11_Path {Γ : Gh} {w0 : World} {Apath : Option Addr} {cpath : Nat} {path : List Int} (hpath : Sl intT Γ Apath path) (hpathc : path.length ≤ cpath) (hs : Sat Γ w0) {r : Bool} (h : m_firthref11_Path path = some r) : Calls Tryz.prog 26 #[.slice Apath path.length cpath] w0 (fun e w' => e = .returned (.bool r) ∧ Fr no w0 w') := by
  refine calls_of (N := 25) (rs := [2]) (args := [.slice Apath path.length cpath]) Tryz.func26 rfl Tryz.ntmps26 Tryz.results26 rfl ?_
  obtain ⟨F, hF⟩ : ∃ F : Fm, F = ⟨no, w0, Γ⟩ := ⟨_, rfl⟩
  refine WC.here (C := CC F Γ []) ?_ (hF ▸ Cur.start0 hs)
  refine WC.rs ?_
  refine va rfl rfl rfl (q_assign (v := .bool false) rfl (by kernel_rfl)) ?_
  refine WR.nil ?_
  change WC _ _ _ _ _ _
  refine WC.seq ?_
  refine WC.rs ?_
  refine va rfl rfl rfl (q_assign (v := .int .i64 0) rfl (by kernel_rfl)) ?_
  refine WR.nil ?_
  change WC _ _ _ _ _ _
  refine WC.block ?_
  refine WC.forI h (fun (i2 : Nat) (s : Unit) σ w => match s with | () => slots σ [(0, .slice Apath path.length cpath), (3, .int .i64 ((i2 : Nat) : Int))] ∧ CC F Γ [] w ∧ True) ?_ ?_
  · skip
    intro w hw
    exact ⟨(sl_ (by kernel_rfl)), hw, trivial⟩
  rintro f1 i2 ⟨⟩ σ w hi3 hlt4 hge5 ⟨hsl, hw, -⟩
  refine Wpt.slots hsl ?_
  refine WC.here (C := CC F Γ []) ?_ hw
  clear hw hsl
  refine WC.seq ?_
  refine WC.rs ?_
  refine va rfl rfl rfl (q_move (v := .int .i64 ((i2 : Nat) : Int)) rfl (by kernel_rfl)) ?_
  refine va rfl rfl rfl (q_move (v := .slice Apath path.length cpath) rfl (by kernel_rfl)) ?_
  refine va rfl rfl rfl (q_len_slice rfl Tryz.underlying23 rfl) ?_
  refine va rfl rfl rfl (q_lss rfl rfl rfl) ?_
  refine WR.nil ?_
  change WC _ _ _ _ _ _
  refine WC.cond (b := (decide (((i2 : Nat) : Int) < ((path.length : Nat) : Int)))) (by kernel_rfl) (fun hb6 => ?_) (fun hb6 => ?_)
  · skip
    have hl7 := ilt hb6
    have h := hlt4 hl7
    refine WC.skip ?_
    change WC _ _ _ _ _ _
    refine WC.seq ?_
    refine WC.block ?_
    refine WC.rs ?_
    refine va rfl rfl rfl (q_move (v := .slice Apath path.length cpath) rfl (by kernel_rfl)) ?_
    refine va rfl rfl rfl (q_move (v := .int .i64 ((i2 : Nat) : Int)) rfl (by kernel_rfl)) ?_
    refine va rfl rfl rfl (q_ixn (i := i2) Tryz.underlying23 Tryz.sizeOf3 rfl rfl rfl hl7 (hpath.some_ hl7)) ?_
    refine va rfl rfl rfl (q_ld (c := 0) (v := .int .i64 (gt path i2)) (hpath.intT_at hl7).2 rfl Tryz.isAgg3 rfl rfl) ?_
    refine va rfl rfl rfl (q_lss rfl rfl rfl) ?_
    refine va rfl rfl rfl (q_move (v := .bool (decide ((gt path i2) < 0))) rfl (by kernel_rfl)) ?_
    refine vg0 rfl rfl rfl rfl rfl (fun hg8 => QV.qo (q_move (v := .slice Apath path.length cpath) rfl (by kernel_rfl))) ?_
    refine vg0 rfl rfl rfl rfl rfl (fun hg9 => QV.qo (q_move (v := .int .i64 ((i2 : Nat) : Int)) rfl (by kernel_rfl))) ?_
    refine vg0 rfl rfl rfl rfl rfl (fun hg10 => QV.qo (q_ixn (i := i2) Tryz.underlying23 Tryz.sizeOf3 rfl (gu hg10 rfl) (gu hg10 rfl) hl7 (hpath.some_ hl7))) ?_
    refine vg0 rfl rfl rfl rfl rfl (fun hg11 => QV.qo (q_ld (c := 0) (v := .int .i64 (gt path i2)) (hpath.intT_at hl7).2 rfl Tryz.isAgg3 (gu hg11 rfl) rfl)) ?_
    refine vg0 rfl rfl rfl rfl rfl (fun hg12 => QV.qo (q_gtr rfl (gu hg12 rfl) rfl)) ?_
    refine va rfl rfl rfl (q_pick rfl rfl (pk_or' (g := (decide ((gt path i2) < 0))) (y := (decide (15 < (gt path i2)))))) ?_
    refine WR.nil ?_
    change WC _ _ _ _ _ _
    refine WC.cif h (by kernel_rfl) (fun hb13 h => ?_) (fun hb13 h => ?_)
    · skip
      refine WC.rs ?_
      refine va rfl rfl rfl (q_assign (v := .bool false) rfl (by kernel_rfl)) ?_
      refine WR.nil ?_
      change WC _ _ _ _ _ _
      refine WC.ret ?_
      intro w hw
      obtain rfl := Option.some.inj h
      subst hF
      exact ⟨by kernel_rfl, hw.fr⟩
    · skip
      refine WC.skip ?_
      change WC _ _ _ _ _ _
      refine WC.region ?_
      refine va rfl rfl rfl (q_move (v := .int .i64 ((i2 : Nat) : Int)) rfl (by kernel_rfl)) ?_
      refine va rfl rfl rfl (q_add_r (r := ((i2 + 1 : Nat) : Int)) rfl rfl rfl (ctr_len hl7 hpath.le)) ?_
      refine va rfl rfl rfl (q_assign (v := .int .i64 ((i2 + 1 : Nat) : Int)) rfl (by kernel_rfl)) ?_
      refine WR.nil ?_
      intro w hw
      exact ⟨hl7, (), h, (sl_ (by kernel_rfl)), hw, trivial⟩
  · skip
    have h := hge5 (ige hb6)
    refine WC.exit ?_
    change WC _ _ _ _ _ _
    refine WC.rs ?_
    refine va rfl rfl rfl (q_move (v := .slice Apath path.length cpath) rfl (by kernel_rfl)) ?_
    refine va rfl rfl rfl (q_len_slice rfl Tryz.underlying23 rfl) ?_
    refine va rfl rfl rfl (q_leq rfl rfl rfl) ?_
    refine va rfl rfl rfl (q_assign (v := .bool (decide (((path.length : Nat) : Int) ≤ 2))) rfl (by kernel_rfl)) ?_
    refine WR.nil ?_
    change WC _ _ _ _ _ _
    refine WC.ret ?_
    intro w hw
    obtain rfl := Option.some.inj h
    subst hF
    exact ⟨by kernel_rfl, hw.fr⟩
set_option maxRecDepth 100000 in
set_option maxHeartbeats 400000 in
theorem t_firthref01_Hash {Γ : Gh} {w0 : World} {Ab : Option Addr} {cb : Nat} {b : List UInt8} (hb : Sl byteT Γ Ab b) (hbc : b.length ≤ cb) (hs : Sat Γ w0) {r : Int} (h : m_firthref01_Hash b = some r) : Calls Tryz.prog 27 #[.slice Ab b.length cb] w0 (fun e w' => e = .returned (.int .u64 r) ∧ Fr no w0 w') := by
  refine calls_of (N := 30) (rs := [2]) (args := [.slice Ab b.length cb]) Tryz.func27 rfl Tryz.ntmps27 Tryz.results27 rfl ?_
  obtain ⟨F, hF⟩ : ∃ F : Fm, F = ⟨no, w0, Γ⟩ := ⟨_, rfl⟩
  refine WC.here (C := CC F Γ []) ?_ (hF ▸ Cur.start0 hs)
  refine WC.rs ?_
  refine va rfl rfl rfl (q_assign (v := .int .u64 0) rfl (by kernel_rfl)) ?_
  refine WR.nil ?_
  change WC _ _ _ _ _ _
  refine WC.rs ?_
  refine va rfl rfl rfl (q_assign (v := .int .u64 14695981039346656037) rfl (by kernel_rfl)) ?_
  refine WR.nil ?_
  change WC _ _ _ _ _ _
  refine WC.seq ?_
  refine WC.rs ?_
  refine va rfl rfl rfl (q_assign (v := .int .i64 0) rfl (by kernel_rfl)) ?_
  refine WR.nil ?_
  change WC _ _ _ _ _ _
  refine WC.block ?_
  refine WC.forI h (fun (i4 : Nat) (h_1 : Int) σ w => slots σ [(0, .slice Ab b.length cb), (3, .int .u64 h_1), (4, .int .i64 ((i4 : Nat) : Int))] ∧ CC F Γ [] w ∧ U64 h_1 ∧ True) ?_ ?_
  · skip
    intro w hw
    exact ⟨(sl_ (by kernel_rfl)), hw, (show U64 14695981039346656037 by decide), trivial⟩
  rintro f3 i4 h_1 σ w hi5 hlt6 hge7 ⟨hsl, hw, hr2, -⟩
  refine Wpt.slots hsl ?_
  refine WC.here (C := CC F Γ []) ?_ hw
  clear hw hsl
  refine WC.seq ?_
  refine WC.rs ?_
  refine va rfl rfl rfl (q_move (v := .int .i64 ((i4 : Nat) : Int)) rfl (by kernel_rfl)) ?_
  refine va rfl rfl rfl (q_move (v := .slice Ab b.length cb) rfl (by kernel_rfl)) ?_
  refine va rfl rfl rfl (q_len_slice rfl Tryz.underlying86 rfl) ?_
  refine va rfl rfl rfl (q_lss rfl rfl rfl) ?_
  refine WR.nil ?_
  change WC _ _ _ _ _ _
  refine WC.cond (b := (decide (((i4 : Nat) : Int) < ((b.length : Nat) : Int)))) (by kernel_rfl) (fun hb8 => ?_) (fun hb8 => ?_)
  · skip
    have hl9 := ilt hb8
    have h := hlt6 hl9
    refine WC.skip ?_
    change WC _ _ _ _ _ _
    refine WC.seq ?_
    refine WC.block ?_
    refine WC.rs ?_
    refine va rfl rfl rfl (q_move (v := .int .u64 h_1) rfl (by kernel_rfl)) ?_
    refine va rfl rfl rfl (q_move (v := .slice Ab b.length cb) rfl (by kernel_rfl)) ?_
    refine va rfl rfl rfl (q_move (v := .int .i64 ((i4 : Nat) : Int)) rfl (by kernel_rfl)) ?_
    refine va rfl rfl rfl (q_ixn (i := i4) Tryz.underlying86 Tryz.sizeOf5 rfl rfl rfl hl9 (hb.some_ hl9)) ?_
    refine va rfl rfl rfl (q_ld (c := 0) (v := .int .u8 (((gt b i4).toNat : Nat) : Int)) (hb.byteT_at hl9).2 rfl Tryz.isAgg5 rfl rfl) ?_
    refine va rfl rfl rfl (q_conv Tryz.underlying28 Tryz.underlying5 rfl rfl) ?_
    refine va rfl rfl rfl (q_xor rfl rfl rfl) ?_
    refine va rfl rfl rfl (q_assign (v := .int .u64 (ixor .u64 h_1 (wu64 (((gt b i4).toNat : Nat) : Int)))) rfl (by kernel_rfl)) ?_
    refine WR.nil ?_
    change WC _ _ _ _ _ _
    refine WC.region ?_
    refine va rfl rfl rfl (q_move (v := .int .u64 (ixor .u64 h_1 (wu64 (((gt b i4).toNat : Nat) : Int)))) rfl (by kernel_rfl)) ?_
    refine va rfl rfl rfl (q_mul rfl rfl rfl) ?_
    refine va rfl rfl rfl (q_assign (v := .int .u64 (wu64 ((ixor .u64 h_1 (wu64 (((gt b i4).toNat : Nat) : Int))) * 1099511628211))) rfl (by kernel_rfl)) ?_
    refine WR.nil ?_
    change WC _ _ _ _ _ _
    refine WC.region ?_
    refine va rfl rfl rfl (q_move (v := .int .i64 ((i4 : Nat) : Int)) rfl (by kernel_rfl)) ?_
    refine va rfl rfl rfl (q_add_r (r := ((i4 + 1 : Nat) : Int)) rfl rfl rfl (ctr_len hl9 hb.le)) ?_
    refine va rfl rfl rfl (q_assign (v := .int .i64 ((i4 + 1 : Nat) : Int)) rfl (by kernel_rfl)) ?_
    refine WR.nil ?_
    intro w hw
    exact ⟨hl9, (wu64 ((ixor .u64 h_1 (wu64 (((gt b i4).toNat : Nat) : Int))) * 1099511628211)), h, (sl_ (by kernel_rfl)), hw, (wu64_r _), trivial⟩
  · skip
    have h := hge7 (ige hb8)
    refine WC.exit ?_
    change WC _ _ _ _ _ _
    refine WC.rs ?_
    refine va rfl rfl rfl (q_move (v := .int .u64 h_1) rfl (by kernel_rfl)) ?_
    refine va rfl rfl rfl (q_move (v := .int .u64 h_1) rfl (by kernel_rfl)) ?_
    refine va rfl rfl rfl (q_quo rfl rfl rfl (by decide)) ?_
    refine va rfl rfl rfl (q_xor rfl rfl rfl) ?_
    refine va rfl rfl rfl (q_assign (v := .int .u64 (ixor .u64 h_1 (wu64 (h_1.tdiv 8589934592)))) rfl (by kernel_rfl)) ?_
    refine WR.nil ?_
    change WC _ _ _ _ _ _
    refine WC.rs ?_
    refine va rfl rfl rfl (q_move (v := .int .u64 (ixor .u64 h_1 (wu64 (h_1.tdiv 8589934592)))) rfl (by kernel_rfl)) ?_
    refine va rfl rfl rfl (q_mul rfl rfl rfl) ?_
    refine va rfl rfl rfl (q_assign (v := .int .u64 (wu64 ((ixor .u64 h_1 (wu64 (h_1.tdiv 8589934592))) * 18397679294719823053))) rfl (by kernel_rfl)) ?_
    refine WR.nil ?_
    change WC _ _ _ _ _ _
    refine WC.rs ?_
    refine va rfl rfl rfl (q_move (v := .int .u64 (wu64 ((ixor .u64 h_1 (wu64 (h_1.tdiv 8589934592))) * 18397679294719823053))) rfl (by kernel_rfl)) ?_
    refine va rfl rfl rfl (q_move (v := .int .u64 (wu64 ((ixor .u64 h_1 (wu64 (h_1.tdiv 8589934592))) * 18397679294719823053))) rfl (by kernel_rfl)) ?_
    refine va rfl rfl rfl (q_quo rfl rfl rfl (by decide)) ?_
    refine va rfl rfl rfl (q_xor rfl rfl rfl) ?_
    refine va rfl rfl rfl (q_assign (v := .int .u64 (ixor .u64 (wu64 ((ixor .u64 h_1 (wu64 (h_1.tdiv 8589934592))) * 18397679294719823053)) (wu64 ((wu64 ((ixor .u64 h_1 (wu64 (h_1.tdiv 8589934592))) * 18397679294719823053)).tdiv 8589934592)))) rfl (by kernel_rfl)) ?_
    refine WR.nil ?_
    change WC _ _ _ _ _ _
    refine WC.ret ?_
    intro w hw
    obtain rfl := Option.some.inj h
    subst hF
    exact ⟨by kernel_rfl, hw.fr⟩
abbrev r_firthref11_Place (r : List Int) (U : List Rowb) (Γ : Gh) (v : Value) : Prop := ∃ (A0 : Option Addr), ∃ (c0 : Nat), ∃ (row0 : Rowb), v = .slice A0 r.length c0 ∧ U = [row0] ∧ Own intT Γ 3 row0 A0 c0 r ∧ True
set_option maxRecDepth 100000 in
set_option maxHeartbeats 400000 in
theorem t_firthref11_Place {Γ : Gh} {w0 : World} (key : ByteArray) (hkey : key.size ≤ lim) (hp : Pre [] Γ w0) {r : List Int} (h : m_firthref11_Place key = some r) : Calls Tryz.prog 36 #[.string key] w0 (Outc Γ [] w0 (r_firthref11_Place r)) := by
  refine calls_of (N := 15) (rs := [2]) (args := [.string key]) Tryz.func36 rfl Tryz.ntmps36 Tryz.results36 rfl ?_
  obtain ⟨F, hF⟩ : ∃ F : Fm, F = ⟨ids [], w0, Γ⟩ := ⟨_, rfl⟩
  refine WC.here (C := CC F Γ []) ?_ (hF ▸ hp.start)
  refine WC.rs ?_
  refine va rfl rfl rfl (q_assign (v := .slice none 0 0) rfl (by kernel_rfl)) ?_
  refine WR.nil ?_
  change WC _ _ _ _ _ _
  refine WC.rs ?_
  refine va rfl rfl rfl (q_move (v := .string key) rfl (by kernel_rfl)) ?_
  refine e_convB (src := 9) (dst := 86) (s := key) Tryz.underlying9 Tryz.underlying86 Tryz.underlying5 hkey rfl rfl rfl rfl rfl ?_
  intro Γ1 A2 c3 hl4 hs5 hc6
  obtain ⟨z7, hz8, h⟩ := bnd h
  refine vc rfl rfl rfl (q_call (call_run Tryz.call27 rfl rfl (by kernel_rfl)) (fun w hw => t_firthref01_Hash (Γ := Gh.all w) (hs5.mono hw.sat.le_all) hc6 (Sat.all w) hz8)) ?_
  refine va rfl rfl rfl (q_assign (v := .int .u64 z7) rfl (by kernel_rfl)) ?_
  refine WR.nil ?_
  change WC _ _ _ _ _ _
  refine WC.rs ?_
  refine va rfl rfl rfl (q_move (v := .int .u64 z7) rfl (by kernel_rfl)) ?_
  refine va rfl rfl rfl (q_quo rfl rfl rfl (by decide)) ?_
  refine va rfl rfl rfl (q_conv Tryz.underlying3 Tryz.underlying28 rfl rfl) ?_
  refine va rfl rfl rfl (q_move (v := .int .u64 z7) rfl (by kernel_rfl)) ?_
  refine va rfl rfl rfl (q_quo rfl rfl rfl (by decide)) ?_
  refine va rfl rfl rfl (q_rem rfl rfl rfl (by decide)) ?_
  refine va rfl rfl rfl (q_conv Tryz.underlying3 Tryz.underlying28 rfl rfl) ?_
  refine e_buildSlice (cs := #[.int .i64 (w64 (wu64 (z7.tdiv 1152921504606846976))), .int .i64 (w64 ((wu64 (z7.tdiv 72057594037927936)).tmod 16))]) (e := 3) rfl rfl rfl rfl (fun w => by kernel_rfl) ?_
  intro g9
  refine va rfl rfl rfl (q_assign (v := .slice (some ⟨g9, 0, none⟩) 2 2) rfl (by kernel_rfl)) ?_
  refine WR.nil ?_
  change WC _ _ _ _ _ _
  refine WC.ret ?_
  intro w hw
  have ho10 : Own intT Γ1 3 [(g9, .cells #[.int .i64 (w64 (wu64 (z7.tdiv 1152921504606846976))), .int .i64 (w64 ((wu64 (z7.tdiv 72057594037927936)).tmod 16))] 3 (0, 0))] (some ⟨g9, 0, none⟩) 2 [(w64 (wu64 (z7.tdiv 1152921504606846976))), (w64 ((wu64 (z7.tdiv 72057594037927936)).tmod 16))] := Own.of_blockL (T := intT) (ys := [(w64 (wu64 (z7.tdiv 1152921504606846976))), (w64 ((wu64 (z7.tdiv 72057594037927936)).tmod 16))]) [[.int .i64 (w64 (wu64 (z7.tdiv 1152921504606846976)))], [.int .i64 (w64 ((wu64 (z7.tdiv 72057594037927936)).tmod 16))]] rfl (show 2 ≤ lim by decide) (show Ty.rd intT Γ1 [.int .i64 (w64 (wu64 (z7.tdiv 1152921504606846976)))] (w64 (wu64 (z7.tdiv 1152921504606846976))) ∧ Ty.rd intT Γ1 [.int .i64 (w64 ((wu64 (z7.tdiv 72057594037927936)).tmod 16))] (w64 ((wu64 (z7.tdiv 72057594037927936)).tmod 16)) ∧ True from ⟨⟨rfl, (w64_r _)⟩, ⟨rfl, (w64_r _)⟩, trivial⟩)
  obtain rfl := Option.some.inj h
  subst hF
  exact end_e (is := [0]) (by kernel_rfl) hw rfl ⟨(some ⟨g9, 0, none⟩), 2, [(g9, .cells #[.int .i64 (w64 (wu64 (z7.tdiv 1152921504606846976))), .int .i64 (w64 ((wu64 (z7.tdiv 72057594037927936)).tmod 16))] 3 (0, 0))], rfl, rfl, ho10, trivial⟩
abbrev r_firthref11_Recs (r : List Rec) (U : List Rowb) (Γ : Gh) (v : Value) : Prop := ∃ (A0 : Option Addr), ∃ (c0 : Nat), ∃ (row0 : Rowb), v = .slice A0 r.length c0 ∧ U = [row0] ∧ Own recT Γ 41 row0 A0 c0 r ∧ True
set_option maxRecDepth 100000 in
set_option maxHeartbeats 400000 in
theorem t_firthref11_Recs {Γ : Gh} {w0 : World} {Aall : Option Addr} {call : Nat} {all : List Rec} (hall : Sl recT Γ Aall all) (hallc : all.length ≤ call) {Apath : Option Addr} {cpath : Nat} {path : List Int} (hpath : Sl intT Γ Apath path) (hpathc : path.length ≤ cpath) (hp : Pre [] Γ w0) {r : List Rec} (h : m_firthref11_Recs all path = some r) : Calls Tryz.prog 14 #[.slice Aall all.length call, .slice Apath path.length cpath] w0 (Outc Γ [] w0 (r_firthref11_Recs r)) := by
  refine calls_of (N := 53) (rs := [4]) (args := [.slice Aall all.length call, .slice Apath path.length cpath]) Tryz.func14 rfl Tryz.ntmps14 Tryz.results14 rfl ?_
  obtain ⟨F, hF⟩ : ∃ F : Fm, F = ⟨ids [], w0, Γ⟩ := ⟨_, rfl⟩
  refine WC.here (C := CC F Γ []) ?_ (hF ▸ hp.start)
  refine WC.rs ?_
  refine va rfl rfl rfl (q_assign (v := .slice none 0 0) rfl (by kernel_rfl)) ?_
  refine WR.nil ?_
  change WC _ _ _ _ _ _
  refine WC.rs ?_
  refine va rfl rfl rfl (q_assign (v := .slice none 0 0) rfl (by kernel_rfl)) ?_
  refine WR.nil ?_
  change WC _ _ _ _ _ _
  refine WC.seq ?_
  refine WC.rs ?_
  refine va rfl rfl rfl (q_assign (v := .int .i64 0) rfl (by kernel_rfl)) ?_
  refine WR.nil ?_
  change WC _ _ _ _ _ _
  refine WC.block ?_
  refine WC.loopN h (fun (s : (List Rec) × Int) σ w => match s with | (out_3, i_8) => ∃ (Γ1 : Gh), ∃ (A4 : Option Addr), ∃ (c5 : Nat), ∃ (row6 : Rowb), slots σ [(0, .slice Aall all.length call), (1, .slice Apath path.length cpath), (5, .slice A4 out_3.length c5), (6, .int .i64 i_8)] ∧ CC F Γ1 [row6] w ∧ Gh.le Γ Γ1 ∧ Own recT Γ1 41 row6 A4 c5 out_3 ∧ I64 i_8 ∧ True) ?_ ?_
  · skip
    intro w hw
    have hw := hw.pad
    exact ⟨Γ, none, 0, [], (sl_ (by kernel_rfl)), hw, (Gh.refl _), (Own.nil recT _ 41), (show I64 0 by decide), trivial⟩
  rintro f10 ⟨out_3, i_8⟩ σ w h ⟨Γ1, A4, c5, row6, hsl, hw, hl2, ho7, hr9, -⟩
  refine Wpt.slots hsl ?_
  refine WC.here (C := CC F Γ1 [row6]) ?_ hw
  clear hw hsl
  refine WC.seq ?_
  refine WC.rs ?_
  refine va rfl rfl rfl (q_move (v := .int .i64 i_8) rfl (by kernel_rfl)) ?_
  refine va rfl rfl rfl (q_move (v := .slice Aall all.length call) rfl (by kernel_rfl)) ?_
  refine va rfl rfl rfl (q_len_slice rfl Tryz.underlying22 rfl) ?_
  refine va rfl rfl rfl (q_lss rfl rfl rfl) ?_
  refine va rfl rfl rfl (q_move (v := .bool (decide (i_8 < ((all.length : Nat) : Int)))) rfl (by kernel_rfl)) ?_
  refine vg1 rfl rfl rfl rfl rfl (fun hg14 => QV.qo (q_move (v := .slice Apath path.length cpath) rfl (by kernel_rfl))) ?_
  obtain ⟨z16, hz17, h⟩ := bnd h
  refine vg1 rfl rfl rfl rfl rfl (fun hg15 => (q_call (call_run Tryz.call26 rfl rfl (args1 (gu hg15 rfl))) (fun w hw => t_firthref11_Path (Γ := Gh.all w) ((hpath.mono hl2).mono hw.sat.le_all) hpathc (Sat.all w) (gc_of hz17 hg15)))) ?_
  refine va rfl rfl rfl (q_pick rfl rfl (pk_and' (g := (decide (i_8 < ((all.length : Nat) : Int)))) (y := z16))) ?_
  refine WR.nil ?_
  change WC _ _ _ _ _ _
  refine WC.cif h (by kernel_rfl) (fun hb18 h => ?_) (fun hb18 h => ?_)
  · skip
    refine WC.skip ?_
    change WC _ _ _ _ _ _
    refine WC.cut (fun σ w => ∃ (out_21 : List Rec), ∃ (Γ19 : Gh), ∃ (A22 : Option Addr), ∃ (c23 : Nat), ∃ (row24 : Rowb), m_firthref11_Recs_j11 i_8 f10 out_21 = some r ∧ slots σ [(0, .slice Aall all.length call), (1, .slice Apath path.length cpath), (5, .slice A22 out_21.length c23), (6, .int .i64 i_8)] ∧ CC F Γ19 [row24] w ∧ Gh.le Γ1 Γ19 ∧ Own recT Γ19 41 row24 A22 c23 out_21 ∧ True) ?_ ?_
    · skip
      refine WC.block ?_
      refine WC.rs ?_
      refine va rfl rfl rfl (q_move (v := .slice Aall all.length call) rfl (by kernel_rfl)) ?_
      refine va rfl rfl rfl (q_move (v := .int .i64 i_8) rfl (by kernel_rfl)) ?_
      obtain ⟨hk26, h⟩ := chk_some h
      refine va rfl rfl rfl (q_ix Tryz.underlying22 Tryz.sizeOf41 rfl rfl rfl hk26 ((hall.mono hl2).some_ (inb_lt hk26))) ?_
      refine va rfl rfl rfl (q_field_addr (i_8.toNat * 2) fld_41_0 rfl rfl ((hall.mono hl2).some_ (inb_lt hk26)) rfl) ?_
      obtain ⟨A27, c28, hx29⟩ := (hall.mono hl2).recT_at i_8.toNat
      refine va rfl rfl rfl (q_ld (c := 0) (v := .string (gt all i_8.toNat).key) (hx29 (inb_lt hk26)).2 rfl Tryz.isAgg9 rfl rfl) ?_
      obtain ⟨z30, hz31, h⟩ := bnd h
      refine e_call (is := []) rfl rfl (call_run Tryz.call36 rfl rfl (by kernel_rfl)) rfl (fun w hp => t_firthref11_Place ((gt all i_8.toNat).key) (hx29 (inb_lt hk26)).1.1 hp hz31) ?_
      rintro Γ32 U34 v35 hl33 ⟨A36, c37, row38, rfl, rfl, hr39, _⟩
      change WR _ _ _ (CC F Γ32 [row38, row6]) _ _ (upd _ 25 (.slice A36 z30.length c37))
      refine va rfl rfl rfl (q_assign (v := .slice A36 z30.length c37) rfl (by kernel_rfl)) ?_
      refine WR.nil ?_
      change WC _ _ _ _ _ _
      refine WC.rs ?_
      refine va rfl rfl rfl (q_assign (v := .bool true) rfl (by kernel_rfl)) ?_
      refine WR.nil ?_
      change WC _ _ _ _ _ _
      refine WC.seq ?_
      refine WC.rs ?_
      refine va rfl rfl rfl (q_assign (v := .int .i64 0) rfl (by kernel_rfl)) ?_
      refine WR.nil ?_
      change WC _ _ _ _ _ _
      refine WC.block ?_
      refine WC.forI h (fun (i42 : Nat) (in_40 : Bool) σ w => slots σ [(0, .slice Aall all.length call), (1, .slice Apath path.length cpath), (5, .slice A4 out_3.length c5), (6, .int .i64 i_8), (7, .slice A36 z30.length c37), (8, .bool in_40), (9, .int .i64 ((i42 : Nat) : Int))] ∧ CC F Γ32 [row38, row6] w ∧ True) ?_ ?_
      · skip
        intro w hw
        exact ⟨(sl_ (by kernel_rfl)), hw, trivial⟩
      rintro f41 i42 in_40 σ w hi43 hlt44 hge45 ⟨hsl, hw, -⟩
      refine Wpt.slots hsl ?_
      refine WC.here (C := CC F Γ32 [row38, row6]) ?_ hw
      clear hw hsl
      refine WC.seq ?_
      refine WC.rs ?_
      refine va rfl rfl rfl (q_move (v := .int .i64 ((i42 : Nat) : Int)) rfl (by kernel_rfl)) ?_
      refine va rfl rfl rfl (q_move (v := .slice Apath path.length cpath) rfl (by kernel_rfl)) ?_
      refine va rfl rfl rfl (q_len_slice rfl Tryz.underlying23 rfl) ?_
      refine va rfl rfl rfl (q_lss rfl rfl rfl) ?_
      refine WR.nil ?_
      change WC _ _ _ _ _ _
      refine WC.cond (b := (decide (((i42 : Nat) : Int) < ((path.length : Nat) : Int)))) (by kernel_rfl) (fun hb46 => ?_) (fun hb46 => ?_)
      · skip
        have hl47 := ilt hb46
        have h := hlt44 hl47
        refine WC.skip ?_
        change WC _ _ _ _ _ _
        refine WC.seq ?_
        refine WC.block ?_
        refine WC.dr (by kernel_rfl) (by kernel_rfl) (fun w hw => hw.drawn _) ?_
        refine wa rfl rfl rfl (q_move (v := .bool in_40) rfl (by kernel_rfl)) ?_
        refine wa rfl rfl rfl (q_move (v := .bool in_40) rfl (by kernel_rfl)) ?_
        refine wg1 rfl rfl rfl rfl rfl (fun hg48 => QV.qo (q_move (v := .slice A36 z30.length c37) rfl (by kernel_rfl))) ?_
        refine wg1 rfl rfl rfl rfl rfl (fun hg49 => QV.qo (q_move (v := .int .i64 ((i42 : Nat) : Int)) rfl (by kernel_rfl))) ?_
        obtain ⟨hk51, h⟩ := chk_some h
        refine wg1 rfl rfl rfl rfl rfl (fun hg50 => QV.qo (q_ixn (i := i42) Tryz.underlying23 Tryz.sizeOf3 rfl (gu hg50 rfl) (gu hg50 rfl) (of_decide_eq_true (imp_of hk51 hg50)) (hr39.some_ (of_decide_eq_true (imp_of hk51 hg50))))) ?_
        refine wg1 rfl rfl rfl rfl rfl (fun hg52 => QV.qo (q_ldo (c := 0) (v := .int .i64 (gt z30 i42)) (i := 0) rfl (hr39.intT_at (of_decide_eq_true (imp_of hk51 hg52))).2 rfl Tryz.isAgg3 (gu hg52 rfl) rfl)) ?_
        refine wg1 rfl rfl rfl rfl rfl (fun hg53 => QV.qo (q_move (v := .slice Apath path.length cpath) rfl (by kernel_rfl))) ?_
        refine wg1 rfl rfl rfl rfl rfl (fun hg54 => QV.qo (q_move (v := .int .i64 ((i42 : Nat) : Int)) rfl (by kernel_rfl))) ?_
        refine wg1 rfl rfl rfl rfl rfl (fun hg55 => QV.qo (q_ixn (i := i42) Tryz.underlying23 Tryz.sizeOf3 rfl (gu hg55 rfl) (gu hg55 rfl) hl47 ((hpath.mono (hl2.trans hl33)).some_ hl47))) ?_
        refine wg1 rfl rfl rfl rfl rfl (fun hg56 => QV.qo (q_ld (c := 0) (v := .int .i64 (gt path i42)) ((hpath.mono (hl2.trans hl33)).intT_at hl47).2 rfl Tryz.isAgg3 (gu hg56 rfl) rfl)) ?_
        refine wg1 rfl rfl rfl rfl rfl (fun hg57 => QV.qo (q_eql rfl (gu hg57 rfl) (gu hg57 rfl))) ?_
        refine wa rfl rfl rfl (q_pick rfl rfl (pk_and' (g := in_40) (y := ((gt z30 i42) == (gt path i42))))) ?_
        refine wa rfl rfl rfl (q_assign (v := .bool (in_40 && ((gt z30 i42) == (gt path i42)))) rfl (by kernel_rfl)) ?_
        refine WQ.nil ?_
        change WC _ _ _ _ _ _
        refine WC.region ?_
        refine va rfl rfl rfl (q_move (v := .int .i64 ((i42 : Nat) : Int)) rfl (by kernel_rfl)) ?_
        refine va rfl rfl rfl (q_add_r (r := ((i42 + 1 : Nat) : Int)) rfl rfl rfl (ctr_len hl47 (hpath.mono (hl2.trans hl33)).le)) ?_
        refine va rfl rfl rfl (q_assign (v := .int .i64 ((i42 + 1 : Nat) : Int)) rfl (by kernel_rfl)) ?_
        refine WR.nil ?_
        intro w hw
        exact ⟨hl47, (in_40 && ((gt z30 i42) == (gt path i42))), h, (sl_ (by kernel_rfl)), hw, trivial⟩
      · skip
        have h := hge45 (ige hb46)
        refine WC.exit ?_
        change WC _ _ _ _ _ _
        refine WC.rs ?_
        refine va rfl rfl rfl (q_move (v := .bool in_40) rfl (by kernel_rfl)) ?_
        refine WR.nil ?_
        change WC _ _ _ _ _ _
        refine WC.cif h (by kernel_rfl) (fun hb58 h => ?_) (fun hb58 h => ?_)
        · skip
          refine WC.region ?_
          refine va rfl rfl rfl (q_move (v := .slice A4 out_3.length c5) rfl (by kernel_rfl)) ?_
          refine va rfl rfl rfl (q_move (v := .slice Aall all.length call) rfl (by kernel_rfl)) ?_
          refine va rfl rfl rfl (q_move (v := .int .i64 i_8) rfl (by kernel_rfl)) ?_
          refine va rfl rfl rfl (q_ix Tryz.underlying22 Tryz.sizeOf41 rfl rfl rfl hk26 ((hall.mono (hl2.trans hl33)).some_ (inb_lt hk26))) ?_
          obtain ⟨A59, c60, hx61⟩ := (hall.mono (hl2.trans hl33)).recT_at i_8.toNat
          refine va rfl rfl rfl (q_lda (c := 0) (vs := [.string (gt all i_8.toNat).key, .slice A59 ((gt all i_8.toNat).vers).length c60]) (hx61 (inb_lt hk26)).2 rfl Tryz.isAgg41 Tryz.sizeOf41 rfl rfl rfl) ?_
          refine e_buildSlice (cs := #[.string (gt all i_8.toNat).key, .slice A59 ((gt all i_8.toNat).vers).length c60]) (e := 41) rfl rfl rfl rfl (fun w => by kernel_rfl) ?_
          intro g62
          obtain ⟨hk63, h⟩ := chk_some h
          refine e_append (T := recT) (xs := out_3) (ys := [(gt all i_8.toNat)]) elem_22 (i := 2) rfl rfl rfl rfl rfl rfl rfl (ho7.mono hl33) (of_decide_eq_true hk63) (fun w hw => src_one (T := recT) (y := (gt all i_8.toNat)) (i := 0) rfl (by exact ⟨A59, c60, rfl, (hx61 (inb_lt hk26)).1⟩) hw) ?_
          intro row64 A65 c66 ho67
          refine va rfl rfl rfl (q_assign (v := .slice A65 (out_3 ++ [(gt all i_8.toNat)]).length c66) rfl (by kernel_rfl)) ?_
          refine WR.nil ?_
          intro w hw
          exact ⟨(out_3 ++ [(gt all i_8.toNat)]), Γ32, A65, c66, row64, h, (sl_ (by kernel_rfl)), (hw.only (is := [2]) rfl), hl33, ho67, trivial⟩
        · skip
          refine WC.skip ?_
          intro w hw
          exact ⟨out_3, Γ32, A4, c5, row6, h, (sl_ (by kernel_rfl)), (hw.only (is := [1]) rfl), hl33, (ho7.mono hl33), trivial⟩
    · skip
      rintro σ w ⟨out_21, Γ19, A22, c23, row24, h, hsl, hw, hl20, ho25, -⟩
      refine Wpt.slots hsl ?_
      refine WC.here (C := CC F Γ19 [row24]) ?_ hw
      clear hw hsl
      refine WC.region ?_
      refine va rfl rfl rfl (q_move (v := .int .i64 i_8) rfl (by kernel_rfl)) ?_
      refine va rfl rfl rfl (q_add rfl rfl rfl) ?_
      refine va rfl rfl rfl (q_assign (v := .int .i64 (w64 (i_8 + 1))) rfl (by kernel_rfl)) ?_
      refine WR.nil ?_
      intro w hw
      exact ⟨(out_21, (w64 (i_8 + 1))), h, Γ19, A22, c23, row24, (sl_ (by kernel_rfl)), hw, (hl2.trans hl20), ho25, (w64_r _), trivial⟩
  · skip
    refine WC.exit ?_
    change WC _ _ _ _ _ _
    refine WC.rs ?_
    refine va rfl rfl rfl (q_move (v := .slice A4 out_3.length c5) rfl (by kernel_rfl)) ?_
    refine va rfl rfl rfl (q_assign (v := .slice A4 out_3.length c5) rfl (by kernel_rfl)) ?_
    refine WR.nil ?_
    change WC _ _ _ _ _ _
    refine WC.ret ?_
    intro w hw
    obtain rfl := Option.some.inj h
    subst hF
    exact end_e (is := [0]) (by kernel_rfl) hw rfl ⟨A4, c5, row6, rfl, rfl, ho7, trivial⟩
abbrev r_firthref01_PutNum (r : List UInt8) (U : List Rowb) (Γ : Gh) (v : Value) : Prop := ∃ (A0 : Option Addr), ∃ (c0 : Nat), ∃ (row0 : Rowb), v = .slice A0 r.length c0 ∧ U = [row0] ∧ Own byteT Γ 5 row0 A0 c0 r ∧ True
set_option maxRecDepth 100000 in
set_option maxHeartbeats 400000 in
theorem t_firthref01_PutNum {Γ : Gh} {w0 : World} (n : Int) (hn : I64 n) (hp : Pre [] Γ w0) {r : List UInt8} (h : m_firthref01_PutNum n = some r) : Calls Tryz.prog 62 #[.int .i64 n] w0 (Outc Γ [] w0 (r_firthref01_PutNum r)) := by
  refine calls_of (N := 22) (rs := [2]) (args := [.int .i64 n]) Tryz.func62 rfl Tryz.ntmps62 Tryz.results62 rfl ?_
  obtain ⟨F, hF⟩ : ∃ F : Fm, F = ⟨ids [], w0, Γ⟩ := ⟨_, rfl⟩
  refine WC.here (C := CC F Γ []) ?_ (hF ▸ hp.start)
  refine WC.rs ?_
  refine va rfl rfl rfl (q_assign (v := .slice none 0 0) rfl (by kernel_rfl)) ?_
  refine WR.nil ?_
  change WC _ _ _ _ _ _
  refine WC.cut (fun σ w => ∃ (n_1 : Int), m_firthref01_PutNum_j1 n_1 = some r ∧ slots σ [(0, .int .i64 n_1)] ∧ CC F Γ [] w ∧ I64 n_1 ∧ True) ?_ ?_
  · skip
    refine WC.rs ?_
    refine va rfl rfl rfl (q_move (v := .int .i64 n) rfl (by kernel_rfl)) ?_
    refine va rfl rfl rfl (q_lss rfl rfl rfl) ?_
    refine WR.nil ?_
    change WC _ _ _ _ _ _
    refine WC.cif h (by kernel_rfl) (fun hb3 h => ?_) (fun hb3 h => ?_)
    · skip
      refine WC.region ?_
      refine va rfl rfl rfl (q_assign (v := .int .i64 0) rfl (by kernel_rfl)) ?_
      refine WR.nil ?_
      intro w hw
      exact ⟨0, h, (sl_ (by kernel_rfl)), hw, (show I64 0 by decide), trivial⟩
    · skip
      refine WC.skip ?_
      intro w hw
      exact ⟨n, h, (sl_ (by kernel_rfl)), hw, hn, trivial⟩
  · skip
    rintro σ w ⟨n_1, h, hsl, hw, hr2, -⟩
    refine Wpt.slots hsl ?_
    refine WC.here (C := CC F Γ []) ?_ hw
    clear hw hsl
    refine WC.rs ?_
    refine va rfl rfl rfl (q_assign (v := .slice none 0 0) rfl (by kernel_rfl)) ?_
    refine WR.nil ?_
    change WC _ _ _ _ _ _
    refine WC.seq ?_
    refine WC.block ?_
    refine WC.loopN h (fun (s : Int × (List UInt8)) σ w => match s with | (n_4, b_6) => ∃ (A7 : Option Addr), ∃ (c8 : Nat), ∃ (row9 : Rowb), slots σ [(0, .int .i64 n_4), (3, .slice A7 b_6.length c8)] ∧ CC F Γ [row9] w ∧ I64 n_4 ∧ Own byteT Γ 5 row9 A7 c8 b_6 ∧ True) ?_ ?_
    · skip
      intro w hw
      have hw := hw.pad
      exact ⟨none, 0, [], (sl_ (by kernel_rfl)), hw, hr2, (Own.nil byteT _ 5), trivial⟩
    rintro f11 ⟨n_4, b_6⟩ σ w h ⟨A7, c8, row9, hsl, hw, hr5, ho10, -⟩
    refine Wpt.slots hsl ?_
    refine WC.here (C := CC F Γ [row9]) ?_ hw
    clear hw hsl
    refine WC.seq ?_
    refine WC.rs ?_
    refine va rfl rfl rfl (q_move (v := .int .i64 n_4) rfl (by kernel_rfl)) ?_
    refine va rfl rfl rfl (q_geq rfl rfl rfl) ?_
    refine WR.nil ?_
    change WC _ _ _ _ _ _
    refine WC.cif h (by kernel_rfl) (fun hb15 h => ?_) (fun hb15 h => ?_)
    · skip
      refine WC.skip ?_
      change WC _ _ _ _ _ _
      refine WC.block ?_
      refine WC.rs ?_
      refine va rfl rfl rfl (q_move (v := .slice A7 b_6.length c8) rfl (by kernel_rfl)) ?_
      refine va rfl rfl rfl (q_move (v := .int .i64 n_4) rfl (by kernel_rfl)) ?_
      refine va rfl rfl rfl (q_rem rfl rfl rfl (by decide)) ?_
      refine va rfl rfl rfl (q_add rfl rfl rfl) ?_
      refine va rfl rfl rfl (q_conv Tryz.underlying5 Tryz.underlying2 rfl rfl) ?_
      refine e_buildSlice (cs := #[.int .u8 (wu8 (w64 ((n_4.tmod 128) + 128)))]) (e := 5) rfl rfl rfl rfl (fun w => by kernel_rfl) ?_
      intro g16
      obtain ⟨hk17, h⟩ := chk_some h
      refine e_append (T := byteT) (xs := b_6) (ys := [(b8 (wu8 (w64 ((n_4.tmod 128) + 128))))]) elem_86 (i := 1) rfl rfl rfl rfl rfl rfl rfl ho10 (of_decide_eq_true hk17) (fun w hw => src_one (T := byteT) (y := (b8 (wu8 (w64 ((n_4.tmod 128) + 128))))) (i := 0) rfl (by exact (by show [Value.int .u8 (wu8 (w64 ((n_4.tmod 128) + 128)))] = [Value.int .u8 _]; rw [b8_val (wu8_r _)])) hw) ?_
      intro row18 A19 c20 ho21
      refine va rfl rfl rfl (q_assign (v := .slice A19 (b_6 ++ [(b8 (wu8 (w64 ((n_4.tmod 128) + 128))))]).length c20) rfl (by kernel_rfl)) ?_
      refine WR.nil ?_
      change WC _ _ _ _ _ _
      refine WC.region ?_
      refine va rfl rfl rfl (q_move (v := .int .i64 n_4) rfl (by kernel_rfl)) ?_
      refine va rfl rfl rfl (q_quo rfl rfl rfl (by decide)) ?_
      refine va rfl rfl rfl (q_assign (v := .int .i64 (w64 (n_4.tdiv 128))) rfl (by kernel_rfl)) ?_
      refine WR.nil ?_
      intro w hw
      exact ⟨((w64 (n_4.tdiv 128)), (b_6 ++ [(b8 (wu8 (w64 ((n_4.tmod 128) + 128))))])), h, A19, c20, row18, (sl_ (by kernel_rfl)), (hw.only (is := [1]) rfl), (w64_r _), ho21, trivial⟩
    · skip
      refine WC.exit ?_
      change WC _ _ _ _ _ _
      refine WC.rs ?_
      refine va rfl rfl rfl (q_move (v := .slice A7 b_6.length c8) rfl (by kernel_rfl)) ?_
      refine va rfl rfl rfl (q_move (v := .int .i64 n_4) rfl (by kernel_rfl)) ?_
      refine va rfl rfl rfl (q_conv Tryz.underlying5 Tryz.underlying2 rfl rfl) ?_
      refine e_buildSlice (cs := #[.int .u8 (wu8 n_4)]) (e := 5) rfl rfl rfl rfl (fun w => by kernel_rfl) ?_
      intro g22
      obtain ⟨hk23, h⟩ := chk_some h
      refine e_append (T := byteT) (xs := b_6) (ys := [(b8 (wu8 n_4))]) elem_86 (i := 1) rfl rfl rfl rfl rfl rfl rfl ho10 (of_decide_eq_true hk23) (fun w hw => src_one (T := byteT) (y := (b8 (wu8 n_4))) (i := 0) rfl (by exact (by show [Value.int .u8 (wu8 n_4)] = [Value.int .u8 _]; rw [b8_val (wu8_r _)])) hw) ?_
      intro row24 A25 c26 ho27
      refine va rfl rfl rfl (q_assign (v := .slice A25 (b_6 ++ [(b8 (wu8 n_4))]).length c26) rfl (by kernel_rfl)) ?_
      refine WR.nil ?_
      change WC _ _ _ _ _ _
      refine WC.ret ?_
      intro w hw
      obtain rfl := Option.some.inj h
      subst hF
      exact end_e (is := [1]) (by kernel_rfl) hw rfl ⟨A25, c26, row24, rfl, rfl, ho27, trivial⟩
abbrev r_firthref01_PutText (r : List UInt8) (U : List Rowb) (Γ : Gh) (v : Value) : Prop := ∃ (A0 : Option Addr), ∃ (c0 : Nat), ∃ (row0 : Rowb), v = .slice A0 r.length c0 ∧ U = [row0] ∧ Own byteT Γ 5 row0 A0 c0 r ∧ True
set_option maxRecDepth 100000 in
set_option maxHeartbeats 400000 in
theorem t_firthref01_PutText {Γ : Gh} {w0 : World} (s_ : ByteArray) (hs_ : s_.size ≤ lim) (hp : Pre [] Γ w0) {r : List UInt8} (h : m_firthref01_PutText s_ = some r) : Calls Tryz.prog 63 #[.string s_] w0 (Outc Γ [] w0 (r_firthref01_PutText r)) := by
  refine calls_of (N := 21) (rs := [2]) (args := [.string s_]) Tryz.func63 rfl Tryz.ntmps63 Tryz.results63 rfl ?_
  obtain ⟨F, hF⟩ : ∃ F : Fm, F = ⟨ids [], w0, Γ⟩ := ⟨_, rfl⟩
  refine WC.here (C := CC F Γ []) ?_ (hF ▸ hp.start)
  refine WC.rs ?_
  refine va rfl rfl rfl (q_assign (v := .slice none 0 0) rfl (by kernel_rfl)) ?_
  refine WR.nil ?_
  change WC _ _ _ _ _ _
  refine WC.rs ?_
  refine va rfl rfl rfl (q_move (v := .string s_) rfl (by kernel_rfl)) ?_
  refine va rfl rfl rfl (q_len_str rfl Tryz.underlying9 rfl) ?_
  obtain ⟨z1, hz2, h⟩ := bnd h
  refine e_call (is := []) rfl rfl (call_run Tryz.call62 rfl rfl (by kernel_rfl)) rfl (fun w hp => t_firthref01_PutNum ((s_.size : Nat) : Int) (len_r hs_) hp hz2) ?_
  rintro Γ3 U5 v6 hl4 ⟨A7, c8, row9, rfl, rfl, hr10, _⟩
  change WR _ _ _ (CC F Γ3 [row9]) _ _ (upd _ 7 (.slice A7 z1.length c8))
  refine va rfl rfl rfl (q_assign (v := .slice A7 z1.length c8) rfl (by kernel_rfl)) ?_
  refine WR.nil ?_
  change WC _ _ _ _ _ _
  refine WC.seq ?_
  refine WC.rs ?_
  refine va rfl rfl rfl (q_assign (v := .int .i64 0) rfl (by kernel_rfl)) ?_
  refine WR.nil ?_
  change WC _ _ _ _ _ _
  refine WC.block ?_
  refine WC.forU h (fun (i17 : Nat) (b_11 : List UInt8) σ w => ∃ (A12 : Option Addr), ∃ (c13 : Nat), ∃ (row14 : Rowb), slots σ [(0, .string s_), (3, .slice A12 b_11.length c13), (4, .int .i64 ((i17 : Nat) : Int))] ∧ CC F Γ3 [row14] w ∧ Own byteT Γ3 5 row14 A12 c13 b_11 ∧ True) ?_ ?_
  · skip
    intro w hw
    exact ⟨A7, c8, row9, (sl_ (by kernel_rfl)), hw, hr10, trivial⟩
  rintro f16 i17 b_11 σ w hi18 hlt19 hge20 ⟨A12, c13, row14, hsl, hw, ho15, -⟩
  refine Wpt.slots hsl ?_
  refine WC.here (C := CC F Γ3 [row14]) ?_ hw
  clear hw hsl
  refine WC.seq ?_
  refine WC.rs ?_
  refine va rfl rfl rfl (q_move (v := .int .i64 ((i17 : Nat) : Int)) rfl (by kernel_rfl)) ?_
  refine va rfl rfl rfl (q_move (v := .string s_) rfl (by kernel_rfl)) ?_
  refine va rfl rfl rfl (q_len_str rfl Tryz.underlying9 rfl) ?_
  refine va rfl rfl rfl (q_lss rfl rfl rfl) ?_
  refine WR.nil ?_
  change WC _ _ _ _ _ _
  refine WC.cond (b := (decide (((i17 : Nat) : Int) < ((s_.size : Nat) : Int)))) (by kernel_rfl) (fun hb21 => ?_) (fun hb21 => ?_)
  · skip
    have hl22 := ilt hb21
    have h := hlt19 hl22
    refine WC.skip ?_
    change WC _ _ _ _ _ _
    refine WC.seq ?_
    refine WC.block ?_
    refine WC.region ?_
    refine va rfl rfl rfl (q_move (v := .slice A12 b_11.length c13) rfl (by kernel_rfl)) ?_
    refine va rfl rfl rfl (q_move (v := .string s_) rfl (by kernel_rfl)) ?_
    refine va rfl rfl rfl (q_move (v := .int .i64 ((i17 : Nat) : Int)) rfl (by kernel_rfl)) ?_
    refine va rfl rfl rfl (q_sixn (i := i17) Tryz.underlying9 rfl rfl rfl hl22) ?_
    refine e_buildSlice (cs := #[.int .u8 (((gt s_.data.toList i17).toNat : Nat) : Int)]) (e := 5) rfl rfl rfl rfl (fun w => by kernel_rfl) ?_
    intro g23
    obtain ⟨hk24, h⟩ := chk_some h
    refine e_append (T := byteT) (xs := b_11) (ys := [(gt s_.data.toList i17)]) elem_86 (i := 1) rfl rfl rfl rfl rfl rfl rfl ho15 (of_decide_eq_true hk24) (fun w hw => src_one (T := byteT) (y := (gt s_.data.toList i17)) (i := 0) rfl (by exact rfl) hw) ?_
    intro row25 A26 c27 ho28
    refine va rfl rfl rfl (q_assign (v := .slice A26 (b_11 ++ [(gt s_.data.toList i17)]).length c27) rfl (by kernel_rfl)) ?_
    refine WR.nil ?_
    change WC _ _ _ _ _ _
    refine WC.region ?_
    refine va rfl rfl rfl (q_move (v := .int .i64 ((i17 : Nat) : Int)) rfl (by kernel_rfl)) ?_
    refine va rfl rfl rfl (q_add_r (r := ((i17 + 1 : Nat) : Int)) rfl rfl rfl (ctr_len hl22 hs_)) ?_
    refine va rfl rfl rfl (q_assign (v := .int .i64 ((i17 + 1 : Nat) : Int)) rfl (by kernel_rfl)) ?_
    refine WR.nil ?_
    intro w hw
    exact ⟨hl22, (b_11 ++ [(gt s_.data.toList i17)]), h, A26, c27, row25, (sl_ (by kernel_rfl)), (hw.only (is := [1]) rfl), ho28, trivial⟩
  · skip
    have h := hge20 (ige hb21)
    refine WC.exit ?_
    change WC _ _ _ _ _ _
    refine WC.rs ?_
    refine va rfl rfl rfl (q_move (v := .slice A12 b_11.length c13) rfl (by kernel_rfl)) ?_
    refine va rfl rfl rfl (q_assign (v := .slice A12 b_11.length c13) rfl (by kernel_rfl)) ?_
    refine WR.nil ?_
    change WC _ _ _ _ _ _
    refine WC.ret ?_
    intro w hw
    obtain rfl := Option.some.inj h
    subst hF
    exact end_e (is := [0]) (by kernel_rfl) hw rfl ⟨A12, c13, row14, rfl, rfl, ho15, trivial⟩
set_option maxRecDepth 100000 in
set_option maxHeartbeats 400000 in
theorem t_firthref05_Mark {Γ : Gh} {w0 : World} (key : ByteArray) (hkey : key.size ≤ lim) {Al : Option Addr} {cl : Nat} {l : List Ver} (hl : Sl verT Γ Al l) (hlc : l.length ≤ cl) (hs : Sat Γ w0) {r : Int} (h : m_firthref05_Mark key l = some r) : Calls Tryz.prog 45 #[.string key, .slice Al l.length cl] w0 (fun e w' => e = .returned (.int .u64 r) ∧ Fr no w0 w') := by
  refine calls_of (N := 35) (rs := [4]) (args := [.string key, .slice Al l.length cl]) Tryz.func45 rfl Tryz.ntmps45 Tryz.results45 rfl ?_
  obtain ⟨F, hF⟩ : ∃ F : Fm, F = ⟨no, w0, Γ⟩ := ⟨_, rfl⟩
  refine WC.here (C := CC F Γ []) ?_ (hF ▸ Cur.start0 hs)
  refine WC.rs ?_
  refine va rfl rfl rfl (q_assign (v := .int .u64 0) rfl (by kernel_rfl)) ?_
  refine WR.nil ?_
  change WC _ _ _ _ _ _
  refine WC.rs ?_
  refine va rfl rfl rfl (q_move (v := .string key) rfl (by kernel_rfl)) ?_
  obtain ⟨z1, hz2, h⟩ := bnd h
  refine e_call (is := []) rfl rfl (call_run Tryz.call63 rfl rfl (by kernel_rfl)) rfl (fun w hp => t_firthref01_PutText key hkey hp hz2) ?_
  rintro Γ3 U5 v6 hl4 ⟨A7, c8, row9, rfl, rfl, hr10, _⟩
  change WR _ _ _ (CC F Γ3 [row9]) _ _ (upd _ 8 (.slice A7 z1.length c8))
  refine va rfl rfl rfl (q_assign (v := .slice A7 z1.length c8) rfl (by kernel_rfl)) ?_
  refine WR.nil ?_
  change WC _ _ _ _ _ _
  refine WC.seq ?_
  refine WC.rs ?_
  refine va rfl rfl rfl (q_assign (v := .int .i64 0) rfl (by kernel_rfl)) ?_
  refine WR.nil ?_
  change WC _ _ _ _ _ _
  refine WC.block ?_
  refine WC.forI h (fun (i19 : Nat) (b_13 : List UInt8) σ w => ∃ (Γ11 : Gh), ∃ (A14 : Option Addr), ∃ (c15 : Nat), ∃ (row16 : Rowb), slots σ [(1, .slice Al l.length cl), (5, .slice A14 b_13.length c15), (6, .int .i64 ((i19 : Nat) : Int))] ∧ CC F Γ11 [row16] w ∧ Gh.le Γ3 Γ11 ∧ Own byteT Γ11 5 row16 A14 c15 b_13 ∧ True) ?_ ?_
  · skip
    intro w hw
    exact ⟨Γ3, A7, c8, row9, (sl_ (by kernel_rfl)), hw, (Gh.refl _), hr10, trivial⟩
  rintro f18 i19 b_13 σ w hi20 hlt21 hge22 ⟨Γ11, A14, c15, row16, hsl, hw, hl12, ho17, -⟩
  refine Wpt.slots hsl ?_
  refine WC.here (C := CC F Γ11 [row16]) ?_ hw
  clear hw hsl
  refine WC.seq ?_
  refine WC.rs ?_
  refine va rfl rfl rfl (q_move (v := .int .i64 ((i19 : Nat) : Int)) rfl (by kernel_rfl)) ?_
  refine va rfl rfl rfl (q_move (v := .slice Al l.length cl) rfl (by kernel_rfl)) ?_
  refine va rfl rfl rfl (q_len_slice rfl Tryz.underlying39 rfl) ?_
  refine va rfl rfl rfl (q_lss rfl rfl rfl) ?_
  refine WR.nil ?_
  change WC _ _ _ _ _ _
  refine WC.cond (b := (decide (((i19 : Nat) : Int) < ((l.length : Nat) : Int)))) (by kernel_rfl) (fun hb23 => ?_) (fun hb23 => ?_)
  · skip
    have hl24 := ilt hb23
    have h := hlt21 hl24
    refine WC.skip ?_
    change WC _ _ _ _ _ _
    refine WC.seq ?_
    refine WC.block ?_
    refine WC.rs ?_
    refine va rfl rfl rfl (q_move (v := .slice A14 b_13.length c15) rfl (by kernel_rfl)) ?_
    refine va rfl rfl rfl (q_move (v := .slice Al l.length cl) rfl (by kernel_rfl)) ?_
    refine va rfl rfl rfl (q_move (v := .int .i64 ((i19 : Nat) : Int)) rfl (by kernel_rfl)) ?_
    refine va rfl rfl rfl (q_ixn (i := i19) Tryz.underlying39 Tryz.sizeOf51 rfl rfl rfl hl24 ((hl.mono (hl4.trans hl12)).some_ hl24)) ?_
    refine va rfl rfl rfl (q_field_addr (i19 * 5) fld_51_0 rfl rfl ((hl.mono (hl4.trans hl12)).some_ hl24) rfl) ?_
    refine va rfl rfl rfl (q_field_addr (i19 * 5) fld_48_0 rfl rfl ((hl.mono (hl4.trans hl12)).some_ hl24) rfl) ?_
    obtain ⟨A25, c26, hx27⟩ := (hl.mono (hl4.trans hl12)).verT_at i19
    refine va rfl rfl rfl (q_ld (c := 0) (v := .int .i64 (gt l i19).dot.s) (hx27 hl24).2 rfl Tryz.isAgg3 rfl rfl) ?_
    obtain ⟨z28, hz29, h⟩ := bnd h
    refine e_call (is := []) rfl rfl (call_run Tryz.call62 rfl rfl (by kernel_rfl)) rfl (fun w hp => t_firthref01_PutNum ((gt l i19).dot.s) (hx27 hl24).1.1 hp hz29) ?_
    rintro Γ30 U32 v33 hl31 ⟨A34, c35, row36, rfl, rfl, hr37, _⟩
    change WR _ _ _ (CC F Γ30 [row36, row16]) _ _ (upd _ 22 (.slice A34 z28.length c35))
    obtain ⟨hk38, h⟩ := chk_some h
    refine e_append (T := byteT) (xs := b_13) (ys := z28) elem_86 (i := 1) rfl rfl rfl rfl rfl rfl rfl (ho17.mono hl31) (of_decide_eq_true hk38) (fun w hw => src_own (i := 0) rfl hr37 hw) ?_
    intro row39 A40 c41 ho42
    refine va rfl rfl rfl (q_assign (v := .slice A40 (b_13 ++ z28).length c41) rfl (by kernel_rfl)) ?_
    refine WR.nil ?_
    change WC _ _ _ _ _ _
    refine WC.region ?_
    refine va rfl rfl rfl (q_move (v := .slice A40 (b_13 ++ z28).length c41) rfl (by kernel_rfl)) ?_
    refine va rfl rfl rfl (q_move (v := .slice Al l.length cl) rfl (by kernel_rfl)) ?_
    refine va rfl rfl rfl (q_move (v := .int .i64 ((i19 : Nat) : Int)) rfl (by kernel_rfl)) ?_
    refine va rfl rfl rfl (q_ixn (i := i19) Tryz.underlying39 Tryz.sizeOf51 rfl rfl rfl hl24 ((hl.mono ((hl4.trans hl12).trans hl31)).some_ hl24)) ?_
    refine va rfl rfl rfl (q_field_addr (i19 * 5) fld_51_0 rfl rfl ((hl.mono ((hl4.trans hl12).trans hl31)).some_ hl24) rfl) ?_
    refine va rfl rfl rfl (q_field_addr (i19 * 5 + 1) fld_48_1 rfl rfl ((hl.mono ((hl4.trans hl12).trans hl31)).some_ hl24) rfl) ?_
    refine va rfl rfl rfl (q_ld (c := 1) (v := .int .i64 (gt l i19).dot.n) ((hx27 hl24).2.mono hl31) rfl Tryz.isAgg2 rfl rfl) ?_
    obtain ⟨z43, hz44, h⟩ := bnd h
    refine e_call (is := []) rfl rfl (call_run Tryz.call62 rfl rfl (by kernel_rfl)) rfl (fun w hp => t_firthref01_PutNum ((gt l i19).dot.n) (hx27 hl24).1.2.1 hp hz44) ?_
    rintro Γ45 U47 v48 hl46 ⟨A49, c50, row51, rfl, rfl, hr52, _⟩
    change WR _ _ _ (CC F Γ45 [row51, row36, row39]) _ _ (upd _ 31 (.slice A49 z43.length c50))
    obtain ⟨hk53, h⟩ := chk_some h
    refine e_append (T := byteT) (xs := (b_13 ++ z28)) (ys := z43) elem_86 (i := 2) rfl rfl rfl rfl rfl rfl rfl (ho42.mono hl46) (of_decide_eq_true hk53) (fun w hw => src_own (i := 0) rfl hr52 hw) ?_
    intro row54 A55 c56 ho57
    refine va rfl rfl rfl (q_assign (v := .slice A55 ((b_13 ++ z28) ++ z43).length c56) rfl (by kernel_rfl)) ?_
    refine WR.nil ?_
    change WC _ _ _ _ _ _
    refine WC.region ?_
    refine va rfl rfl rfl (q_move (v := .int .i64 ((i19 : Nat) : Int)) rfl (by kernel_rfl)) ?_
    refine va rfl rfl rfl (q_add_r (r := ((i19 + 1 : Nat) : Int)) rfl rfl rfl (ctr_len hl24 (hl.mono (hl4.trans hl12)).le)) ?_
    refine va rfl rfl rfl (q_assign (v := .int .i64 ((i19 + 1 : Nat) : Int)) rfl (by kernel_rfl)) ?_
    refine WR.nil ?_
    intro w hw
    exact ⟨hl24, ((b_13 ++ z28) ++ z43), h, Γ45, A55, c56, row54, (sl_ (by kernel_rfl)), (hw.only (is := [2]) rfl), ((hl12.trans hl31).trans hl46), ho57, trivial⟩
  · skip
    have h := hge22 (ige hb23)
    refine WC.exit ?_
    change WC _ _ _ _ _ _
    refine WC.rs ?_
    refine va rfl rfl rfl (q_move (v := .slice A14 b_13.length c15) rfl (by kernel_rfl)) ?_
    obtain ⟨z58, hz59, h⟩ := bnd h
    refine vc rfl rfl rfl (q_call (call_run Tryz.call27 rfl rfl (by kernel_rfl)) (fun w hw => t_firthref01_Hash (Γ := Gh.all w) (ho17.sl hw.sat.le_all (hw.ra 0 rfl)) ho17.capz (Sat.all w) hz59)) ?_
    refine va rfl rfl rfl (q_assign (v := .int .u64 z58) rfl (by kernel_rfl)) ?_
    refine WR.nil ?_
    change WC _ _ _ _ _ _
    refine WC.ret ?_
    intro w hw
    obtain rfl := Option.some.inj h
    subst hF
    exact ⟨by kernel_rfl, hw.fr⟩
abbrev r_firthref11_halves (r : List UInt8) (U : List Rowb) (Γ : Gh) (v : Value) : Prop := ∃ (A0 : Option Addr), ∃ (c0 : Nat), ∃ (row0 : Rowb), v = .slice A0 r.length c0 ∧ U = [row0] ∧ Own byteT Γ 5 row0 A0 c0 r ∧ True
set_option maxRecDepth 100000 in
set_option maxHeartbeats 400000 in
theorem t_firthref11_halves {Γ : Gh} {w0 : World} {Ab : Option Addr} {cb : Nat} {rowb : Rowb} {b : List UInt8} (hb : Own byteT Γ 5 rowb Ab cb b) (h_ : Int) (hh_ : U64 h_) (hp : Pre [rowb] Γ w0) {r : List UInt8} (h : m_firthref11_halves b h_ = some r) : Calls Tryz.prog 44 #[.slice Ab b.length cb, .int .u64 h_] w0 (Outc Γ [rowb] w0 (r_firthref11_halves r)) := by
  refine calls_of (N := 17) (rs := [4]) (args := [.slice Ab b.length cb, .int .u64 h_]) Tryz.func44 rfl Tryz.ntmps44 Tryz.results44 rfl ?_
  obtain ⟨F, hF⟩ : ∃ F : Fm, F = ⟨ids [rowb], w0, Γ⟩ := ⟨_, rfl⟩
  refine WC.here (C := CC F Γ [rowb]) ?_ (hF ▸ hp.start)
  refine WC.rs ?_
  refine va rfl rfl rfl (q_assign (v := .slice none 0 0) rfl (by kernel_rfl)) ?_
  refine WR.nil ?_
  change WC _ _ _ _ _ _
  refine WC.rs ?_
  refine va rfl rfl rfl (q_move (v := .slice Ab b.length cb) rfl (by kernel_rfl)) ?_
  refine va rfl rfl rfl (q_move (v := .int .u64 h_) rfl (by kernel_rfl)) ?_
  refine va rfl rfl rfl (q_quo rfl rfl rfl (by decide)) ?_
  refine va rfl rfl rfl (q_conv Tryz.underlying2 Tryz.underlying28 rfl rfl) ?_
  obtain ⟨z1, hz2, h⟩ := bnd h
  refine e_call (is := []) rfl rfl (call_run Tryz.call62 rfl rfl (by kernel_rfl)) rfl (fun w hp => t_firthref01_PutNum (w64 (wu64 (h_.tdiv 4294967296))) (w64_r _) hp hz2) ?_
  rintro Γ3 U5 v6 hl4 ⟨A7, c8, row9, rfl, rfl, hr10, _⟩
  change WR _ _ _ (CC F Γ3 [row9, rowb]) _ _ (upd _ 9 (.slice A7 z1.length c8))
  obtain ⟨hk11, h⟩ := chk_some h
  refine e_append (T := byteT) (xs := b) (ys := z1) elem_86 (i := 1) rfl rfl rfl rfl rfl rfl rfl (hb.mono hl4) (of_decide_eq_true hk11) (fun w hw => src_own (i := 0) rfl hr10 hw) ?_
  intro row12 A13 c14 ho15
  refine va rfl rfl rfl (q_assign (v := .slice A13 (b ++ z1).length c14) rfl (by kernel_rfl)) ?_
  refine WR.nil ?_
  change WC _ _ _ _ _ _
  refine WC.rs ?_
  refine va rfl rfl rfl (q_move (v := .slice A13 (b ++ z1).length c14) rfl (by kernel_rfl)) ?_
  refine va rfl rfl rfl (q_move (v := .int .u64 h_) rfl (by kernel_rfl)) ?_
  refine va rfl rfl rfl (q_rem rfl rfl rfl (by decide)) ?_
  refine va rfl rfl rfl (q_conv Tryz.underlying2 Tryz.underlying28 rfl rfl) ?_
  obtain ⟨z16, hz17, h⟩ := bnd h
  refine e_call (is := []) rfl rfl (call_run Tryz.call62 rfl rfl (by kernel_rfl)) rfl (fun w hp => t_firthref01_PutNum (w64 (h_.tmod 4294967296)) (w64_r _) hp hz17) ?_
  rintro Γ18 U20 v21 hl19 ⟨A22, c23, row24, rfl, rfl, hr25, _⟩
  change WR _ _ _ (CC F Γ18 [row24, row9, row12]) _ _ (upd _ 15 (.slice A22 z16.length c23))
  obtain ⟨hk26, h⟩ := chk_some h
  refine e_append (T := byteT) (xs := (b ++ z1)) (ys := z16) elem_86 (i := 2) rfl rfl rfl rfl rfl rfl rfl (ho15.mono hl19) (of_decide_eq_true hk26) (fun w hw => src_own (i := 0) rfl hr25 hw) ?_
  intro row27 A28 c29 ho30
  refine va rfl rfl rfl (q_assign (v := .slice A28 ((b ++ z1) ++ z16).length c29) rfl (by kernel_rfl)) ?_
  refine WR.nil ?_
  change WC _ _ _ _ _ _
  refine WC.ret ?_
  intro w hw
  obtain rfl := Option.some.inj h
  subst hF
  exact end_e (is := [2]) (by kernel_rfl) hw rfl ⟨A28, c29, row27, rfl, rfl, ho30, trivial⟩
abbrev r_firthref11_longer (r : List Int) (U : List Rowb) (Γ : Gh) (v : Value) : Prop := ∃ (A0 : Option Addr), ∃ (c0 : Nat), ∃ (row0 : Rowb), v = .slice A0 r.length c0 ∧ U = [row0] ∧ Own intT Γ 3 row0 A0 c0 r ∧ True
set_option maxRecDepth 100000 in
set_option maxHeartbeats 400000 in
theorem t_firthref11_longer {Γ : Gh} {w0 : World} {Apath : Option Addr} {cpath : Nat} {path : List Int} (hpath : Sl intT Γ Apath path) (hpathc : path.length ≤ cpath) (d : Int) (hd : I64 d) (hp : Pre [] Γ w0) {r : List Int} (h : m_firthref11_longer path d = some r) : Calls Tryz.prog 30 #[.slice Apath path.length cpath, .int .i64 d] w0 (Outc Γ [] w0 (r_firthref11_longer r)) := by
  refine calls_of (N := 13) (rs := [4]) (args := [.slice Apath path.length cpath, .int .i64 d]) Tryz.func30 rfl Tryz.ntmps30 Tryz.results30 rfl ?_
  obtain ⟨F, hF⟩ : ∃ F : Fm, F = ⟨ids [], w0, Γ⟩ := ⟨_, rfl⟩
  refine WC.here (C := CC F Γ []) ?_ (hF ▸ hp.start)
  refine WC.rs ?_
  refine va rfl rfl rfl (q_assign (v := .slice none 0 0) rfl (by kernel_rfl)) ?_
  refine WR.nil ?_
  change WC _ _ _ _ _ _
  refine WC.rs ?_
  refine va rfl rfl rfl (q_assign (v := .slice none 0 0) rfl (by kernel_rfl)) ?_
  refine WR.nil ?_
  change WC _ _ _ _ _ _
  refine WC.rs ?_
  refine va rfl rfl rfl (q_move (v := .slice none 0 0) rfl (by kernel_rfl)) ?_
  refine va rfl rfl rfl (q_move (v := .slice Apath path.length cpath) rfl (by kernel_rfl)) ?_
  refine WR.sub (fun w hw => hw.pad) ?_
  obtain ⟨hk1, h⟩ := chk_some h
  refine e_append (T := intT) (xs := []) (ys := path) elem_23 (i := 0) rfl rfl rfl rfl (by kernel_rfl) rfl rfl (Own.nil intT Γ 3) (of_decide_eq_true hk1) (fun w hw => src_sl hpath hw) ?_
  intro row2 A3 c4 ho5
  refine va rfl rfl rfl (q_assign (v := .slice A3 path.length c4) rfl (by kernel_rfl)) ?_
  refine WR.nil ?_
  change WC _ _ _ _ _ _
  refine WC.rs ?_
  refine va rfl rfl rfl (q_move (v := .slice A3 path.length c4) rfl (by kernel_rfl)) ?_
  refine va rfl rfl rfl (q_move (v := .int .i64 d) rfl (by kernel_rfl)) ?_
  refine e_buildSlice (cs := #[.int .i64 d]) (e := 3) rfl rfl rfl rfl (fun w => by kernel_rfl) ?_
  intro g6
  obtain ⟨hk7, h⟩ := chk_some h
  refine e_append (T := intT) (xs := path) (ys := [d]) elem_23 (i := 1) rfl rfl rfl rfl rfl rfl rfl ho5 (of_decide_eq_true hk7) (fun w hw => src_one (T := intT) (y := d) (i := 0) rfl (by exact ⟨rfl, hd⟩) hw) ?_
  intro row8 A9 c10 ho11
  refine va rfl rfl rfl (q_assign (v := .slice A9 (path ++ [d]).length c10) rfl (by kernel_rfl)) ?_
  refine WR.nil ?_
  change WC _ _ _ _ _ _
  refine WC.ret ?_
  intro w hw
  obtain rfl := Option.some.inj h
  subst hF
  exact end_e (is := [1]) (by kernel_rfl) hw rfl ⟨A9, c10, row8, rfl, rfl, ho11, trivial⟩
abbrev r_firthref11_Text (r : List UInt8) (U : List Rowb) (Γ : Gh) (v : Value) : Prop := ∃ (A0 : Option Addr), ∃ (c0 : Nat), ∃ (row0 : Rowb), v = .slice A0 r.length c0 ∧ U = [row0] ∧ Own byteT Γ 5 row0 A0 c0 r ∧ True
set_option maxRecDepth 100000 in
set_option maxHeartbeats 400000 in
theorem t_firthref11_Text {Γ : Gh} {w0 : World} {H : List Rec → List Int → Option Int} (hH : C_firthref11_Hash H) {Aall : Option Addr} {call : Nat} {all : List Rec} (hall : Sl recT Γ Aall all) (hallc : all.length ≤ call) {Apath : Option Addr} {cpath : Nat} {path : List Int} (hpath : Sl intT Γ Apath path) (hpathc : path.length ≤ cpath) (hp : Pre [] Γ w0) {r : List UInt8} (h : m_firthref11_Text H all path = some r) : Calls Tryz.prog 28 #[.slice Aall all.length call, .slice Apath path.length cpath] w0 (Outc Γ [] w0 (r_firthref11_Text r)) := by
  refine calls_of (N := 47) (rs := [4]) (args := [.slice Aall all.length call, .slice Apath path.length cpath]) Tryz.func28 rfl Tryz.ntmps28 Tryz.results28 rfl ?_
  obtain ⟨F, hF⟩ : ∃ F : Fm, F = ⟨ids [], w0, Γ⟩ := ⟨_, rfl⟩
  refine WC.here (C := CC F Γ []) ?_ (hF ▸ hp.start)
  refine WC.rs ?_
  refine va rfl rfl rfl (q_assign (v := .slice none 0 0) rfl (by kernel_rfl)) ?_
  refine WR.nil ?_
  change WC _ _ _ _ _ _
  refine WC.rs ?_
  refine va rfl rfl rfl (q_assign (v := .slice none 0 0) rfl (by kernel_rfl)) ?_
  refine WR.nil ?_
  change WC _ _ _ _ _ _
  refine WC.rs ?_
  refine va rfl rfl rfl (q_move (v := .slice Aall all.length call) rfl (by kernel_rfl)) ?_
  refine va rfl rfl rfl (q_move (v := .slice Apath path.length cpath) rfl (by kernel_rfl)) ?_
  obtain ⟨z1, hz2, h⟩ := bnd h
  refine e_call (is := []) rfl rfl (call_run Tryz.call14 rfl rfl (by kernel_rfl)) rfl (fun w hp => t_firthref11_Recs hall hallc hpath hpathc hp hz2) ?_
  rintro Γ3 U5 v6 hl4 ⟨A7, c8, row9, rfl, rfl, hr10, _⟩
  change WR _ _ _ (CC F Γ3 [row9]) _ _ (upd _ 11 (.slice A7 z1.length c8))
  refine va rfl rfl rfl (q_assign (v := .slice A7 z1.length c8) rfl (by kernel_rfl)) ?_
  refine WR.nil ?_
  change WC _ _ _ _ _ _
  refine WC.seq ?_
  refine WC.rs ?_
  refine va rfl rfl rfl (q_move (v := .slice Apath path.length cpath) rfl (by kernel_rfl)) ?_
  refine va rfl rfl rfl (q_len_slice rfl Tryz.underlying23 rfl) ?_
  refine va rfl rfl rfl (q_eql rfl rfl rfl) ?_
  refine WR.nil ?_
  change WC _ _ _ _ _ _
  refine WC.cif h (by kernel_rfl) (fun hb11 h => ?_) (fun hb11 h => ?_)
  · skip
    refine WC.seq ?_
    refine WC.rs ?_
    refine va rfl rfl rfl (q_assign (v := .int .i64 0) rfl (by kernel_rfl)) ?_
    refine WR.nil ?_
    change WC _ _ _ _ _ _
    refine WC.block ?_
    refine WC.forI h (fun (i20 : Nat) (b_14 : List UInt8) σ w => ∃ (Γ12 : Gh), ∃ (A15 : Option Addr), ∃ (c16 : Nat), ∃ (row17 : Rowb), slots σ [(5, .slice A15 b_14.length c16), (6, .slice A7 z1.length c8), (7, .int .i64 ((i20 : Nat) : Int))] ∧ CC F Γ12 [row17, row9] w ∧ Gh.le Γ3 Γ12 ∧ Own byteT Γ12 5 row17 A15 c16 b_14 ∧ True) ?_ ?_
    · skip
      intro w hw
      have hw := hw.pad
      exact ⟨Γ3, none, 0, [], (sl_ (by kernel_rfl)), hw, (Gh.refl _), (Own.nil byteT _ 5), trivial⟩
    rintro f19 i20 b_14 σ w hi21 hlt22 hge23 ⟨Γ12, A15, c16, row17, hsl, hw, hl13, ho18, -⟩
    refine Wpt.slots hsl ?_
    refine WC.here (C := CC F Γ12 [row17, row9]) ?_ hw
    clear hw hsl
    refine WC.seq ?_
    refine WC.rs ?_
    refine va rfl rfl rfl (q_move (v := .int .i64 ((i20 : Nat) : Int)) rfl (by kernel_rfl)) ?_
    refine va rfl rfl rfl (q_move (v := .slice A7 z1.length c8) rfl (by kernel_rfl)) ?_
    refine va rfl rfl rfl (q_len_slice rfl Tryz.underlying22 rfl) ?_
    refine va rfl rfl rfl (q_lss rfl rfl rfl) ?_
    refine WR.nil ?_
    change WC _ _ _ _ _ _
    refine WC.cond (b := (decide (((i20 : Nat) : Int) < ((z1.length : Nat) : Int)))) (by kernel_rfl) (fun hb24 => ?_) (fun hb24 => ?_)
    · skip
      have hl25 := ilt hb24
      have h := hlt22 hl25
      refine WC.skip ?_
      change WC _ _ _ _ _ _
      refine WC.seq ?_
      refine WC.block ?_
      intro w hw; have h026 := hw.le
      refine WC.here (C := CC F Γ12 [row17, row9]) ?_ hw; clear hw
      refine WC.held (CC F Γ12 [row9]) (by kernel_rfl) (fun w hw => hw.drawn _) ?_
      change WH _ _ _ _ (CC F Γ12 [row17, row9]) _ 14 #[false, false, false, false, false, false, false, false, false, false, false, false, false, false] _
      refine ht (i := 0) rfl (by kernel_rfl) rfl rfl rfl (fun w hw => hw.back (Gh.refl _) h026 (.cons _ (.cons_cons _ .slnil))) (q_move (v := .slice A15 b_14.length c16) rfl (by kernel_rfl)) ?_
      refine ht (i := 1) rfl (by kernel_rfl) rfl rfl rfl (fun w hw => hw.back (Gh.refl _) h026 (.cons _ (.cons_cons _ .slnil))) (q_move (v := .slice A7 z1.length c8) rfl (by kernel_rfl)) ?_
      refine ht (i := 2) rfl (by kernel_rfl) rfl rfl rfl (fun w hw => hw.back (Gh.refl _) h026 (.cons _ (.cons_cons _ .slnil))) (q_move (v := .int .i64 ((i20 : Nat) : Int)) rfl (by kernel_rfl)) ?_
      refine ht (i := 3) rfl (by kernel_rfl) rfl rfl rfl (fun w hw => hw.back (Gh.refl _) h026 (.cons _ (.cons_cons _ .slnil))) (q_ixn (i := i20) Tryz.underlying22 Tryz.sizeOf41 rfl rfl rfl hl25 ((hr10.mono hl13).some_ hl25)) ?_
      refine ht (i := 4) rfl (by kernel_rfl) rfl rfl rfl (fun w hw => hw.back (Gh.refl _) h026 (.cons _ (.cons_cons _ .slnil))) (q_field_addr (i20 * 2) fld_41_0 rfl rfl ((hr10.mono hl13).some_ hl25) rfl) ?_
      obtain ⟨A27, c28, hx29⟩ := (hr10.mono hl13).recT_at i20
      refine ht (i := 5) rfl (by kernel_rfl) rfl rfl rfl (fun w hw => hw.back (Gh.refl _) h026 (.cons _ (.cons_cons _ .slnil))) (q_ldo (c := 0) (v := .string (gt z1 i20).key) (i := 0) rfl (hx29 hl25).2 rfl Tryz.isAgg9 rfl rfl) ?_
      refine ht (i := 6) rfl (by kernel_rfl) rfl rfl rfl (fun w hw => hw.back (Gh.refl _) h026 (.cons _ (.cons_cons _ .slnil))) (q_move (v := .slice A7 z1.length c8) rfl (by kernel_rfl)) ?_
      refine ht (i := 7) rfl (by kernel_rfl) rfl rfl rfl (fun w hw => hw.back (Gh.refl _) h026 (.cons _ (.cons_cons _ .slnil))) (q_move (v := .int .i64 ((i20 : Nat) : Int)) rfl (by kernel_rfl)) ?_
      refine ht (i := 8) rfl (by kernel_rfl) rfl rfl rfl (fun w hw => hw.back (Gh.refl _) h026 (.cons _ (.cons_cons _ .slnil))) (q_ixn (i := i20) Tryz.underlying22 Tryz.sizeOf41 rfl rfl rfl hl25 ((hr10.mono hl13).some_ hl25)) ?_
      refine ht (i := 9) rfl (by kernel_rfl) rfl rfl rfl (fun w hw => hw.back (Gh.refl _) h026 (.cons _ (.cons_cons _ .slnil))) (q_field_addr (i20 * 2 + 1) fld_41_1 rfl rfl ((hr10.mono hl13).some_ hl25) rfl) ?_
      refine ht (i := 10) rfl (by kernel_rfl) rfl rfl rfl (fun w hw => hw.back (Gh.refl _) h026 (.cons _ (.cons_cons _ .slnil))) (q_ldo (c := 1) (v := .slice A27 ((gt z1 i20).vers).length c28) (i := 0) rfl (hx29 hl25).2 rfl Tryz.isAgg39 rfl rfl) ?_
      refine WH.lone (i := 11) (by kernel_rfl) rfl ?_
      obtain ⟨z30, hz31, h⟩ := bnd h
      refine vc rfl rfl rfl (q_call (call_run Tryz.call45 rfl rfl (by kernel_rfl)) (fun w hw => t_firthref05_Mark (Γ := Gh.all w) ((gt z1 i20).key) (hx29 hl25).1.1 ((hx29 hl25).1.2.2.mono hw.sat.le_all) (hx29 hl25).1.2.1 (Sat.all w) hz31)) ?_
      refine WR.nil ?_
      refine WH.next (fun w hw => hw.back (Gh.refl _) h026 (.cons _ (.cons_cons _ .slnil))) ?_
      refine WH.lone (i := 12) (by kernel_rfl) rfl ?_
      obtain ⟨hk32, h⟩ := chk_some h
      obtain ⟨z33, hz34, h⟩ := bnd h
      refine e_call (is := [0]) rfl rfl (call_run Tryz.call44 rfl rfl (by kernel_rfl)) rfl (fun w hp => t_firthref11_halves ho18 z30 (u64b_of hk32) hp hz34) ?_
      rintro Γ35 U37 v38 hl36 ⟨A39, c40, row41, rfl, rfl, hr42, _⟩
      change WR _ _ _ (CC F Γ35 [row41, row9]) _ _ (upd _ 33 (.slice A39 z33.length c40))
      refine WR.nil ?_
      refine WH.next (fun w hw => hw.back hl36 h026 (.cons _ (.cons_cons _ .slnil))) ?_
      refine ht (i := 13) rfl (by kernel_rfl) rfl rfl rfl (fun w hw => hw.back hl36 h026 (.cons _ (.cons_cons _ .slnil))) (q_assign (v := .slice A39 z33.length c40) rfl (by kernel_rfl)) ?_
      refine WH.done (by kernel_rfl) ?_
      change WC _ _ _ _ _ _
      refine WC.region ?_
      refine va rfl rfl rfl (q_move (v := .int .i64 ((i20 : Nat) : Int)) rfl (by kernel_rfl)) ?_
      refine va rfl rfl rfl (q_add_r (r := ((i20 + 1 : Nat) : Int)) rfl rfl rfl (ctr_len hl25 (hr10.mono hl13).le)) ?_
      refine va rfl rfl rfl (q_assign (v := .int .i64 ((i20 + 1 : Nat) : Int)) rfl (by kernel_rfl)) ?_
      refine WR.nil ?_
      intro w hw
      exact ⟨hl25, z33, h, Γ35, A39, c40, row41, (sl_ (by kernel_rfl)), hw, (hl13.trans hl36), hr42, trivial⟩
    · skip
      have h := hge23 (ige hb24)
      refine WC.exit ?_
      change WC _ _ _ _ _ _
      refine WC.rs ?_
      refine va rfl rfl rfl (q_move (v := .slice A15 b_14.length c16) rfl (by kernel_rfl)) ?_
      refine va rfl rfl rfl (q_assign (v := .slice A15 b_14.length c16) rfl (by kernel_rfl)) ?_
      refine WR.nil ?_
      change WC _ _ _ _ _ _
      refine WC.ret ?_
      intro w hw
      obtain rfl := Option.some.inj h
      subst hF
      exact end_e (is := [0]) (by kernel_rfl) hw rfl ⟨A15, c16, row17, rfl, rfl, ho18, trivial⟩
  · skip
    refine WC.skip ?_
    change WC _ _ _ _ _ _
    refine WC.seq ?_
    refine WC.rs ?_
    refine va rfl rfl rfl (q_assign (v := .int .i64 0) rfl (by kernel_rfl)) ?_
    refine WR.nil ?_
    change WC _ _ _ _ _ _
    refine WC.block ?_
    refine WC.forU h (fun (i51 : Nat) (b_45 : List UInt8) σ w => ∃ (Γ43 : Gh), ∃ (A46 : Option Addr), ∃ (c47 : Nat), ∃ (row48 : Rowb), slots σ [(1, .slice Apath path.length cpath), (5, .slice A46 b_45.length c47), (6, .slice A7 z1.length c8), (8, .int .i64 ((i51 : Nat) : Int))] ∧ CC F Γ43 [row48, row9] w ∧ Gh.le Γ3 Γ43 ∧ Own byteT Γ43 5 row48 A46 c47 b_45 ∧ True) ?_ ?_
    · skip
      intro w hw
      have hw := hw.pad
      exact ⟨Γ3, none, 0, [], (sl_ (by kernel_rfl)), hw, (Gh.refl _), (Own.nil byteT _ 5), trivial⟩
    rintro f50 i51 b_45 σ w hi52 hlt53 hge54 ⟨Γ43, A46, c47, row48, hsl, hw, hl44, ho49, -⟩
    refine Wpt.slots hsl ?_
    refine WC.here (C := CC F Γ43 [row48, row9]) ?_ hw
    clear hw hsl
    refine WC.seq ?_
    refine WC.rs ?_
    refine va rfl rfl rfl (q_move (v := .int .i64 ((i51 : Nat) : Int)) rfl (by kernel_rfl)) ?_
    refine va rfl rfl rfl (q_lss rfl rfl rfl) ?_
    refine WR.nil ?_
    change WC _ _ _ _ _ _
    refine WC.cond (b := (decide (((i51 : Nat) : Int) < 16))) (by kernel_rfl) (fun hb55 => ?_) (fun hb55 => ?_)
    · skip
      have hl56 := ilt hb55
      have h := hlt53 hl56
      refine WC.skip ?_
      change WC _ _ _ _ _ _
      refine WC.seq ?_
      refine WC.block ?_
      refine WC.region ?_
      refine va rfl rfl rfl (q_move (v := .slice A46 b_45.length c47) rfl (by kernel_rfl)) ?_
      refine va rfl rfl rfl (q_move (v := .slice A7 z1.length c8) rfl (by kernel_rfl)) ?_
      refine va rfl rfl rfl (q_move (v := .slice Apath path.length cpath) rfl (by kernel_rfl)) ?_
      refine va rfl rfl rfl (q_move (v := .int .i64 ((i51 : Nat) : Int)) rfl (by kernel_rfl)) ?_
      obtain ⟨z57, hz58, h⟩ := bnd h
      refine e_call (is := []) rfl rfl (call_run Tryz.call30 rfl rfl (by kernel_rfl)) rfl (fun w hp => t_firthref11_longer (hpath.mono (hl4.trans hl44)) hpathc ((i51 : Nat) : Int) (ctr_lit0 hl56 (by decide)) hp hz58) ?_
      rintro Γ59 U61 v62 hl60 ⟨A63, c64, row65, rfl, rfl, hr66, _⟩
      change WR _ _ _ (CC F Γ59 [row65, row48, row9]) _ _ (upd _ 43 (.slice A63 z57.length c64))
      obtain ⟨z67, hz68, h⟩ := bnd h
      refine vc rfl rfl rfl (q_call (call_run Tryz.call8 rfl rfl (by kernel_rfl)) (fun w hw => hH (Γ := Gh.all w) ((hr10.mono (hl44.trans hl60)).sl hw.sat.le_all (hw.ra 2 rfl)) (hr10.mono (hl44.trans hl60)).capz (hr66.sl hw.sat.le_all (hw.ra 0 rfl)) hr66.capz (Sat.all w) hz68)) ?_
      obtain ⟨hk69, h⟩ := chk_some h
      obtain ⟨z70, hz71, h⟩ := bnd h
      refine e_call (is := [1]) rfl rfl (call_run Tryz.call44 rfl rfl (by kernel_rfl)) rfl (fun w hp => t_firthref11_halves (ho49.mono hl60) z67 (u64b_of hk69) hp hz71) ?_
      rintro Γ72 U74 v75 hl73 ⟨A76, c77, row78, rfl, rfl, hr79, _⟩
      change WR _ _ _ (CC F Γ72 [row78, row65, row9]) _ _ (upd _ 45 (.slice A76 z70.length c77))
      refine va rfl rfl rfl (q_assign (v := .slice A76 z70.length c77) rfl (by kernel_rfl)) ?_
      refine WR.nil ?_
      change WC _ _ _ _ _ _
      refine WC.region ?_
      refine va rfl rfl rfl (q_move (v := .int .i64 ((i51 : Nat) : Int)) rfl (by kernel_rfl)) ?_
      refine va rfl rfl rfl (q_add_r (r := ((i51 + 1 : Nat) : Int)) rfl rfl rfl (ctr_lit hl56 (by decide))) ?_
      refine va rfl rfl rfl (q_assign (v := .int .i64 ((i51 + 1 : Nat) : Int)) rfl (by kernel_rfl)) ?_
      refine WR.nil ?_
      intro w hw
      exact ⟨hl56, z70, h, Γ72, A76, c77, row78, (sl_ (by kernel_rfl)), (hw.only (is := [0, 1]) rfl), ((hl44.trans hl60).trans hl73), hr79, trivial⟩
    · skip
      have h := hge54 (ige hb55)
      refine WC.exit ?_
      change WC _ _ _ _ _ _
      refine WC.rs ?_
      refine va rfl rfl rfl (q_move (v := .slice A46 b_45.length c47) rfl (by kernel_rfl)) ?_
      refine va rfl rfl rfl (q_assign (v := .slice A46 b_45.length c47) rfl (by kernel_rfl)) ?_
      refine WR.nil ?_
      change WC _ _ _ _ _ _
      refine WC.ret ?_
      intro w hw
      obtain rfl := Option.some.inj h
      subst hF
      exact end_e (is := [0]) (by kernel_rfl) hw rfl ⟨A46, c47, row48, rfl, rfl, ho49, trivial⟩
set_option maxRecDepth 100000 in
set_option maxHeartbeats 400000 in
theorem t_firthref11_Hash_o {Γ : Gh} {w0 : World} {H : List Rec → List Int → Option Int} (hH : C_firthref11_Hash H) {Aall : Option Addr} {call : Nat} {all : List Rec} (hall : Sl recT Γ Aall all) (hallc : all.length ≤ call) {Apath : Option Addr} {cpath : Nat} {path : List Int} (hpath : Sl intT Γ Apath path) (hpathc : path.length ≤ cpath) (hs : Sat Γ w0) {r : Int} (h : m_firthref11_Hash_o H all path = some r) : Calls Tryz.prog 8 #[.slice Aall all.length call, .slice Apath path.length cpath] w0 (fun e w' => e = .returned (.int .u64 r) ∧ Fr no w0 w') := by
  refine calls_of (N := 19) (rs := [4]) (args := [.slice Aall all.length call, .slice Apath path.length cpath]) Tryz.func8 rfl Tryz.ntmps8 Tryz.results8 rfl ?_
  obtain ⟨F, hF⟩ : ∃ F : Fm, F = ⟨no, w0, Γ⟩ := ⟨_, rfl⟩
  refine WC.here (C := CC F Γ []) ?_ (hF ▸ Cur.start0 hs)
  refine WC.rs ?_
  refine va rfl rfl rfl (q_assign (v := .int .u64 0) rfl (by kernel_rfl)) ?_
  refine WR.nil ?_
  change WC _ _ _ _ _ _
  refine WC.seq ?_
  refine WC.rs ?_
  refine va rfl rfl rfl (q_move (v := .slice Apath path.length cpath) rfl (by kernel_rfl)) ?_
  obtain ⟨z1, hz2, h⟩ := bnd h
  refine vc rfl rfl rfl (q_call (call_run Tryz.call26 rfl rfl (by kernel_rfl)) (fun w hw => t_firthref11_Path (Γ := Gh.all w) (hpath.mono hw.sat.le_all) hpathc (Sat.all w) hz2)) ?_
  refine va rfl rfl rfl (q_not rfl rfl) ?_
  refine va rfl rfl rfl (q_move (v := .bool (!z1)) rfl (by kernel_rfl)) ?_
  refine vg0 rfl rfl rfl rfl rfl (fun hg3 => QV.qo (q_move (v := .slice Aall all.length call) rfl (by kernel_rfl))) ?_
  refine vg0 rfl rfl rfl rfl rfl (fun hg4 => QV.qo (q_move (v := .slice Apath path.length cpath) rfl (by kernel_rfl))) ?_
  refine (Bool.eq_false_or_eq_true (!(!z1))).elim (fun hb5 => ?_) (fun hb5 => ?_)
  · skip
    have h := bt hb5 h
    refine WR.sat (c0 := true) (g := (!z1)) rfl rfl rfl hb5 ?_
    obtain ⟨z6, hz7, h⟩ := bnd h
    refine e_call (is := []) rfl rfl (call_run Tryz.call14 rfl rfl (args2 (gu hb5 rfl) (gu hb5 rfl))) rfl (fun w hp => t_firthref11_Recs hall hallc hpath hpathc hp hz7) ?_
    rintro Γ8 U10 v11 hl9 ⟨A12, c13, row14, rfl, rfl, hr15, _⟩
    change WR _ _ _ (CC F Γ8 [row14]) _ _ (upd _ 11 (.slice A12 z6.length c13))
    refine WR.sat (c0 := true) (g := (!z1)) rfl rfl rfl hb5 ?_
    refine va rfl rfl rfl (q_len_slice rfl Tryz.underlying22 rfl) ?_
    refine WR.sat (c0 := true) (g := (!z1)) rfl rfl rfl hb5 ?_
    refine va rfl rfl rfl (q_eql rfl rfl rfl) ?_
    refine va rfl rfl rfl (q_pick_f (v := .bool (((z6.length : Nat) : Int) == 0)) rfl rfl (not_t hb5) (by kernel_rfl)) ?_
    refine WR.nil ?_
    change WC _ _ _ _ _ _
    refine WC.cif h (by kernel_rfl) (fun hb16 h => ?_) (fun hb16 h => ?_)
    · skip
      refine WC.rs ?_
      refine va rfl rfl rfl (q_assign (v := .int .u64 0) rfl (by kernel_rfl)) ?_
      refine WR.nil ?_
      change WC _ _ _ _ _ _
      refine WC.ret ?_
      intro w hw
      obtain rfl := Option.some.inj h
      subst hF
      exact ⟨by kernel_rfl, hw.fr⟩
    · skip
      refine WC.skip ?_
      change WC _ _ _ _ _ _
      refine WC.rs ?_
      refine va rfl rfl rfl (q_move (v := .slice Aall all.length call) rfl (by kernel_rfl)) ?_
      refine va rfl rfl rfl (q_move (v := .slice Apath path.length cpath) rfl (by kernel_rfl)) ?_
      obtain ⟨z17, hz18, h⟩ := bnd h
      refine e_call (is := []) rfl rfl (call_run Tryz.call28 rfl rfl (by kernel_rfl)) rfl (fun w hp => t_firthref11_Text hH (hall.mono hl9) hallc (hpath.mono hl9) hpathc hp hz18) ?_
      rintro Γ19 U21 v22 hl20 ⟨A23, c24, row25, rfl, rfl, hr26, _⟩
      change WR _ _ _ (CC F Γ19 [row25, row14]) _ _ (upd _ 17 (.slice A23 z17.length c24))
      obtain ⟨z27, hz28, h⟩ := bnd h
      refine vc rfl rfl rfl (q_call (call_run Tryz.call27 rfl rfl (by kernel_rfl)) (fun w hw => t_firthref01_Hash (Γ := Gh.all w) (hr26.sl hw.sat.le_all (hw.ra 0 rfl)) hr26.capz (Sat.all w) hz28)) ?_
      refine va rfl rfl rfl (q_assign (v := .int .u64 z27) rfl (by kernel_rfl)) ?_
      refine WR.nil ?_
      change WC _ _ _ _ _ _
      refine WC.ret ?_
      intro w hw
      obtain rfl := Option.some.inj h
      subst hF
      exact ⟨by kernel_rfl, hw.fr⟩
  · skip
    have h := bf hb5 h
    refine WR.unsat (c0 := true) (g := (!z1)) rfl rfl rfl hb5 rfl ?_
    refine WR.unsat (c0 := true) (g := (!z1)) rfl rfl rfl hb5 rfl ?_
    refine WR.unsat (c0 := true) (g := (!z1)) rfl rfl rfl hb5 rfl ?_
    refine va rfl rfl rfl (q_pick_t (v := .bool true) rfl rfl (not_f hb5) (by kernel_rfl)) ?_
    refine WR.nil ?_
    change WC _ _ _ _ _ _
    refine WC.ctk (b := true) (by kernel_rfl) rfl ?_
    refine WC.rs ?_
    refine va rfl rfl rfl (q_assign (v := .int .u64 0) rfl (by kernel_rfl)) ?_
    refine WR.nil ?_
    change WC _ _ _ _ _ _
    refine WC.ret ?_
    intro w hw
    obtain rfl := Option.some.inj h
    subst hF
    exact ⟨by kernel_rfl, hw.fr⟩
theorem t_firthref11_Hash_n (n : Nat) : C_firthref11_Hash (m_firthref11_Hash_n n) := by
  induction n with
  | zero => intro Γ w0 Aall call all hall hallc Apath cpath path hpath hpathc hs r h; exact absurd h (by simp [m_firthref11_Hash_n])
  | succ n ih => intro Γ w0 Aall call all hall hallc Apath cpath path hpath hpathc hs r h; exact t_firthref11_Hash_o ih hall hallc hpath hpathc hs h

theorem t_firthref11_Hash {Γ : Gh} {w0 : World} {Aall : Option Addr} {call : Nat} {all : List Rec} (hall : Sl recT Γ Aall all) (hallc : all.length ≤ call) {Apath : Option Addr} {cpath : Nat} {path : List Int} (hpath : Sl intT Γ Apath path) (hpathc : path.length ≤ cpath) (hs : Sat Γ w0) {r : Int} (h : m_firthref11_Hash all path = some r) : Calls Tryz.prog 8 #[.slice Aall all.length call, .slice Apath path.length cpath] w0 (fun e w' => e = .returned (.int .u64 r) ∧ Fr no w0 w') := by
  exact t_firthref11_Hash_n 3 hall hallc hpath hpathc hs h

set_option maxRecDepth 100000 in
set_option maxHeartbeats 400000 in
theorem t_firthref03_Same {Γ : Gh} {w0 : World} {Aa : Option Addr} {ca : Nat} {a : List Span} (ha : Sl spanT Γ Aa a) (hac : a.length ≤ ca) {Ab : Option Addr} {cb : Nat} {b : List Span} (hb : Sl spanT Γ Ab b) (hbc : b.length ≤ cb) (hs : Sat Γ w0) {r : Bool} (h : m_firthref03_Same a b = some r) : Calls Tryz.prog 64 #[.slice Aa a.length ca, .slice Ab b.length cb] w0 (fun e w' => e = .returned (.bool r) ∧ Fr no w0 w') := by
  refine calls_of (N := 26) (rs := [4]) (args := [.slice Aa a.length ca, .slice Ab b.length cb]) Tryz.func64 rfl Tryz.ntmps64 Tryz.results64 rfl ?_
  obtain ⟨F, hF⟩ : ∃ F : Fm, F = ⟨no, w0, Γ⟩ := ⟨_, rfl⟩
  refine WC.here (C := CC F Γ []) ?_ (hF ▸ Cur.start0 hs)
  refine WC.rs ?_
  refine va rfl rfl rfl (q_assign (v := .bool false) rfl (by kernel_rfl)) ?_
  refine WR.nil ?_
  change WC _ _ _ _ _ _
  refine WC.seq ?_
  refine WC.rs ?_
  refine va rfl rfl rfl (q_move (v := .slice Aa a.length ca) rfl (by kernel_rfl)) ?_
  refine va rfl rfl rfl (q_len_slice rfl Tryz.underlying49 rfl) ?_
  refine va rfl rfl rfl (q_move (v := .slice Ab b.length cb) rfl (by kernel_rfl)) ?_
  refine va rfl rfl rfl (q_len_slice rfl Tryz.underlying49 rfl) ?_
  refine va rfl rfl rfl (q_neq rfl rfl rfl) ?_
  refine WR.nil ?_
  change WC _ _ _ _ _ _
  refine WC.cif h (by kernel_rfl) (fun hb1 h => ?_) (fun hb1 h => ?_)
  · skip
    refine WC.rs ?_
    refine va rfl rfl rfl (q_assign (v := .bool false) rfl (by kernel_rfl)) ?_
    refine WR.nil ?_
    change WC _ _ _ _ _ _
    refine WC.ret ?_
    intro w hw
    obtain rfl := Option.some.inj h
    subst hF
    exact ⟨by kernel_rfl, hw.fr⟩
  · skip
    refine WC.skip ?_
    change WC _ _ _ _ _ _
    refine WC.seq ?_
    refine WC.rs ?_
    refine va rfl rfl rfl (q_assign (v := .int .i64 0) rfl (by kernel_rfl)) ?_
    refine WR.nil ?_
    change WC _ _ _ _ _ _
    refine WC.block ?_
    refine WC.forI h (fun (i3 : Nat) (s : Unit) σ w => match s with | () => slots σ [(0, .slice Aa a.length ca), (1, .slice Ab b.length cb), (5, .int .i64 ((i3 : Nat) : Int))] ∧ CC F Γ [] w ∧ True) ?_ ?_
    · skip
      intro w hw
      exact ⟨(sl_ (by kernel_rfl)), hw, trivial⟩
    rintro f2 i3 ⟨⟩ σ w hi4 hlt5 hge6 ⟨hsl, hw, -⟩
    refine Wpt.slots hsl ?_
    refine WC.here (C := CC F Γ []) ?_ hw
    clear hw hsl
    refine WC.seq ?_
    refine WC.rs ?_
    refine va rfl rfl rfl (q_move (v := .int .i64 ((i3 : Nat) : Int)) rfl (by kernel_rfl)) ?_
    refine va rfl rfl rfl (q_move (v := .slice Aa a.length ca) rfl (by kernel_rfl)) ?_
    refine va rfl rfl rfl (q_len_slice rfl Tryz.underlying49 rfl) ?_
    refine va rfl rfl rfl (q_lss rfl rfl rfl) ?_
    refine WR.nil ?_
    change WC _ _ _ _ _ _
    refine WC.cond (b := (decide (((i3 : Nat) : Int) < ((a.length : Nat) : Int)))) (by kernel_rfl) (fun hb7 => ?_) (fun hb7 => ?_)
    · skip
      have hl8 := ilt hb7
      have h := hlt5 hl8
      refine WC.skip ?_
      change WC _ _ _ _ _ _
      refine WC.seq ?_
      refine WC.block ?_
      refine WC.seq ?_
      refine WC.dr (by kernel_rfl) (by kernel_rfl) (fun w hw => hw.drawn _) ?_
      refine wa rfl rfl rfl (q_move (v := .slice Aa a.length ca) rfl (by kernel_rfl)) ?_
      refine wa rfl rfl rfl (q_move (v := .int .i64 ((i3 : Nat) : Int)) rfl (by kernel_rfl)) ?_
      refine wa rfl rfl rfl (q_ixn (i := i3) Tryz.underlying49 Tryz.sizeOf53 rfl rfl rfl hl8 (ha.some_ hl8)) ?_
      refine wa rfl rfl rfl (q_lda (c := 0) (vs := [.int .i64 (gt a i3).s, .int .i64 (gt a i3).f, .int .i64 (gt a i3).t]) (ha.spanT_at hl8).2 rfl Tryz.isAgg53 Tryz.sizeOf53 rfl rfl rfl) ?_
      refine wa rfl rfl rfl (q_move (v := .slice Ab b.length cb) rfl (by kernel_rfl)) ?_
      refine wa rfl rfl rfl (q_move (v := .int .i64 ((i3 : Nat) : Int)) rfl (by kernel_rfl)) ?_
      obtain ⟨hk9, h⟩ := chk_some h
      refine wa rfl rfl rfl (q_ixn (i := i3) Tryz.underlying49 Tryz.sizeOf53 rfl rfl rfl (of_decide_eq_true hk9) (hb.some_ (of_decide_eq_true hk9))) ?_
      refine wa rfl rfl rfl (q_lda (c := 0) (vs := [.int .i64 (gt b i3).s, .int .i64 (gt b i3).f, .int .i64 (gt b i3).t]) (hb.spanT_at (of_decide_eq_true hk9)).2 rfl Tryz.isAgg53 Tryz.sizeOf53 rfl rfl rfl) ?_
      refine wa rfl rfl rfl (q_neq_Span (a := (gt a i3)) (b := (gt b i3)) rfl rfl rfl) ?_
      refine WQ.nil ?_
      change WC _ _ _ _ _ _
      refine WC.cif h (by kernel_rfl) (fun hb10 h => ?_) (fun hb10 h => ?_)
      · skip
        refine WC.rs ?_
        refine va rfl rfl rfl (q_assign (v := .bool false) rfl (by kernel_rfl)) ?_
        refine WR.nil ?_
        change WC _ _ _ _ _ _
        refine WC.ret ?_
        intro w hw
        obtain rfl := Option.some.inj h
        subst hF
        exact ⟨by kernel_rfl, hw.fr⟩
      · skip
        refine WC.skip ?_
        change WC _ _ _ _ _ _
        refine WC.region ?_
        refine va rfl rfl rfl (q_move (v := .int .i64 ((i3 : Nat) : Int)) rfl (by kernel_rfl)) ?_
        refine va rfl rfl rfl (q_add_r (r := ((i3 + 1 : Nat) : Int)) rfl rfl rfl (ctr_len hl8 ha.le)) ?_
        refine va rfl rfl rfl (q_assign (v := .int .i64 ((i3 + 1 : Nat) : Int)) rfl (by kernel_rfl)) ?_
        refine WR.nil ?_
        intro w hw
        exact ⟨hl8, (), h, (sl_ (by kernel_rfl)), hw, trivial⟩
    · skip
      have h := hge6 (ige hb7)
      refine WC.exit ?_
      change WC _ _ _ _ _ _
      refine WC.rs ?_
      refine va rfl rfl rfl (q_assign (v := .bool true) rfl (by kernel_rfl)) ?_
      refine WR.nil ?_
      change WC _ _ _ _ _ _
      refine WC.ret ?_
      intro w hw
      obtain rfl := Option.some.inj h
      subst hF
      exact ⟨by kernel_rfl, hw.fr⟩
set_option maxRecDepth 100000 in
set_option maxHeartbeats 400000 in
theorem t_firthref05_SameOne {Γ : Gh} {w0 : World} {Aa2 : Option Addr} {ca2 : Nat} (a : Ver) (ha : Ver.fits Γ Aa2 ca2 a) {Ab2 : Option Addr} {cb2 : Nat} (b : Ver) (hb : Ver.fits Γ Ab2 cb2 b) (hs : Sat Γ w0) {r : Bool} (h : m_firthref05_SameOne a b = some r) : Calls Tryz.prog 46 #[.agg #[.int .i64 a.dot.s, .int .i64 a.dot.n, .slice Aa2 a.past.length ca2, .bool a.gone, .string a.val], .agg #[.int .i64 b.dot.s, .int .i64 b.dot.n, .slice Ab2 b.past.length cb2, .bool b.gone, .string b.val]] w0 (fun e w' => e = .returned (.bool r) ∧ Fr no w0 w') := by
  refine calls_of (N := 31) (rs := [4]) (args := [.agg #[.int .i64 a.dot.s, .int .i64 a.dot.n, .slice Aa2 a.past.length ca2, .bool a.gone, .string a.val], .agg #[.int .i64 b.dot.s, .int .i64 b.dot.n, .slice Ab2 b.past.length cb2, .bool b.gone, .string b.val]]) Tryz.func46 rfl Tryz.ntmps46 Tryz.results46 rfl ?_
  obtain ⟨F, hF⟩ : ∃ F : Fm, F = ⟨no, w0, Γ⟩ := ⟨_, rfl⟩
  refine WC.here (C := CC F Γ []) ?_ (hF ▸ Cur.start0 hs)
  refine WC.rs ?_
  refine e_box (v := .agg #[.int .i64 a.dot.s, .int .i64 a.dot.n, .slice Aa2 a.past.length ca2, .bool a.gone, .string a.val]) rfl rfl rfl rfl (by kernel_rfl) ?_
  intro g1
  refine e_box (v := .agg #[.int .i64 b.dot.s, .int .i64 b.dot.n, .slice Ab2 b.past.length cb2, .bool b.gone, .string b.val]) rfl rfl rfl rfl (by kernel_rfl) ?_
  intro g2
  refine va rfl rfl rfl (q_assign (v := .bool false) rfl (by kernel_rfl)) ?_
  refine WR.nil ?_
  change WC _ _ _ _ _ _
  refine WC.rs ?_
  refine va rfl rfl rfl (q_fl 0 fld_51_0 rfl rfl rfl) ?_
  refine va rfl rfl rfl (q_ldla (i := 1) (vs := [.int .i64 a.dot.s, .int .i64 a.dot.n]) rfl rfl Tryz.isAgg48 Tryz.sizeOf48 rfl rfl) ?_
  refine va rfl rfl rfl (q_fl 0 fld_51_0 rfl rfl rfl) ?_
  refine va rfl rfl rfl (q_ldla (i := 0) (vs := [.int .i64 b.dot.s, .int .i64 b.dot.n]) rfl rfl Tryz.isAgg48 Tryz.sizeOf48 rfl rfl) ?_
  refine va rfl rfl rfl (q_eql_Dot (a := a.dot) (b := b.dot) rfl rfl rfl) ?_
  refine va rfl rfl rfl (q_move (v := .bool (a.dot == b.dot)) rfl (by kernel_rfl)) ?_
  refine vg1 rfl rfl rfl rfl rfl (fun hg3 => QV.qo (q_fl 3 fld_51_2 rfl rfl rfl)) ?_
  refine vg1 rfl rfl rfl rfl rfl (fun hg4 => QV.qo (q_ldl (i := 1) (v := .bool a.gone) rfl rfl Tryz.isAgg4 (gu hg4 rfl) rfl)) ?_
  refine vg1 rfl rfl rfl rfl rfl (fun hg5 => QV.qo (q_fl 3 fld_51_2 rfl rfl rfl)) ?_
  refine vg1 rfl rfl rfl rfl rfl (fun hg6 => QV.qo (q_ldl (i := 0) (v := .bool b.gone) rfl rfl Tryz.isAgg4 (gu hg6 rfl) rfl)) ?_
  refine vg1 rfl rfl rfl rfl rfl (fun hg7 => QV.qo (q_beql Tryz.underlying4 rfl (gu hg7 rfl) (gu hg7 rfl))) ?_
  refine va rfl rfl rfl (q_pick rfl rfl (pk_and' (g := (a.dot == b.dot)) (y := (a.gone == b.gone)))) ?_
  refine va rfl rfl rfl (q_move (v := .bool ((a.dot == b.dot) && (a.gone == b.gone))) rfl (by kernel_rfl)) ?_
  refine vg1 rfl rfl rfl rfl rfl (fun hg8 => QV.qo (q_fl 4 fld_51_3 rfl rfl rfl)) ?_
  refine vg1 rfl rfl rfl rfl rfl (fun hg9 => QV.qo (q_ldl (i := 1) (v := .string a.val) rfl rfl Tryz.isAgg9 (gu hg9 rfl) rfl)) ?_
  refine vg1 rfl rfl rfl rfl rfl (fun hg10 => QV.qo (q_fl 4 fld_51_3 rfl rfl rfl)) ?_
  refine vg1 rfl rfl rfl rfl rfl (fun hg11 => QV.qo (q_ldl (i := 0) (v := .string b.val) rfl rfl Tryz.isAgg9 (gu hg11 rfl) rfl)) ?_
  refine vg1 rfl rfl rfl rfl rfl (fun hg12 => QV.qo (q_seql rfl (gu hg12 rfl) (gu hg12 rfl))) ?_
  refine va rfl rfl rfl (q_pick rfl rfl (pk_and' (g := ((a.dot == b.dot) && (a.gone == b.gone))) (y := (a.val == b.val)))) ?_
  refine va rfl rfl rfl (q_move (v := .bool (((a.dot == b.dot) && (a.gone == b.gone)) && (a.val == b.val))) rfl (by kernel_rfl)) ?_
  refine vg1 rfl rfl rfl rfl rfl (fun hg13 => QV.qo (q_fl 2 fld_51_1 rfl rfl rfl)) ?_
  refine vg1 rfl rfl rfl rfl rfl (fun hg14 => QV.qo (q_ldl (i := 1) (v := .slice Aa2 a.past.length ca2) rfl rfl Tryz.isAgg49 (gu hg14 rfl) rfl)) ?_
  refine vg1 rfl rfl rfl rfl rfl (fun hg15 => QV.qo (q_fl 2 fld_51_1 rfl rfl rfl)) ?_
  refine vg1 rfl rfl rfl rfl rfl (fun hg16 => QV.qo (q_ldl (i := 0) (v := .slice Ab2 b.past.length cb2) rfl rfl Tryz.isAgg49 (gu hg16 rfl) rfl)) ?_
  obtain ⟨z18, hz19, h⟩ := bnd h
  refine vg1 rfl rfl rfl rfl rfl (fun hg17 => (q_call (call_run Tryz.call64 rfl rfl (args2 (gu hg17 rfl) (gu hg17 rfl))) (fun w hw => t_firthref03_Same (Γ := Gh.all w) (ha.2.2.1.2.mono hw.sat.le_all) ha.2.2.1.1 (hb.2.2.1.2.mono hw.sat.le_all) hb.2.2.1.1 (Sat.all w) (gc_of hz19 hg17)))) ?_
  refine va rfl rfl rfl (q_pick rfl rfl (pk_and' (g := (((a.dot == b.dot) && (a.gone == b.gone)) && (a.val == b.val))) (y := z18))) ?_
  refine va rfl rfl rfl (q_assign (v := .bool ((((a.dot == b.dot) && (a.gone == b.gone)) && (a.val == b.val)) && z18)) rfl (by kernel_rfl)) ?_
  refine WR.nil ?_
  change WC _ _ _ _ _ _
  refine WC.ret ?_
  intro w hw
  obtain rfl := Option.some.inj h
  subst hF
  exact ⟨by kernel_rfl, hw.fr⟩
end Fw
end Go.Proofs.YtmmnpinpcgidnaaGreat
