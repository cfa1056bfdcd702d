/- Walks through the functions that the law reaches (printed by a program). No condition. -/
import Derived.Test.YtmmnpinpcgidnaaW1
namespace Go.Proofs.Ytmmnpinpcgidnaa
namespace Fw
set_option linter.unusedVariables false
set_option linter.unusedSimpArgs false
set_option linter.unusedSectionVars false
open Go.RowKit
theorem OTree.back {e : TypeId} {k : Int × Int × Int} {gs : Nat} {l : List ((Int × Int × Int) × Nat)} {Γ : Gh} {g : Nat} {row : Rowb} {x : OTree} {hv : Int} (h : OTree.ob (e, (k, gs) :: l) Γ g row x) (hu : U64 hv) : OTree.ob (e, l) Γ g (row ++ [sumO 85 gs hv]) ⟨x.leaves, x.sums ++ [(k, hv)]⟩ := by
  obtain ⟨cs, rowL, sm, rowS, h1, h2, h3, h4, -⟩ := h
  exact ⟨cs, rowL, sm, rowS ++ [sumO 85 gs hv], by rw [h1]; simp only [List.flatten_cons, List.flatten_nil, List.append_nil, List.append_assoc], h2, h3, h4.back hu, trivial⟩
set_option maxRecDepth 100000 in
set_option maxHeartbeats 400000 in
theorem t_hash1 {H : OTree → List Int → Option (OTree × Int)} (hH : HashC H) {Γ : Gh} {w0 : World} {gt_ : Nat} {et : TG} {rowt : Rowb} {t : OTree} (ht_ : OTree.ob et Γ gt_ rowt t) {A : Option Addr} {c : Nat} {path : List Int} (hpath : Sl intT Γ A path) (hc : path.length ≤ c) (hlen : ∀ p ∈ et.2, p.1.1 ≤ (path.length : Int)) {b2 b3 b7 gs : Nat} {h0 : Int}
    (hp : Pre [[(b2, .cells #[.pointer (some ⟨gt_, 0, none⟩)] 30 (0, 0))], [(b3, .cells #[.slice A path.length c] 25 (0, 0))], [(b7, .cells #[.pointer (some ⟨gs, 0, none⟩)] 71 (0, 0))], rowt, [(gs, .cells #[.int .u32 0, .int .i32 1, .int .u32 0, .int .u64 h0] 85 (0, 0))]] Γ w0) {r : OTree × Int} (h : m_tree_Tree_reckon H t path = some r) :
    Calls Try.prog 30 #[.pointer (some ⟨b2, 0, none⟩), .pointer (some ⟨b3, 0, none⟩), .pointer (some ⟨b7, 0, none⟩)] w0 (Outc Γ [[(b2, .cells #[.pointer (some ⟨gt_, 0, none⟩)] 30 (0, 0))], [(b3, .cells #[.slice A path.length c] 25 (0, 0))], [(b7, .cells #[.pointer (some ⟨gs, 0, none⟩)] 71 (0, 0))], rowt, [(gs, .cells #[.int .u32 0, .int .i32 1, .int .u32 0, .int .u64 h0] 85 (0, 0))]] w0
      fun U Δ v => ∃ rowt' : Rowb, v = .tuple #[] ∧ U = [[(b2, .cells #[.pointer (some ⟨gt_, 0, none⟩)] 30 (0, 0))], [(b3, .cells #[.slice A path.length c] 25 (0, 0))], [(b7, .cells #[.pointer (some ⟨gs, 0, none⟩)] 71 (0, 0))], rowt', [(gs, .cells #[.int .u32 0, .int .i32 1, .int .u32 0, .int .u64 r.2] 85 (0, 0))]] ∧ OTree.ob et Δ gt_ rowt' r.1 ∧ U64 r.2 ∧ True) := by
  refine calls_of (N := 9) (rs := []) (args := [.pointer (some ⟨b2, 0, none⟩), .pointer (some ⟨b3, 0, none⟩), .pointer (some ⟨b7, 0, none⟩)]) Try.func30 rfl Try.ntmps30 Try.results30 rfl ?_
  obtain ⟨F, hF⟩ : ∃ F : Fm, F = ⟨ids [[(b2, .cells #[.pointer (some ⟨gt_, 0, none⟩)] 30 (0, 0))], [(b3, .cells #[.slice A path.length c] 25 (0, 0))], [(b7, .cells #[.pointer (some ⟨gs, 0, none⟩)] 71 (0, 0))], rowt, [(gs, .cells #[.int .u32 0, .int .i32 1, .int .u32 0, .int .u64 h0] 85 (0, 0))]], w0, Γ⟩ := ⟨_, rfl⟩
  refine WC.here (C := CC F Γ [[(b2, .cells #[.pointer (some ⟨gt_, 0, none⟩)] 30 (0, 0))], [(b3, .cells #[.slice A path.length c] 25 (0, 0))], [(b7, .cells #[.pointer (some ⟨gs, 0, none⟩)] 71 (0, 0))], rowt, [(gs, .cells #[.int .u32 0, .int .i32 1, .int .u32 0, .int .u64 h0] 85 (0, 0))]]) ?_ (hF ▸ hp.start)
  intro w hw; have h00 := hw.le
  refine WC.here (C := CC F Γ [[(b2, .cells #[.pointer (some ⟨gt_, 0, none⟩)] 30 (0, 0))], [(b3, .cells #[.slice A path.length c] 25 (0, 0))], [(b7, .cells #[.pointer (some ⟨gs, 0, none⟩)] 71 (0, 0))], rowt, [(gs, .cells #[.int .u32 0, .int .i32 1, .int .u32 0, .int .u64 h0] 85 (0, 0))]]) ?_ hw; clear hw
  refine WC.held (CC F Γ [[(b2, .cells #[.pointer (some ⟨gt_, 0, none⟩)] 30 (0, 0))], [(b3, .cells #[.slice A path.length c] 25 (0, 0))], [(b7, .cells #[.pointer (some ⟨gs, 0, none⟩)] 71 (0, 0))]]) (by kernel_rfl) (fun w hw => hw.drawn _) ?_
  change WH _ _ _ _ (CC F Γ [[(b2, .cells #[.pointer (some ⟨gt_, 0, none⟩)] 30 (0, 0))], [(b3, .cells #[.slice A path.length c] 25 (0, 0))], [(b7, .cells #[.pointer (some ⟨gs, 0, none⟩)] 71 (0, 0))], rowt, [(gs, .cells #[.int .u32 0, .int .i32 1, .int .u32 0, .int .u64 h0] 85 (0, 0))]]) _ 7 #[false, false, false, false, false, false, false] _
  refine ht (i := 0) rfl (by kernel_rfl) rfl rfl rfl (fun w hw => hw.back (Gh.refl _) h00 (.cons_cons _ (.cons_cons _ (.cons_cons _ (.cons _ (.cons _ .slnil)))))) (q_ldl (i := 2) (v := .pointer (some ⟨gs, 0, none⟩)) rfl rfl Try.isAgg71 rfl rfl) ?_
  refine ht (i := 1) rfl (by kernel_rfl) rfl rfl rfl (fun w hw => hw.back (Gh.refl _) h00 (.cons_cons _ (.cons_cons _ (.cons_cons _ (.cons _ (.cons _ .slnil)))))) (q_ldl (i := 0) (v := .pointer (some ⟨gt_, 0, none⟩)) rfl rfl Try.isAgg30 rfl rfl) ?_
  refine ht (i := 2) rfl (by kernel_rfl) rfl rfl rfl (fun w hw => hw.back (Gh.refl _) h00 (.cons_cons _ (.cons_cons _ (.cons_cons _ (.cons _ (.cons _ .slnil)))))) (q_ldl (i := 1) (v := .slice A path.length c) rfl rfl Try.isAgg25 rfl rfl) ?_
  refine WH.lone (i := 3) (by kernel_rfl) rfl ?_
  refine e_call (is := [3]) rfl rfl (call_run Try.call31 rfl rfl (by kernel_rfl)) rfl (fun w hp => t_tree_Tree_reckon hH ht_ hpath hc hlen hp h) ?_
  rintro Γ1 U1 v1 hl1 ⟨rowt', rfl, rfl, hob, hu, -⟩
  change WR _ _ _ (CC F Γ1 [rowt', [(b2, .cells #[.pointer (some ⟨gt_, 0, none⟩)] 30 (0, 0))], [(b3, .cells #[.slice A path.length c] 25 (0, 0))], [(b7, .cells #[.pointer (some ⟨gs, 0, none⟩)] 71 (0, 0))], [(gs, .cells #[.int .u32 0, .int .i32 1, .int .u32 0, .int .u64 h0] 85 (0, 0))]]) _ _ (upd _ 6 (.int .u64 r.2))
  refine WR.nil ?_
  refine WH.next (fun w hw => hw.back hl1 h00 (.cons _ (.cons_cons _ (.cons_cons _ (.cons_cons _ (.cons _ .slnil)))))) ?_
  refine ht (i := 4) rfl (by kernel_rfl) rfl rfl rfl (fun w hw => hw.back hl1 h00 (.cons _ (.cons_cons _ (.cons_cons _ (.cons_cons _ (.cons _ .slnil)))))) (q_nil (A := some ⟨gs, 0, none⟩) rfl rfl rfl) ?_
  refine ht (i := 5) rfl (by kernel_rfl) rfl rfl rfl (fun w hw => hw.back hl1 h00 (.cons _ (.cons_cons _ (.cons_cons _ (.cons_cons _ (.cons _ .slnil)))))) (q_fl 3 fld_85_1 rfl rfl rfl) ?_
  refine WH.lone (i := 6) (by kernel_rfl) rfl ?_
  refine e_st (i := 4) (v := .int .u64 r.2) (new := #[.int .u32 0, .int .i32 1, .int .u32 0, .int .u64 r.2]) rfl Try.sizeOf40 rfl rfl rfl rfl (by kernel_rfl) rfl rfl rfl rfl ?_
  refine WR.nil ?_
  refine WH.next (fun w hw => hw.back hl1 h00 (.cons _ (.cons_cons _ (.cons_cons _ (.cons_cons _ (.cons _ .slnil)))))) ?_
  refine WH.done (by kernel_rfl) ?_
  intro w hw
  subst hF
  exact end_e (is := [1, 1, 1, 0, 0]) (by kernel_rfl) hw rfl ⟨rowt', rfl, rfl, hob, hu, trivial⟩
set_option maxRecDepth 100000 in
set_option maxHeartbeats 400000 in
theorem t_once {H : OTree → List Int → Option (OTree × Int)} (hH : HashC H) {Γ : Gh} {w0 : World} {gt_ : Nat} {et : TG} {rowt : Rowb} {t : OTree} (ht_ : OTree.ob et Γ gt_ rowt t) {A : Option Addr} {c : Nat} {path : List Int} (hpath : Sl intT Γ A path) (hc : path.length ≤ c) (hlen : ∀ p ∈ et.2, p.1.1 ≤ (path.length : Int)) {b2 b3 b7 gs : Nat} {h0 : Int}
    (hp : Pre [[(b2, .cells #[.pointer (some ⟨gt_, 0, none⟩)] 30 (0, 0))], [(b3, .cells #[.slice A path.length c] 25 (0, 0))], [(b7, .cells #[.pointer (some ⟨gs, 0, none⟩)] 71 (0, 0))], rowt, [(gs, .cells #[.int .u32 0, .int .i32 0, .int .u32 0, .int .u64 h0] 85 (0, 0))]] Γ w0) {r : OTree × Int} (h : m_tree_Tree_reckon H t path = some r) :
    Calls Try.prog 29 #[.pointer (some ⟨gs, 0, none⟩), .func (.func 30) #[] #[.pointer (some ⟨b2, 0, none⟩), .pointer (some ⟨b3, 0, none⟩), .pointer (some ⟨b7, 0, none⟩)]] w0 (Outc Γ [[(b2, .cells #[.pointer (some ⟨gt_, 0, none⟩)] 30 (0, 0))], [(b3, .cells #[.slice A path.length c] 25 (0, 0))], [(b7, .cells #[.pointer (some ⟨gs, 0, none⟩)] 71 (0, 0))], rowt, [(gs, .cells #[.int .u32 0, .int .i32 0, .int .u32 0, .int .u64 h0] 85 (0, 0))]] w0
      fun U Δ v => ∃ rowt' : Rowb, v = .tuple #[] ∧ U = [[(b2, .cells #[.pointer (some ⟨gt_, 0, none⟩)] 30 (0, 0))], [(b3, .cells #[.slice A path.length c] 25 (0, 0))], [(b7, .cells #[.pointer (some ⟨gs, 0, none⟩)] 71 (0, 0))], rowt', [(gs, .cells #[.int .u32 1, .int .i32 0, .int .u32 0, .int .u64 r.2] 85 (0, 0))]] ∧ OTree.ob et Δ gt_ rowt' r.1 ∧ U64 r.2 ∧ True) := by
  have hs : w0.heap[gs]? = some (.cells #[.int .u32 0, .int .i32 0, .int .u32 0, .int .u64 h0] 85 (0, 0)) := hp.loc [(gs, .cells #[.int .u32 0, .int .i32 0, .int .u32 0, .int .u64 h0] 85 (0, 0))] (by simp) (gs, .cells #[.int .u32 0, .int .i32 0, .int .u32 0, .int .u64 h0] 85 (0, 0)) (by simp)
  have c1 := hp.start.setCell (i := 4) (j := 1) (v := .int .i32 1) (g := gs) (cs := #[.int .u32 0, .int .i32 0, .int .u32 0, .int .u64 h0]) (new := #[.int .u32 0, .int .i32 1, .int .u32 0, .int .u64 h0]) (t := 85) rfl rfl
  have hcl := t_hash1 hH ht_ hpath hc hlen (b2 := b2) (b3 := b3) (b7 := b7) (gs := gs) (h0 := h0) c1.pre h
  refine (Once.do_first gs 30 #[.pointer (some ⟨b2, 0, none⟩), .pointer (some ⟨b3, 0, none⟩), .pointer (some ⟨b7, 0, none⟩)] (fun w2 => ∃ (Δ : Gh) (rowt' : Rowb), Eff Γ Δ [[(b2, .cells #[.pointer (some ⟨gt_, 0, none⟩)] 30 (0, 0))], [(b3, .cells #[.slice A path.length c] 25 (0, 0))], [(b7, .cells #[.pointer (some ⟨gs, 0, none⟩)] 71 (0, 0))], rowt, [(gs, .cells #[.int .u32 0, .int .i32 1, .int .u32 0, .int .u64 h0] 85 (0, 0))]]
    [[(b2, .cells #[.pointer (some ⟨gt_, 0, none⟩)] 30 (0, 0))], [(b3, .cells #[.slice A path.length c] 25 (0, 0))], [(b7, .cells #[.pointer (some ⟨gs, 0, none⟩)] 71 (0, 0))], rowt', [(gs, .cells #[.int .u32 0, .int .i32 1, .int .u32 0, .int .u64 r.2] 85 (0, 0))]] (w0.setCell ⟨gs, 1, none⟩ (.int .i32 1)) w2 ∧ OTree.ob et Δ gt_ rowt' r.1 ∧ U64 r.2) w0 ?_ ?_ ?_ Try.call30 (hcl.mono ?_) ?_).mono ?_
  · rw [cell_of_row _ _ _ _ _ _ hs]; rfl
  · rw [cell_of_row _ _ _ _ _ _ hs]; rfl
  · simp [World.frozen?, hs]
  · rintro e w2 ⟨v, rfl, Δ, U', he, rowt', rfl, rfl, hob, hu, -⟩
    exact ⟨rfl, Δ, rowt', he, hob, hu⟩
  · rintro w2 ⟨Δ, rowt', he, hob, hu⟩
    have hb : w2.heap[gs]? = some (.cells #[.int .u32 0, .int .i32 1, .int .u32 0, .int .u64 r.2] 85 (0, 0)) := he.loc [(gs, .cells #[.int .u32 0, .int .i32 1, .int .u32 0, .int .u64 r.2] 85 (0, 0))] (by simp) (gs, .cells #[.int .u32 0, .int .i32 1, .int .u32 0, .int .u64 r.2] 85 (0, 0)) (by simp)
    exact ⟨by rw [cell_of_row _ _ _ _ _ _ hb]; rfl, by rw [cell_of_row _ _ _ _ _ _ hb]; rfl, by simp [World.frozen?, hb], by simp [World.frozen?, hb]⟩
  · rintro e w' ⟨rfl, w2, ⟨Δ, rowt', he, hob, hu⟩, rfl⟩
    have c2 := Cur.eff (R := []) c1 he
    have c3 := c2.drew.setCell (i := 4) (j := 0) (v := .int .u32 1) (g := gs) (cs := #[.int .u32 0, .int .i32 1, .int .u32 0, .int .u64 r.2]) (new := #[.int .u32 1, .int .i32 1, .int .u32 0, .int .u64 r.2]) (t := 85) rfl rfl
    have c4 := c3.setCell (i := 4) (j := 1) (v := .int .i32 0) (g := gs) (cs := #[.int .u32 1, .int .i32 1, .int .u32 0, .int .u64 r.2]) (new := #[.int .u32 1, .int .i32 0, .int .u32 0, .int .u64 r.2]) (t := 85) rfl rfl
    exact ⟨_, rfl, Δ, _, c4.toEff, rowt', rfl, rfl, hob, hu, trivial⟩
set_option maxRecDepth 100000 in
set_option maxHeartbeats 400000 in
theorem t_hash_step {H : OTree → List Int → Option (OTree × Int)} (hH : HashC H) : HashC (m_hashB H) := by
  intro Γ w0 gt_ et rowt t ht_ A c path hpath hc hlen hp r h
  refine calls_of (N := 40) (rs := [4]) (args := [.pointer (some ⟨gt_, 0, none⟩), .slice A path.length c]) Try.func17 rfl Try.ntmps17 Try.results17 rfl ?_
  obtain ⟨F, hF⟩ : ∃ F : Fm, F = ⟨ids [rowt], w0, Γ⟩ := ⟨_, rfl⟩
  refine WC.here (C := CC F Γ [rowt]) ?_ (hF ▸ hp.start)
  refine WC.rs ?_
  refine e_box (v := .pointer (some ⟨gt_, 0, none⟩)) rfl rfl rfl rfl (by kernel_rfl) ?_
  intro b2
  refine e_box (v := .slice A path.length c) rfl rfl rfl rfl (by kernel_rfl) ?_
  intro b3
  refine va rfl rfl rfl (q_assign (v := .int .u64 0) rfl (by kernel_rfl)) ?_
  refine WR.nil ?_
  change WC _ _ _ _ _ _
  refine WC.rs ?_
  refine va rfl rfl rfl (q_ldl (i := 0) (v := .slice A path.length c) rfl rfl Try.isAgg25 rfl rfl) ?_
  obtain ⟨z1, hz2, h⟩ := bnd h
  refine vc rfl rfl rfl (q_call (call_run Try.call28 rfl rfl (by kernel_rfl)) (fun w hw => t_tree_at (Γ := Gh.all w) (hpath.mono hw.sat.le_all) hc (Sat.all w) hz2)) ?_
  refine va rfl rfl rfl (q_move (v := .tuple #[.agg #[.int .i64 z1.1.1, .int .i64 z1.1.2.1, .int .i64 z1.1.2.2], .bool z1.2]) rfl (by kernel_rfl)) ?_
  refine va rfl rfl rfl (q_extract (v := .agg #[.int .i64 z1.1.1, .int .i64 z1.1.2.1, .int .i64 z1.1.2.2]) rfl rfl rfl) ?_
  refine va rfl rfl rfl (q_extract (v := .bool z1.2) rfl rfl rfl) ?_
  refine e_alloc Try.zeroValue68 rfl rfl rfl rfl ?_
  intro g5
  refine e_st (i := 0) (v := .agg #[.int .i64 z1.1.1, .int .i64 z1.1.2.1, .int .i64 z1.1.2.2]) (new := #[.int .i64 z1.1.1, .int .i64 z1.1.2.1, .int .i64 z1.1.2.2]) rfl Try.sizeOf68 rfl rfl rfl rfl (by kernel_rfl) rfl rfl rfl rfl ?_
  refine va rfl rfl rfl (q_assign (v := .bool z1.2) rfl (by kernel_rfl)) ?_
  refine WR.nil ?_
  change WC _ _ _ _ _ _
  refine WC.seq ?_
  refine WC.rs ?_
  refine va rfl rfl rfl (q_move (v := .bool z1.2) rfl (by kernel_rfl)) ?_
  refine va rfl rfl rfl (q_not rfl rfl) ?_
  refine WR.nil ?_
  change WC _ _ _ _ _ _
  refine WC.cif h (by kernel_rfl) (fun hb7 h => ?_) (fun hb7 h => ?_)
  · skip
    refine WC.rs ?_
    refine va rfl rfl rfl (q_assign (v := .int .u64 0) rfl (by kernel_rfl)) ?_
    refine WR.nil ?_
    change WC _ _ _ _ _ _
    refine WC.ret ?_
    intro w hw
    obtain rfl := Option.some.inj h
    subst hF
    exact end_e (is := [3]) (by kernel_rfl) hw rfl ⟨rowt, rfl, rfl, ht_, (show U64 0 by decide), trivial⟩
  skip
  refine WC.skip ?_
  change WC _ _ _ _ _ _
  obtain ⟨hk1, h⟩ := chk_some h
  obtain ⟨hk2, h⟩ := chk_some h
  obtain ⟨hk3, h⟩ := chk_some h
  have hq := ht_
  obtain ⟨cs, rowL, sm, rowS, hrow, hM, hl, hS, -⟩ := hq
  have hx : ∀ p ∈ et.2, p.1 ≠ z1.1 := fun p hp e => by
    have h9 := hlen p hp
    rw [e, of_decide_eq_true hk1] at h9
    omega
  have hblk : (gt_, Obj.cells (cs ++ [Value.map (some sm)]).toArray et.1 (0, 0)) ∈ rowt := hrow ▸ List.mem_flatten.2 ⟨([(gt_, .cells (cs ++ [Value.map (some sm)]).toArray et.1 (0, 0))] : Rowb), List.mem_cons_self .., List.mem_singleton.2 rfl⟩
  rcases hS.look hx (.pointer none) with ⟨hv, gs, rowM, B, hm, hu, hrS, hsum, hat⟩ | ⟨hm, own, rowM, ho1, ho2, hon, hrS, hat⟩
  · simp only [hm] at h
    have hmM : ∀ p ∈ rowM, p ∈ rowt := fun p hp => hrow ▸ List.mem_flatten.2 ⟨rowS, by simp, by rw [hrS]; exact List.mem_append_left _ hp⟩
    have hsum' : (gs, Obj.cells #[.int .u32 1, .int .i32 0, .int .u32 0, .int .u64 hv] 85 (0, 0)) ∈ rowt := hrow ▸ List.mem_flatten.2 ⟨rowS, by simp, hsum⟩
    refine WC.seq ?_
    intro w hw; have h00 := hw.le
    refine WC.here (C := CC F Γ [[(g5, .cells #[.int .i64 z1.1.1, .int .i64 z1.1.2.1, .int .i64 z1.1.2.2] 68 (0, 0))], [(b3, .cells #[.slice A path.length c] 25 (0, 0))], [(b2, .cells #[.pointer (some ⟨gt_, 0, none⟩)] 30 (0, 0))], rowt]) ?_ hw; clear hw
    refine WC.held (CC F Γ [[(g5, .cells #[.int .i64 z1.1.1, .int .i64 z1.1.2.1, .int .i64 z1.1.2.2] 68 (0, 0))], [(b3, .cells #[.slice A path.length c] 25 (0, 0))], [(b2, .cells #[.pointer (some ⟨gt_, 0, none⟩)] 30 (0, 0))], rowt]) (by kernel_rfl) (fun w hw => hw.drawn _) ?_
    change WH _ _ _ _ (CC F Γ [[(g5, .cells #[.int .i64 z1.1.1, .int .i64 z1.1.2.1, .int .i64 z1.1.2.2] 68 (0, 0))], [(b3, .cells #[.slice A path.length c] 25 (0, 0))], [(b2, .cells #[.pointer (some ⟨gt_, 0, none⟩)] 30 (0, 0))], rowt]) _ 8 #[false, false, false, false, false, false, false, false] _
    refine ht (i := 0) rfl (by kernel_rfl) rfl rfl rfl (fun w hw => hw) (q_ldl (i := 2) (v := .pointer (some ⟨gt_, 0, none⟩)) rfl rfl Try.isAgg30 rfl rfl) ?_
    refine ht (i := 1) rfl (by kernel_rfl) rfl rfl rfl (fun w hw => hw) (q_nil (A := some ⟨gt_, 0, none⟩) rfl rfl rfl) ?_
    refine ht (i := 2) rfl (by kernel_rfl) rfl rfl rfl (fun w hw => hw) (q_fl 256 fld_65_1 rfl rfl rfl) ?_
    refine ht (i := 3) rfl (by kernel_rfl) rfl rfl rfl (fun w hw => hw) (q_ldr (i := 3) (v := .map (some sm)) rfl hblk rfl Try.isAgg60 rfl (blk_end (hM.len.trans hl))) ?_
    refine ht (i := 4) rfl (by kernel_rfl) rfl rfl rfl (fun w hw => hw) (q_ldla (i := 0) (vs := [.int .i64 z1.1.1, .int .i64 z1.1.2.1, .int .i64 z1.1.2.2]) rfl rfl Try.isAgg68 Try.sizeOf68 rfl rfl) ?_
    refine ht (i := 5) rfl (by kernel_rfl) rfl rfl rfl (fun w hw => hw) (q_lookup1r (row := rowM) (x := z1.1) (v := .pointer (some ⟨gs, 0, none⟩)) (fun w hw p hp => hw.at_ (i := 3) rfl (hmM p hp)) hat rfl Try.underlying60 Try.zeroValue71 rfl rfl) ?_
    refine WH.lone (i := 6) (by kernel_rfl) rfl ?_
    refine e_alloc Try.zeroValue71 rfl rfl rfl rfl ?_
    intro b7
    refine WR.nil ?_
    refine WH.next (fun w hw => hw.back (Gh.refl _) h00 (.cons _ (.cons_cons _ (.cons_cons _ (.cons_cons _ (.cons_cons _ .slnil)))))) ?_
    refine WH.lone (i := 7) (by kernel_rfl) rfl ?_
    refine e_st (i := 0) (v := .pointer (some ⟨gs, 0, none⟩)) (new := #[.pointer (some ⟨gs, 0, none⟩)]) rfl Try.sizeOf71 rfl rfl rfl rfl (by kernel_rfl) rfl rfl rfl rfl ?_
    refine WR.nil ?_
    refine WH.next (fun w hw => hw.back (Gh.refl _) h00 (.cons _ (.cons_cons _ (.cons_cons _ (.cons_cons _ (.cons_cons _ .slnil)))))) ?_
    refine WH.done (by kernel_rfl) ?_
    change WC _ _ _ _ _ _
    refine WC.seq ?_
    refine WC.rs ?_
    refine va rfl rfl rfl (q_ldl (i := 0) (v := .pointer (some ⟨gs, 0, none⟩)) rfl rfl Try.isAgg71 rfl rfl) ?_
    refine va rfl rfl rfl (q_ptr_eql (a := some ⟨gs, 0, none⟩) Try.underlying71 rfl rfl rfl) ?_
    refine WR.nil ?_
    change WC _ _ _ _ _ _
    refine WC.cfk (b := false) (by kernel_rfl) rfl ?_
    refine WC.skip ?_
    change WC _ _ _ _ _ _
    refine WC.rs ?_
    refine va rfl rfl rfl (q_ldl (i := 0) (v := .pointer (some ⟨gs, 0, none⟩)) rfl rfl Try.isAgg71 rfl rfl) ?_
    refine va rfl rfl rfl (q_nil (A := some ⟨gs, 0, none⟩) rfl rfl rfl) ?_
    refine va rfl rfl rfl (q_fl 0 fld_85_0 rfl rfl rfl) ?_
    refine va rfl rfl rfl (q_mkfn (v := .func (.func 30) #[] #[.pointer (some ⟨b2, 0, none⟩), .pointer (some ⟨b3, 0, none⟩), .pointer (some ⟨b7, 0, none⟩)]) rfl (by kernel_rfl)) ?_
    refine vc rfl rfl rfl (q_call (v := .tuple #[]) (call_run (args := #[.pointer (some ⟨gs, 0, none⟩), .func (.func 30) #[] #[.pointer (some ⟨b2, 0, none⟩), .pointer (some ⟨b3, 0, none⟩), .pointer (some ⟨b7, 0, none⟩)]]) Try.call29 rfl rfl (by kernel_rfl)) (fun w hw => (Once.do_done ⟨gs, 0, none⟩ _ w ((cell_of_row w gs 0 _ _ _ (hw.at_ (i := 4) rfl hsum')).trans rfl)).mono fun e w' ⟨he, hw'⟩ => ⟨he, hw' ▸ Fr.refl _ _⟩)) ?_
    refine WR.nil ?_
    change WC _ _ _ _ _ _
    refine WC.rs ?_
    refine va rfl rfl rfl (q_ldl (i := 0) (v := .pointer (some ⟨gs, 0, none⟩)) rfl rfl Try.isAgg71 rfl rfl) ?_
    refine va rfl rfl rfl (q_nil (A := some ⟨gs, 0, none⟩) rfl rfl rfl) ?_
    refine va rfl rfl rfl (q_fl 3 fld_85_1 rfl rfl rfl) ?_
    refine va rfl rfl rfl (q_ldr (i := 4) (v := .int .u64 hv) rfl hsum' rfl Try.isAgg40 rfl rfl) ?_
    refine va rfl rfl rfl (q_assign (v := .int .u64 hv) rfl (by kernel_rfl)) ?_
    refine WR.nil ?_
    change WC _ _ _ _ _ _
    refine WC.ret ?_
    intro w hw
    obtain rfl := Option.some.inj h
    subst hF
    exact end_e (is := [4]) (by kernel_rfl) hw rfl ⟨rowt, rfl, rfl, ht_, hu, trivial⟩
  · simp only [hm] at h
    obtain ⟨z, hz, h⟩ := bnd h
    have hmM : ∀ p ∈ rowM, p ∈ rowt := fun p hp => hrow ▸ List.mem_flatten.2 ⟨rowS, by simp, by rw [hrS]; exact List.mem_append_left _ hp⟩
    obtain ⟨B, hB⟩ : ∃ B, B = List.zipWith (fun a b => sumO 85 a.2 b.2) own t.sums := ⟨_, rfl⟩
    have hrow4 : rowt = ([[(gt_, .cells (cs ++ [Value.map (some sm)]).toArray et.1 (0, 0))], rowL, rowM, B] : List Rowb).flatten := by rw [hrow, hrS, hB]; simp only [List.flatten_cons, List.flatten_nil, List.append_nil, List.append_assoc]
    refine WC.seq ?_
    intro w hw; have h00 := hw.le
    refine WC.here (C := CC F Γ [[(g5, .cells #[.int .i64 z1.1.1, .int .i64 z1.1.2.1, .int .i64 z1.1.2.2] 68 (0, 0))], [(b3, .cells #[.slice A path.length c] 25 (0, 0))], [(b2, .cells #[.pointer (some ⟨gt_, 0, none⟩)] 30 (0, 0))], rowt]) ?_ hw; clear hw
    refine WC.held (CC F Γ [[(g5, .cells #[.int .i64 z1.1.1, .int .i64 z1.1.2.1, .int .i64 z1.1.2.2] 68 (0, 0))], [(b3, .cells #[.slice A path.length c] 25 (0, 0))], [(b2, .cells #[.pointer (some ⟨gt_, 0, none⟩)] 30 (0, 0))], rowt]) (by kernel_rfl) (fun w hw => hw.drawn _) ?_
    change WH _ _ _ _ (CC F Γ [[(g5, .cells #[.int .i64 z1.1.1, .int .i64 z1.1.2.1, .int .i64 z1.1.2.2] 68 (0, 0))], [(b3, .cells #[.slice A path.length c] 25 (0, 0))], [(b2, .cells #[.pointer (some ⟨gt_, 0, none⟩)] 30 (0, 0))], rowt]) _ 8 #[false, false, false, false, false, false, false, false] _
    refine ht (i := 0) rfl (by kernel_rfl) rfl rfl rfl (fun w hw => hw) (q_ldl (i := 2) (v := .pointer (some ⟨gt_, 0, none⟩)) rfl rfl Try.isAgg30 rfl rfl) ?_
    refine ht (i := 1) rfl (by kernel_rfl) rfl rfl rfl (fun w hw => hw) (q_nil (A := some ⟨gt_, 0, none⟩) rfl rfl rfl) ?_
    refine ht (i := 2) rfl (by kernel_rfl) rfl rfl rfl (fun w hw => hw) (q_fl 256 fld_65_1 rfl rfl rfl) ?_
    refine ht (i := 3) rfl (by kernel_rfl) rfl rfl rfl (fun w hw => hw) (q_ldr (i := 3) (v := .map (some sm)) rfl hblk rfl Try.isAgg60 rfl (blk_end (hM.len.trans hl))) ?_
    refine ht (i := 4) rfl (by kernel_rfl) rfl rfl rfl (fun w hw => hw) (q_ldla (i := 0) (vs := [.int .i64 z1.1.1, .int .i64 z1.1.2.1, .int .i64 z1.1.2.2]) rfl rfl Try.isAgg68 Try.sizeOf68 rfl rfl) ?_
    refine ht (i := 5) rfl (by kernel_rfl) rfl rfl rfl (fun w hw => hw) (q_lookup1r (row := rowM) (x := z1.1) (v := .pointer none) (fun w hw p hp => hw.at_ (i := 3) rfl (hmM p hp)) hat rfl Try.underlying60 Try.zeroValue71 rfl rfl) ?_
    refine WH.lone (i := 6) (by kernel_rfl) rfl ?_
    refine e_alloc Try.zeroValue71 rfl rfl rfl rfl ?_
    intro b7
    refine WR.nil ?_
    refine WH.next (fun w hw => hw.back (Gh.refl _) h00 (.cons _ (.cons_cons _ (.cons_cons _ (.cons_cons _ (.cons_cons _ .slnil)))))) ?_
    refine WH.lone (i := 7) (by kernel_rfl) rfl ?_
    refine e_st (i := 0) (v := .pointer none) (new := #[.pointer none]) rfl Try.sizeOf71 rfl rfl rfl rfl (by kernel_rfl) rfl rfl rfl rfl ?_
    refine WR.nil ?_
    refine WH.next (fun w hw => hw.back (Gh.refl _) h00 (.cons _ (.cons_cons _ (.cons_cons _ (.cons_cons _ (.cons_cons _ .slnil)))))) ?_
    refine WH.done (by kernel_rfl) ?_
    change WC _ _ _ _ _ _
    refine WC.seq ?_
    refine WC.rs ?_
    refine va rfl rfl rfl (q_ldl (i := 0) (v := .pointer none) rfl rfl Try.isAgg71 rfl rfl) ?_
    refine va rfl rfl rfl (q_ptr_eql (a := none) Try.underlying71 rfl rfl rfl) ?_
    refine WR.nil ?_
    change WC _ _ _ _ _ _
    refine WC.ctk (b := true) (by kernel_rfl) rfl ?_
    refine WC.rs ?_
    refine va rfl rfl rfl (q_build (v := .agg #[.int .u32 0, .int .i32 0, .int .u32 0, .int .u64 0]) rfl (fun w => by kernel_rfl)) ?_
    refine e_box (v := .agg #[.int .u32 0, .int .i32 0, .int .u32 0, .int .u64 0]) rfl rfl rfl rfl (by kernel_rfl) ?_
    intro gs
    refine e_st (i := 1) (v := .pointer (some ⟨gs, 0, none⟩)) (new := #[.pointer (some ⟨gs, 0, none⟩)]) rfl Try.sizeOf71 rfl rfl rfl rfl (by kernel_rfl) rfl rfl rfl rfl ?_
    refine WR.nil ?_
    change WC _ _ _ _ _ _
    intro w hw; have hw := hw.unfold (i := 5) rfl hrow4; have h01 := hw.le
    refine WC.here (C := CC F Γ [[(gt_, .cells (cs ++ [Value.map (some sm)]).toArray et.1 (0, 0))], rowL, rowM, B, [(gs, .cells #[.int .u32 0, .int .i32 0, .int .u32 0, .int .u64 0] 85 (0, 0))], [(b7, .cells #[.pointer (some ⟨gs, 0, none⟩)] 71 (0, 0))], [(g5, .cells #[.int .i64 z1.1.1, .int .i64 z1.1.2.1, .int .i64 z1.1.2.2] 68 (0, 0))], [(b3, .cells #[.slice A path.length c] 25 (0, 0))], [(b2, .cells #[.pointer (some ⟨gt_, 0, none⟩)] 30 (0, 0))]]) ?_ hw; clear hw
    refine WC.held (CC F Γ [[(gt_, .cells (cs ++ [Value.map (some sm)]).toArray et.1 (0, 0))], [(b7, .cells #[.pointer (some ⟨gs, 0, none⟩)] 71 (0, 0))], [(g5, .cells #[.int .i64 z1.1.1, .int .i64 z1.1.2.1, .int .i64 z1.1.2.2] 68 (0, 0))], [(b2, .cells #[.pointer (some ⟨gt_, 0, none⟩)] 30 (0, 0))]]) (by kernel_rfl) (fun w hw => hw.drawn _) ?_
    change WH _ _ _ _ (CC F Γ [[(gt_, .cells (cs ++ [Value.map (some sm)]).toArray et.1 (0, 0))], rowL, rowM, B, [(gs, .cells #[.int .u32 0, .int .i32 0, .int .u32 0, .int .u64 0] 85 (0, 0))], [(b7, .cells #[.pointer (some ⟨gs, 0, none⟩)] 71 (0, 0))], [(g5, .cells #[.int .i64 z1.1.1, .int .i64 z1.1.2.1, .int .i64 z1.1.2.2] 68 (0, 0))], [(b3, .cells #[.slice A path.length c] 25 (0, 0))], [(b2, .cells #[.pointer (some ⟨gt_, 0, none⟩)] 30 (0, 0))]]) _ 7 #[false, false, false, false, false, false, false] _
    refine ht (i := 0) rfl (by kernel_rfl) rfl rfl rfl (fun w hw => hw.back (Gh.refl _) h01 (.cons_cons _ (.cons _ (.cons _ (.cons _ (.cons _ (.cons_cons _ (.cons_cons _ (.cons _ (.cons_cons _ .slnil)))))))))) (q_ldl (i := 3) (v := .pointer (some ⟨gt_, 0, none⟩)) rfl rfl Try.isAgg30 rfl rfl) ?_
    refine ht (i := 1) rfl (by kernel_rfl) rfl rfl rfl (fun w hw => hw.back (Gh.refl _) h01 (.cons_cons _ (.cons _ (.cons _ (.cons _ (.cons _ (.cons_cons _ (.cons_cons _ (.cons _ (.cons_cons _ .slnil)))))))))) (q_nil (A := some ⟨gt_, 0, none⟩) rfl rfl rfl) ?_
    refine ht (i := 2) rfl (by kernel_rfl) rfl rfl rfl (fun w hw => hw.back (Gh.refl _) h01 (.cons_cons _ (.cons _ (.cons _ (.cons _ (.cons _ (.cons_cons _ (.cons_cons _ (.cons _ (.cons_cons _ .slnil)))))))))) (q_fl 256 fld_65_1 rfl rfl rfl) ?_
    refine ht (i := 3) rfl (by kernel_rfl) rfl rfl rfl (fun w hw => hw.back (Gh.refl _) h01 (.cons_cons _ (.cons _ (.cons _ (.cons _ (.cons _ (.cons_cons _ (.cons_cons _ (.cons _ (.cons_cons _ .slnil)))))))))) (q_ldAe (i := 0) (cs := cs) rfl (hM.len.trans hl) rfl Try.isAgg60 rfl) ?_
    refine ht (i := 4) rfl (by kernel_rfl) rfl rfl rfl (fun w hw => hw.back (Gh.refl _) h01 (.cons_cons _ (.cons _ (.cons _ (.cons _ (.cons _ (.cons_cons _ (.cons_cons _ (.cons _ (.cons_cons _ .slnil)))))))))) (q_ldla (i := 2) (vs := [.int .i64 z1.1.1, .int .i64 z1.1.2.1, .int .i64 z1.1.2.2]) rfl rfl Try.isAgg68 Try.sizeOf68 rfl rfl) ?_
    refine ht (i := 5) rfl (by kernel_rfl) rfl rfl rfl (fun w hw => hw.back (Gh.refl _) h01 (.cons_cons _ (.cons _ (.cons _ (.cons _ (.cons _ (.cons_cons _ (.cons_cons _ (.cons _ (.cons_cons _ .slnil)))))))))) (q_ldl (i := 1) (v := .pointer (some ⟨gs, 0, none⟩)) rfl rfl Try.isAgg71 rfl rfl) ?_
    refine WH.lone (i := 6) (by kernel_rfl) rfl ?_
    refine e_mapUpdate (i := 2) (x := z1.1) (v := .pointer (some ⟨gs, 0, none⟩)) (a := gs) rfl rfl rfl Try.underlying60 rfl rfl (by kernel_rfl) rfl ho2 rfl ⟨by rw [of_decide_eq_true hk1]; exact len_r hpath.le, i64b_of hk2, i64b_of hk3⟩ ?_
    intro rowM' hM'
    refine WR.nil ?_
    refine WH.next (fun w hw => hw.back (Gh.refl _) h01 (.cons_cons _ (.cons _ (.cons _ (.cons _ (.cons _ (.cons_cons _ (.cons_cons _ (.cons _ (.cons_cons _ .slnil)))))))))) ?_
    refine WH.done (by kernel_rfl) ?_
    change WC _ _ _ _ _ _
    have hob1 : OTree.ob (et.1, (z1.1, gs) :: et.2) Γ gt_ ([[(gt_, .cells (cs ++ [Value.map (some sm)]).toArray et.1 (0, 0))], rowL, rowM', B] : List Rowb).flatten t := by
      refine ⟨cs, rowL, sm, rowM' ++ B, by simp only [List.flatten_cons, List.flatten_nil, List.append_nil, List.append_assoc], hM, hl, ?_, trivial⟩
      rw [hB]; exact Sums.lend ho1 hM' hon hS.ok
    obtain ⟨rowt1, hr1⟩ : ∃ rw : Rowb, rw = ([[(gt_, .cells (cs ++ [Value.map (some sm)]).toArray et.1 (0, 0))], rowL, rowM', B] : List Rowb).flatten := ⟨_, rfl⟩
    rw [← hr1] at hob1
    intro w hw; have hw := hw.fold (is := [0, 0, 0, 0]) (row := rowt1) rfl hr1
    refine WC.here (C := CC F Γ [rowt1, [(gs, .cells #[.int .u32 0, .int .i32 0, .int .u32 0, .int .u64 0] 85 (0, 0))], [(b7, .cells #[.pointer (some ⟨gs, 0, none⟩)] 71 (0, 0))], [(g5, .cells #[.int .i64 z1.1.1, .int .i64 z1.1.2.1, .int .i64 z1.1.2.2] 68 (0, 0))], [(b3, .cells #[.slice A path.length c] 25 (0, 0))], [(b2, .cells #[.pointer (some ⟨gt_, 0, none⟩)] 30 (0, 0))]]) ?_ hw; clear hw
    have hlen1 : ∀ p ∈ (et.1, (z1.1, gs) :: et.2).2, p.1.1 ≤ (path.length : Int) := fun p hp => by
      rcases List.mem_cons.1 hp with h9 | h9
      · rw [h9, of_decide_eq_true hk1]; exact Int.le_refl _
      · exact Int.le_of_lt (hlen p h9)
    refine WC.rs ?_
    refine va rfl rfl rfl (q_ldl (i := 2) (v := .pointer (some ⟨gs, 0, none⟩)) rfl rfl Try.isAgg71 rfl rfl) ?_
    refine va rfl rfl rfl (q_nil (A := some ⟨gs, 0, none⟩) rfl rfl rfl) ?_
    refine va rfl rfl rfl (q_fl 0 fld_85_0 rfl rfl rfl) ?_
    refine va rfl rfl rfl (q_mkfn (v := .func (.func 30) #[] #[.pointer (some ⟨b2, 0, none⟩), .pointer (some ⟨b3, 0, none⟩), .pointer (some ⟨b7, 0, none⟩)]) rfl (by kernel_rfl)) ?_
    refine e_call (is := [5, 4, 2, 0, 0]) rfl rfl (call_run (args := #[.pointer (some ⟨gs, 0, none⟩), .func (.func 30) #[] #[.pointer (some ⟨b2, 0, none⟩), .pointer (some ⟨b3, 0, none⟩), .pointer (some ⟨b7, 0, none⟩)]]) Try.call29 rfl rfl (by kernel_rfl)) rfl (fun w hp => t_once hH hob1 hpath hc hlen1 hp hz) ?_
    rintro Γ1 U1 v1 hl1 ⟨rowt2, rfl, rfl, hob2, hu2, -⟩
    change WR _ _ _ (CC F Γ1 [[(b2, .cells #[.pointer (some ⟨gt_, 0, none⟩)] 30 (0, 0))], [(b3, .cells #[.slice A path.length c] 25 (0, 0))], [(b7, .cells #[.pointer (some ⟨gs, 0, none⟩)] 71 (0, 0))], rowt2, [(gs, .cells #[.int .u32 1, .int .i32 0, .int .u32 0, .int .u64 z.2] 85 (0, 0))], [(g5, .cells #[.int .i64 z1.1.1, .int .i64 z1.1.2.1, .int .i64 z1.1.2.2] 68 (0, 0))]]) _ _ (upd _ 35 (.tuple #[]))
    refine WR.nil ?_
    change WC _ _ _ _ _ _
    refine WC.rs ?_
    refine va rfl rfl rfl (q_ldl (i := 2) (v := .pointer (some ⟨gs, 0, none⟩)) rfl rfl Try.isAgg71 rfl rfl) ?_
    refine va rfl rfl rfl (q_nil (A := some ⟨gs, 0, none⟩) rfl rfl rfl) ?_
    refine va rfl rfl rfl (q_fl 3 fld_85_1 rfl rfl rfl) ?_
    refine va rfl rfl rfl (q_ldl (i := 4) (v := .int .u64 z.2) rfl rfl Try.isAgg40 rfl rfl) ?_
    refine va rfl rfl rfl (q_assign (v := .int .u64 z.2) rfl (by kernel_rfl)) ?_
    refine WR.nil ?_
    change WC _ _ _ _ _ _
    refine WC.ret ?_
    intro w hw
    have hw := hw.fold (is := [3, 3]) (row := rowt2 ++ [sumO 85 gs z.2]) rfl (by simp [pkU]; rfl)
    obtain rfl := Option.some.inj h
    subst hF
    exact end_e (is := [0]) (by kernel_rfl) hw rfl ⟨rowt2 ++ [sumO 85 gs z.2], rfl, rfl, OTree.back hob2 hu2, hu2, trivial⟩
theorem t_hashN (n : Nat) : HashC (m_hashN n) := by
  induction n with
  | zero => intro Γ w0 gt_ et rowt t ht_ A c path hpath hc hlen hp r h; exact absurd h (by simp [m_hashN])
  | succ n ih => exact t_hash_step ih

theorem t_HashC : HashC m_tree_Tree_Hash := by
  exact t_hashN 3

abbrev r_tree_Differ (r : List Int) (U : List Rowb) (Γ : Gh) (v : Value) : Prop := ∃ (A0 : Option Addr), ∃ (c0 : Nat), ∃ (row0 : Rowb), v = .slice A0 r.length c0 ∧ U = [row0] ∧ Own intT Γ 3 row0 A0 c0 r ∧ True
set_option maxRecDepth 100000 in
set_option maxHeartbeats 400000 in
theorem t_tree_Differ {Γ : Gh} {w0 : World} {Aa : Option Addr} {ca : Nat} {a : List Int} (ha : Sl u64T Γ Aa a) (hac : a.length ≤ ca) {Ab : Option Addr} {cb : Nat} {b : List Int} (hb : Sl u64T Γ Ab b) (hbc : b.length ≤ cb) (hp : Pre [] Γ w0) {r : List Int} (h : m_tree_Differ a b = some r) : Calls Try.prog 12 #[.slice Aa a.length ca, .slice Ab b.length cb] w0 (Outc Γ [] w0 (r_tree_Differ r)) := by
  refine calls_of (N := 31) (rs := [4]) (args := [.slice Aa a.length ca, .slice Ab b.length cb]) Try.func12 rfl Try.ntmps12 Try.results12 rfl ?_
  obtain ⟨F, hF⟩ : ∃ F : Fm, F = ⟨ids [], w0, Γ⟩ := ⟨_, rfl⟩
  refine WC.here (C := CC F Γ []) ?_ (hF ▸ hp.start)
  refine WC.rs ?_
  refine va rfl rfl rfl (q_assign (v := .slice none 0 0) rfl (by kernel_rfl)) ?_
  refine WR.nil ?_
  change WC _ _ _ _ _ _
  refine WC.rs ?_
  refine e_alloc Try.zeroValue58 rfl rfl rfl rfl ?_
  intro g1
  have ho2 : Own u64T Γ 58 [(g1, .cells #[.int .u64 0, .int .u64 0, .int .u64 0, .int .u64 0, .int .u64 0, .int .u64 0, .int .u64 0, .int .u64 0, .int .u64 0, .int .u64 0, .int .u64 0, .int .u64 0, .int .u64 0, .int .u64 0, .int .u64 0, .int .u64 0] 58 (0, 0))] (some ⟨g1, 0, none⟩) 16 (List.replicate 16 0) := own_zero (T := u64T) 16 [.int .u64 0] 0 rfl ⟨rfl, (show U64 0 by decide)⟩ (by decide)
  refine e_alloc Try.zeroValue58 rfl rfl rfl rfl ?_
  intro g3
  have ho4 : Own u64T Γ 58 [(g3, .cells #[.int .u64 0, .int .u64 0, .int .u64 0, .int .u64 0, .int .u64 0, .int .u64 0, .int .u64 0, .int .u64 0, .int .u64 0, .int .u64 0, .int .u64 0, .int .u64 0, .int .u64 0, .int .u64 0, .int .u64 0, .int .u64 0] 58 (0, 0))] (some ⟨g3, 0, none⟩) 16 (List.replicate 16 0) := own_zero (T := u64T) 16 [.int .u64 0] 0 rfl ⟨rfl, (show U64 0 by decide)⟩ (by decide)
  refine WR.nil ?_
  change WC _ _ _ _ _ _
  refine WC.rs ?_
  refine va rfl rfl rfl (q_slarr Try.underlying58 Try.sizeOf40 rfl rfl) ?_
  refine va rfl rfl rfl (q_move (v := .slice Aa a.length ca) rfl (by kernel_rfl)) ?_
  refine e_copy (T := u64T) (xs := (List.replicate 16 0)) (ys := a) (i := 1) Try.underlying22 (by kernel_rfl) rfl rfl rfl rfl rfl rfl rfl ho2 List.length_replicate (fun w hw => src_sl ha hw) ?_
  intro row5 ho6
  refine WR.nil ?_
  change WC _ _ _ _ _ _
  refine WC.rs ?_
  refine va rfl rfl rfl (q_slarr Try.underlying58 Try.sizeOf40 rfl rfl) ?_
  refine va rfl rfl rfl (q_move (v := .slice Ab b.length cb) rfl (by kernel_rfl)) ?_
  refine e_copy (T := u64T) (xs := (List.replicate 16 0)) (ys := b) (i := 0) Try.underlying22 (by kernel_rfl) rfl rfl rfl rfl rfl rfl rfl ho4 List.length_replicate (fun w hw => src_sl hb hw) ?_
  intro row7 ho8
  refine WR.nil ?_
  change WC _ _ _ _ _ _
  refine WC.rs ?_
  refine va rfl rfl rfl (q_assign (v := .slice none 0 0) rfl (by kernel_rfl)) ?_
  refine WR.nil ?_
  change WC _ _ _ _ _ _
  refine WC.seq ?_
  refine WC.rs ?_
  refine va rfl rfl rfl (q_move (v := .int .i64 0) rfl (by kernel_rfl)) ?_
  refine WR.nil ?_
  change WC _ _ _ _ _ _
  refine WC.block ?_
  refine WC.forU h (fun (i15 : Nat) (out_9 : List Int) σ w => ∃ (A10 : Option Addr), ∃ (c11 : Nat), ∃ (row12 : Rowb), slots σ [(5, .pointer (some ⟨g1, 0, none⟩)), (6, .pointer (some ⟨g3, 0, none⟩)), (7, .slice A10 out_9.length c11), (15, .int .i64 ((i15 : Nat) : Int))] ∧ CC F Γ [row12, row7, row5] w ∧ Own intT Γ 3 row12 A10 c11 out_9 ∧ True) ?_ ?_
  · skip
    intro w hw
    have hw := hw.pad
    exact ⟨none, 0, [], (sl_ (by kernel_rfl)), hw, (Own.nil intT _ 3), trivial⟩
  rintro f14 i15 out_9 σ w hi16 hlt17 hge18 ⟨A10, c11, row12, hsl, hw, ho13, -⟩
  refine Wpt.slots hsl ?_
  refine WC.here (C := CC F Γ [row12, row7, row5]) ?_ hw
  clear hw hsl
  refine WC.rs ?_
  refine va rfl rfl rfl (q_lss rfl rfl rfl) ?_
  refine WR.nil ?_
  change WC _ _ _ _ _ _
  refine WC.seq ?_
  refine WC.cond (b := (decide (((i15 : Nat) : Int) < 16))) (by kernel_rfl) (fun hb19 => ?_) (fun hb19 => ?_)
  · skip
    have hl20 := ilt hb19
    have h := hlt17 hl20
    refine WC.skip ?_
    change WC _ _ _ _ _ _
    refine WC.cut (fun σ w => ∃ (out_21 : List Int), ∃ (A22 : Option Addr), ∃ (c23 : Nat), ∃ (row24 : Rowb), m_tree_Differ_j5 f14 out_21 = some r ∧ slots σ [(5, .pointer (some ⟨g1, 0, none⟩)), (6, .pointer (some ⟨g3, 0, none⟩)), (7, .slice A22 out_21.length c23), (15, .int .i64 ((i15 : Nat) : Int))] ∧ CC F Γ [row24, row7, row5] w ∧ Own intT Γ 3 row24 A22 c23 out_21 ∧ True) ?_ ?_
    · skip
      refine WC.block ?_
      refine WC.rs ?_
      refine va rfl rfl rfl (q_move (v := .int .i64 ((i15 : Nat) : Int)) rfl (by kernel_rfl)) ?_
      refine va rfl rfl rfl (q_assign (v := .int .i64 ((i15 : Nat) : Int)) rfl (by kernel_rfl)) ?_
      refine WR.nil ?_
      change WC _ _ _ _ _ _
      refine WC.seq ?_
      refine WC.dr (by kernel_rfl) (by kernel_rfl) (fun w hw => hw.drawn _) ?_
      refine wa rfl rfl rfl (q_move (v := .int .i64 ((i15 : Nat) : Int)) rfl (by kernel_rfl)) ?_
      refine wa rfl rfl rfl (q_ixan (i := i15) Try.underlying58 Try.sizeOf40 rfl rfl rfl hl20) ?_
      refine wa rfl rfl rfl (q_ldo (c := 0) (v := .int .u64 (gt (List.take (List.replicate 16 0).length a ++ List.drop a.length (List.replicate 16 0)) i15)) (i := 2) rfl (ho6.u64T_at (ltq hl20 ((copy_len _ _).trans List.length_replicate).symm)).2 rfl Try.isAgg40 rfl rfl) ?_
      refine wa rfl rfl rfl (q_move (v := .int .i64 ((i15 : Nat) : Int)) rfl (by kernel_rfl)) ?_
      refine wa rfl rfl rfl (q_ixan (i := i15) Try.underlying58 Try.sizeOf40 rfl rfl rfl hl20) ?_
      refine wa rfl rfl rfl (q_ldo (c := 0) (v := .int .u64 (gt (List.take (List.replicate 16 0).length b ++ List.drop b.length (List.replicate 16 0)) i15)) (i := 1) rfl (ho8.u64T_at (ltq hl20 ((copy_len _ _).trans List.length_replicate).symm)).2 rfl Try.isAgg40 rfl rfl) ?_
      refine wa rfl rfl rfl (q_neq rfl rfl rfl) ?_
      refine WQ.nil ?_
      change WC _ _ _ _ _ _
      refine WC.cif h (by kernel_rfl) (fun hb26 h => ?_) (fun hb26 h => ?_)
      · skip
        refine WC.region ?_
        refine va rfl rfl rfl (q_move (v := .slice A10 out_9.length c11) rfl (by kernel_rfl)) ?_
        refine va rfl rfl rfl (q_move (v := .int .i64 ((i15 : Nat) : Int)) rfl (by kernel_rfl)) ?_
        refine e_buildSlice (cs := #[.int .i64 ((i15 : Nat) : Int)]) (e := 3) rfl rfl rfl rfl (fun w => by kernel_rfl) ?_
        intro g27
        obtain ⟨hk28, h⟩ := chk_some h
        refine e_append (T := intT) (xs := out_9) (ys := [((i15 : Nat) : Int)]) elem_25 (i := 1) rfl rfl rfl rfl rfl rfl rfl ho13 (of_decide_eq_true hk28) (fun w hw => src_one (T := intT) (y := ((i15 : Nat) : Int)) (i := 0) rfl (by exact ⟨rfl, (ctr_lit0 hl20 (by decide))⟩) hw) ?_
        intro row29 A30 c31 ho32
        refine va rfl rfl rfl (q_assign (v := .slice A30 (out_9 ++ [((i15 : Nat) : Int)]).length c31) rfl (by kernel_rfl)) ?_
        refine WR.nil ?_
        intro w hw
        exact ⟨(out_9 ++ [((i15 : Nat) : Int)]), A30, c31, row29, h, (sl_ (by kernel_rfl)), (hw.only (is := [1, 1, 1]) rfl), ho32, trivial⟩
      · skip
        refine WC.skip ?_
        intro w hw
        exact ⟨out_9, A10, c11, row12, h, (sl_ (by kernel_rfl)), hw, ho13, trivial⟩
    · skip
      rintro σ w ⟨out_21, A22, c23, row24, h, hsl, hw, ho25, -⟩
      refine Wpt.slots hsl ?_
      refine WC.here (C := CC F Γ [row24, row7, row5]) ?_ hw
      clear hw hsl
      refine WC.region ?_
      refine va rfl rfl rfl (q_add_r (r := ((i15 + 1 : Nat) : Int)) rfl rfl rfl (ctr_lit hl20 (by decide))) ?_
      refine va rfl rfl rfl (q_move (v := .int .i64 ((i15 + 1 : Nat) : Int)) rfl (by kernel_rfl)) ?_
      refine WR.nil ?_
      intro w hw
      exact ⟨hl20, out_21, h, A22, c23, row24, (sl_ (by kernel_rfl)), hw, ho25, trivial⟩
  · skip
    have h := hge18 (ige hb19)
    refine WC.exit ?_
    change WC _ _ _ _ _ _
    refine WC.rs ?_
    refine va rfl rfl rfl (q_move (v := .slice A10 out_9.length c11) rfl (by kernel_rfl)) ?_
    refine va rfl rfl rfl (q_assign (v := .slice A10 out_9.length c11) rfl (by kernel_rfl)) ?_
    refine WR.nil ?_
    change WC _ _ _ _ _ _
    refine WC.ret ?_
    intro w hw
    obtain rfl := Option.some.inj h
    subst hF
    exact end_e (is := [0]) (by kernel_rfl) hw rfl ⟨A10, c11, row12, rfl, rfl, ho13, trivial⟩
set_option maxRecDepth 100000 in
set_option maxHeartbeats 400000 in
theorem t_firthlaw11_awake {Γ : Gh} {w0 : World}  (hs : Sat Γ w0) {r : Bool} (h : m_firthlaw11_awake = some r) : Calls Try.prog 8 #[] w0 (fun e w' => e = .returned (.bool r) ∧ Fr no w0 w') := by
  refine calls_of (N := 66) (rs := [0]) (args := []) Try.func8 rfl Try.ntmps8 Try.results8 rfl ?_
  obtain ⟨F, hF⟩ : ∃ F : Fm, F = ⟨no, w0, Γ⟩ := ⟨_, rfl⟩
  refine WC.here (C := CC F Γ []) ?_ (hF ▸ Cur.start0 hs)
  refine WC.rs ?_
  refine va rfl rfl rfl (q_assign (v := .bool false) rfl (by kernel_rfl)) ?_
  refine WR.nil ?_
  change WC _ _ _ _ _ _
  refine WC.rs ?_
  obtain ⟨z1, hz2, h⟩ := bnd h
  refine e_call (is := []) rfl rfl (call_run Try.call14 rfl rfl (by kernel_rfl)) rfl (fun w hp => t_tree_New (Sl.nil recT _ none) (Nat.zero_le 0) hp hz2) ?_
  rintro Γ3 U5 v6 hl4 ⟨g7, row8, rfl, rfl, hr9, hr10, _⟩
  change WR _ _ _ (CC F Γ3 [row8]) _ _ (upd _ 6 (.tuple #[optp z1.1 g7, .int .i64 z1.2]))
  refine va rfl rfl rfl (q_move (v := .tuple #[optp z1.1 g7, .int .i64 z1.2]) rfl (by kernel_rfl)) ?_
  refine va rfl rfl rfl (q_extract (v := optp z1.1 g7) rfl rfl rfl) ?_
  refine va rfl rfl rfl (q_extract (v := .int .i64 z1.2) rfl rfl rfl) ?_
  refine va rfl rfl rfl (q_assign (v := optp z1.1 g7) rfl (by kernel_rfl)) ?_
  refine va rfl rfl rfl (q_assign (v := .int .i64 z1.2) rfl (by kernel_rfl)) ?_
  refine WR.nil ?_
  change WC _ _ _ _ _ _
  refine WC.seq ?_
  refine WC.rs ?_
  refine va rfl rfl rfl (q_move (v := optp z1.1 g7) rfl (by kernel_rfl)) ?_
  refine va rfl rfl rfl (q_opt_eql Try.underlying30 rfl rfl rfl) ?_
  refine va rfl rfl rfl (q_move (v := .bool (Option.isNone z1.1)) rfl (by kernel_rfl)) ?_
  refine vg0 rfl rfl rfl rfl rfl (fun hg11 => QV.qo (q_move (v := .int .i64 z1.2) rfl (by kernel_rfl))) ?_
  refine vg0 rfl rfl rfl rfl rfl (fun hg12 => QV.qo (q_neq rfl (gu hg12 rfl) rfl)) ?_
  refine va rfl rfl rfl (q_pick rfl rfl (pk_or' (g := (Option.isNone z1.1)) (y := (z1.2 != 0)))) ?_
  refine va rfl rfl rfl (q_move (v := .bool ((Option.isNone z1.1) || (z1.2 != 0))) rfl (by kernel_rfl)) ?_
  refine vg0 rfl rfl rfl rfl rfl (fun hg13 => QV.qo (q_move (v := optp z1.1 g7) rfl (by kernel_rfl))) ?_
  refine (Bool.eq_false_or_eq_true (!((Option.isNone z1.1) || (z1.2 != 0)))).elim (fun hb14 => ?_) (fun hb14 => ?_)
  · skip
    have h := bt hb14 h
    refine WR.sat (c0 := true) (g := ((Option.isNone z1.1) || (z1.2 != 0))) rfl rfl rfl hb14 ?_
    obtain ⟨z15, hz16, h⟩ := bnd h
    have ho17 := optob_some hr9 hz16
    obtain ⟨z18, hz19, h⟩ := bnd h
    refine e_call (is := [0]) rfl rfl (call_run Try.call17 rfl rfl (args2 (optp_some (gu hb14 rfl) hz16) rfl)) rfl (fun w hp => t_HashC ho17 (Sl.nil intT _ none) (Nat.zero_le 0) (fun p hp => nomatch hp) hp hz19) ?_
    rintro Γ20 U22 v23 hl21 ⟨row24, rfl, rfl, hr25, hr26, _⟩
    change WR _ _ _ (CC F Γ20 [row24]) _ _ (upd _ 17 (.int .u64 z18.2))
    refine WR.sat (c0 := true) (g := ((Option.isNone z1.1) || (z1.2 != 0))) rfl rfl rfl hb14 ?_
    refine va rfl rfl rfl (q_neq rfl rfl rfl) ?_
    refine va rfl rfl rfl (q_pick_f (v := .bool (z18.2 != 0)) rfl rfl (not_t hb14) (by kernel_rfl)) ?_
    refine va rfl rfl rfl (q_move (v := .bool (z18.2 != 0)) rfl (by kernel_rfl)) ?_
    refine vg0 rfl rfl rfl rfl rfl (fun hg27 => QV.qo (q_move (v := .pointer (some ⟨g7, 0, none⟩)) rfl (optp_some rfl hz16))) ?_
    refine (Bool.eq_false_or_eq_true (!(z18.2 != 0))).elim (fun hb28 => ?_) (fun hb28 => ?_)
    · skip
      have h := bt hb28 h
      refine WR.sat (c0 := true) (g := (z18.2 != 0)) rfl rfl rfl hb28 ?_
      obtain ⟨z29, hz30, h⟩ := bnd h
      refine e_call (is := [0]) rfl rfl (call_run Try.call21 rfl rfl (args2 (gu hb28 rfl) rfl)) rfl (fun w hp => t_tree_Tree_Kids t_HashC hr25 (Sl.nil intT _ none) (Nat.zero_le 0) (fun p hp => nomatch hp) hp hz30) ?_
      rintro Γ31 U33 v34 hl32 ⟨row35, A37, c38, row39, rfl, rfl, hr36, hr40, _⟩
      change WR _ _ _ (CC F Γ31 [row35, row39]) _ _ (upd _ 22 (.slice A37 z29.2.length c38))
      refine WR.sat (c0 := true) (g := (z18.2 != 0)) rfl rfl rfl hb28 ?_
      refine va rfl rfl rfl (q_len_slice rfl Try.underlying22 rfl) ?_
      refine WR.sat (c0 := true) (g := (z18.2 != 0)) rfl rfl rfl hb28 ?_
      refine va rfl rfl rfl (q_neq rfl rfl rfl) ?_
      refine va rfl rfl rfl (q_pick_f (v := .bool (((z29.2.length : Nat) : Int) != 16)) rfl rfl (not_t hb28) (by kernel_rfl)) ?_
      refine WR.nil ?_
      change WC _ _ _ _ _ _
      refine WC.cif h (by kernel_rfl) (fun hb41 h => ?_) (fun hb41 h => ?_)
      · skip
        refine WC.rs ?_
        refine va rfl rfl rfl (q_assign (v := .bool false) rfl (by kernel_rfl)) ?_
        refine WR.nil ?_
        change WC _ _ _ _ _ _
        refine WC.ret ?_
        intro w hw
        obtain rfl := Option.some.inj h
        subst hF
        exact ⟨by kernel_rfl, hw.fr⟩
      · skip
        refine WC.skip ?_
        change WC _ _ _ _ _ _
        refine WC.seq ?_
        refine WC.rs ?_
        refine va rfl rfl rfl (q_move (v := .pointer (some ⟨g7, 0, none⟩)) rfl (optp_some rfl hz16)) ?_
        refine va rfl rfl rfl (q_build' (v := .agg #[.int .i64 1, .int .i64 1]) rfl (bargs2 rfl rfl) (fun w => by kernel_rfl)) ?_
        refine va rfl rfl rfl (q_build' (v := .agg #[.int .i64 1, .int .i64 1, .slice none 0 0, .bool false, .string ByteArray.empty]) rfl (bargs1 rfl) (fun w => by kernel_rfl)) ?_
        refine e_buildSlice (cs := #[.int .i64 1, .int .i64 1, .slice none 0 0, .bool false, .string ByteArray.empty]) (e := 54) rfl rfl rfl rfl (fun w => by kernel_rfl) ?_
        intro g42
        refine va rfl rfl rfl (q_build' (v := .agg #[.string ⟨#[107]⟩, .slice (some ⟨g42, 0, none⟩) 1 1]) rfl (bargs2 rfl rfl) (fun w => by kernel_rfl)) ?_
        have ho43 : Own verT Γ31 54 [(g42, .cells #[.int .i64 1, .int .i64 1, .slice none 0 0, .bool false, .string ByteArray.empty] 54 (0, 0))] (some ⟨g42, 0, none⟩) 1 [(⟨(⟨1, 1⟩ : Dot), [], false, ByteArray.empty⟩ : Ver)] := Own.of_blockL (T := verT) (ys := [(⟨(⟨1, 1⟩ : Dot), [], false, ByteArray.empty⟩ : Ver)]) [[.int .i64 1, .int .i64 1, .slice none 0 0, .bool false, .string ByteArray.empty]] rfl (show 1 ≤ lim by decide) (show Ty.rd verT Γ31 [.int .i64 1, .int .i64 1, .slice none 0 0, .bool false, .string ByteArray.empty] (⟨(⟨1, 1⟩ : Dot), [], false, ByteArray.empty⟩ : Ver) ∧ True from ⟨⟨none, 0, rfl, ⟨(show I64 1 by decide), (show I64 1 by decide), ⟨Nat.zero_le _, Sl.nil _ _ _⟩, (show (ByteArray.empty : ByteArray).size ≤ lim by decide)⟩⟩, trivial⟩)
        have hc48 := ho43.capz
        intro w hw; obtain ⟨Γ44, hw, hl45, hr46⟩ := hw.seal (i := 0) rfl; have hs47 := ho43.sl hl45 hr46
        refine WR.here (C := CC F Γ44 [[], row35, row39]) ?_ hw
        clear hw
        obtain ⟨z49, hz50, h⟩ := bnd h
        refine e_call (is := [1]) rfl rfl (call_run Try.call20 rfl rfl (by kernel_rfl)) rfl (fun w hp => t_tree_Tree_Set (hr36.mono hl45) (⟨⟨#[107]⟩, [(⟨(⟨1, 1⟩ : Dot), [], false, ByteArray.empty⟩ : Ver)]⟩ : Rec) ⟨(show (⟨#[107]⟩ : ByteArray).size ≤ lim by decide), ⟨hc48, hs47⟩⟩ hp hz50) ?_
        rintro Γ51 U53 v54 hl52 ⟨row55, rfl, rfl, hr56, hr57, _⟩
        change WR _ _ _ (CC F Γ51 [row55, [], row39]) _ _ (upd _ 31 (.int .i64 z49.2))
        refine va rfl rfl rfl (q_neq rfl rfl rfl) ?_
        refine WR.nil ?_
        change WC _ _ _ _ _ _
        refine WC.cif h (by kernel_rfl) (fun hb58 h => ?_) (fun hb58 h => ?_)
        · skip
          refine WC.rs ?_
          refine va rfl rfl rfl (q_assign (v := .bool false) rfl (by kernel_rfl)) ?_
          refine WR.nil ?_
          change WC _ _ _ _ _ _
          refine WC.ret ?_
          intro w hw
          obtain rfl := Option.some.inj h
          subst hF
          exact ⟨by kernel_rfl, hw.fr⟩
        · skip
          refine WC.skip ?_
          change WC _ _ _ _ _ _
          refine WC.rs ?_
          refine va rfl rfl rfl (q_move (v := .pointer (some ⟨g7, 0, none⟩)) rfl (optp_some rfl hz16)) ?_
          obtain ⟨z59, hz60, h⟩ := bnd h
          refine e_call (is := [0]) rfl rfl (call_run Try.call21 rfl rfl (by kernel_rfl)) rfl (fun w hp => t_tree_Tree_Kids t_HashC hr56 (Sl.nil intT _ none) (Nat.zero_le 0) (fun p hp => nomatch hp) hp hz60) ?_
          rintro Γ61 U63 v64 hl62 ⟨row65, A67, c68, row69, rfl, rfl, hr66, hr70, _⟩
          change WR _ _ _ (CC F Γ61 [row65, row69, [], row39]) _ _ (upd _ 34 (.slice A67 z59.2.length c68))
          have hc75 := hr70.capz
          intro w hw; obtain ⟨Γ71, hw, hl72, hr73⟩ := hw.seal (i := 1) rfl; have hs74 := hr70.sl hl72 hr73
          refine WR.here (C := CC F Γ71 [row65, [], [], row39]) ?_ hw
          clear hw
          obtain ⟨z76, hz77, h⟩ := bnd h
          refine e_call (is := []) rfl rfl (call_run Try.call12 rfl rfl (by kernel_rfl)) rfl (fun w hp => t_tree_Differ hs74 hc75 (Sl.nil u64T _ none) (Nat.zero_le 0) hp hz77) ?_
          rintro Γ78 U80 v81 hl79 ⟨A82, c83, row84, rfl, rfl, hr85, _⟩
          change WR _ _ _ (CC F Γ78 [row84, row65, [], [], row39]) _ _ (upd _ 35 (.slice A82 z76.length c83))
          refine va rfl rfl rfl (q_assign (v := .slice A82 z76.length c83) rfl (by kernel_rfl)) ?_
          refine WR.nil ?_
          change WC _ _ _ _ _ _
          refine WC.rs ?_
          obtain ⟨z86, hz87, h⟩ := bnd h
          refine e_call (is := []) rfl rfl (call_run Try.call10 rfl rfl (by kernel_rfl)) rfl (fun w hp => t_tree_Place ⟨#[107]⟩ (show (⟨#[107]⟩ : ByteArray).size ≤ lim by decide) hp hz87) ?_
          rintro Γ88 U90 v91 hl89 ⟨A92, c93, row94, rfl, rfl, hr95, _⟩
          change WR _ _ _ (CC F Γ88 [row94, row84, row65, [], [], row39]) _ _ (upd _ 36 (.slice A92 z86.length c93))
          refine va rfl rfl rfl (q_assign (v := .slice A92 z86.length c93) rfl (by kernel_rfl)) ?_
          refine WR.nil ?_
          change WC _ _ _ _ _ _
          refine WC.seq ?_
          have hc100 := hr95.capz
          intro w hw; obtain ⟨Γ96, hw, hl97, hr98⟩ := hw.seal (i := 0) rfl; have hs99 := hr95.sl hl97 hr98
          refine WC.here (C := CC F Γ96 [[], row84, row65, [], [], row39]) ?_ hw
          clear hw
          intro w hw; have h0101 := hw.le
          refine WC.here (C := CC F Γ96 [[], row84, row65, [], [], row39]) ?_ hw; clear hw
          refine WC.held (CC F Γ96 [[], row84, [], [], row39]) (by kernel_rfl) (fun w hw => hw.drawn _) ?_
          change WH _ _ _ _ (CC F Γ96 [[], row84, row65, [], [], row39]) _ 30 #[false, false, false, false, false, false, false, false, false, false, false, false, false, false, false, false, false, false, false, false, false, false, false, false, false, false, false, false, false, false] _
          refine ht (i := 0) rfl (by kernel_rfl) rfl rfl rfl (fun w hw => hw.back (Gh.refl _) h0101 (.cons_cons _ (.cons_cons _ (.cons _ (.cons_cons _ (.cons_cons _ (.cons_cons _ .slnil))))))) (q_move (v := .slice A92 z86.length c93) rfl (by kernel_rfl)) ?_
          refine ht (i := 1) rfl (by kernel_rfl) rfl rfl rfl (fun w hw => hw.back (Gh.refl _) h0101 (.cons_cons _ (.cons_cons _ (.cons _ (.cons_cons _ (.cons_cons _ (.cons_cons _ .slnil))))))) (q_len_slice rfl Try.underlying25 rfl) ?_
          refine ht (i := 2) rfl (by kernel_rfl) rfl rfl rfl (fun w hw => hw.back (Gh.refl _) h0101 (.cons_cons _ (.cons_cons _ (.cons _ (.cons_cons _ (.cons_cons _ (.cons_cons _ .slnil))))))) (q_eql rfl rfl rfl) ?_
          refine ht (i := 3) rfl (by kernel_rfl) rfl rfl rfl (fun w hw => hw.back (Gh.refl _) h0101 (.cons_cons _ (.cons_cons _ (.cons _ (.cons_cons _ (.cons_cons _ (.cons_cons _ .slnil))))))) (q_move (v := .bool (((z86.length : Nat) : Int) == 2)) rfl (by kernel_rfl)) ?_
          refine hg1 (i := 4) rfl (by kernel_rfl) rfl rfl rfl rfl rfl (fun w hw => hw.back (Gh.refl _) h0101 (.cons_cons _ (.cons_cons _ (.cons _ (.cons_cons _ (.cons_cons _ (.cons_cons _ .slnil))))))) (fun hg102 => (q_move (v := .slice A82 z76.length c83) rfl (by kernel_rfl))) ?_
          refine hg1 (i := 5) rfl (by kernel_rfl) rfl rfl rfl rfl rfl (fun w hw => hw.back (Gh.refl _) h0101 (.cons_cons _ (.cons_cons _ (.cons _ (.cons_cons _ (.cons_cons _ (.cons_cons _ .slnil))))))) (fun hg103 => (q_len_slice rfl Try.underlying25 (gu hg103 rfl))) ?_
          refine hg1 (i := 6) rfl (by kernel_rfl) rfl rfl rfl rfl rfl (fun w hw => hw.back (Gh.refl _) h0101 (.cons_cons _ (.cons_cons _ (.cons _ (.cons_cons _ (.cons_cons _ (.cons_cons _ .slnil))))))) (fun hg104 => (q_eql rfl (gu hg104 rfl) rfl)) ?_
          refine ht (i := 7) rfl (by kernel_rfl) rfl rfl rfl (fun w hw => hw.back (Gh.refl _) h0101 (.cons_cons _ (.cons_cons _ (.cons _ (.cons_cons _ (.cons_cons _ (.cons_cons _ .slnil))))))) (q_pick rfl rfl (pk_and' (g := (((z86.length : Nat) : Int) == 2)) (y := (((z76.length : Nat) : Int) == 1)))) ?_
          refine ht (i := 8) rfl (by kernel_rfl) rfl rfl rfl (fun w hw => hw.back (Gh.refl _) h0101 (.cons_cons _ (.cons_cons _ (.cons _ (.cons_cons _ (.cons_cons _ (.cons_cons _ .slnil))))))) (q_move (v := .bool ((((z86.length : Nat) : Int) == 2) && (((z76.length : Nat) : Int) == 1))) rfl (by kernel_rfl)) ?_
          refine hg1 (i := 9) rfl (by kernel_rfl) rfl rfl rfl rfl rfl (fun w hw => hw.back (Gh.refl _) h0101 (.cons_cons _ (.cons_cons _ (.cons _ (.cons_cons _ (.cons_cons _ (.cons_cons _ .slnil))))))) (fun hg105 => (q_move (v := .slice A82 z76.length c83) rfl (by kernel_rfl))) ?_
          obtain ⟨hk107, h⟩ := chk_some h
          refine hg1 (i := 10) rfl (by kernel_rfl) rfl rfl rfl rfl rfl (fun w hw => hw.back (Gh.refl _) h0101 (.cons_cons _ (.cons_cons _ (.cons _ (.cons_cons _ (.cons_cons _ (.cons_cons _ .slnil))))))) (fun hg106 => (q_ixn (i := 0) Try.underlying25 Try.sizeOf3 rfl (gu hg106 rfl) rfl (of_decide_eq_true (imp_of hk107 hg106)) ((hr85.mono (hl89.trans hl97)).some_ (of_decide_eq_true (imp_of hk107 hg106))))) ?_
          refine hg1 (i := 11) rfl (by kernel_rfl) rfl rfl rfl rfl rfl (fun w hw => hw.back (Gh.refl _) h0101 (.cons_cons _ (.cons_cons _ (.cons _ (.cons_cons _ (.cons_cons _ (.cons_cons _ .slnil))))))) (fun hg108 => (q_ldo (c := 0) (v := .int .i64 (gt z76 0)) (i := 1) rfl ((hr85.mono (hl89.trans hl97)).intT_at (of_decide_eq_true (imp_of hk107 hg108))).2 rfl Try.isAgg3 (gu hg108 rfl) rfl)) ?_
          refine hg1 (i := 12) rfl (by kernel_rfl) rfl rfl rfl rfl rfl (fun w hw => hw.back (Gh.refl _) h0101 (.cons_cons _ (.cons_cons _ (.cons _ (.cons_cons _ (.cons_cons _ (.cons_cons _ .slnil))))))) (fun hg109 => (q_move (v := .slice A92 z86.length c93) rfl (by kernel_rfl))) ?_
          obtain ⟨hk111, h⟩ := chk_some h
          refine hg1 (i := 13) rfl (by kernel_rfl) rfl rfl rfl rfl rfl (fun w hw => hw.back (Gh.refl _) h0101 (.cons_cons _ (.cons_cons _ (.cons _ (.cons_cons _ (.cons_cons _ (.cons_cons _ .slnil))))))) (fun hg110 => (q_ixn (i := 0) Try.underlying25 Try.sizeOf3 rfl (gu hg110 rfl) rfl (of_decide_eq_true (imp_of hk111 hg110)) (hs99.some_ (of_decide_eq_true (imp_of hk111 hg110))))) ?_
          refine hg1 (i := 14) rfl (by kernel_rfl) rfl rfl rfl rfl rfl (fun w hw => hw.back (Gh.refl _) h0101 (.cons_cons _ (.cons_cons _ (.cons _ (.cons_cons _ (.cons_cons _ (.cons_cons _ .slnil))))))) (fun hg112 => (q_ld (c := 0) (v := .int .i64 (gt z86 0)) (hs99.intT_at (of_decide_eq_true (imp_of hk111 hg112))).2 rfl Try.isAgg3 (gu hg112 rfl) rfl)) ?_
          refine hg1 (i := 15) rfl (by kernel_rfl) rfl rfl rfl rfl rfl (fun w hw => hw.back (Gh.refl _) h0101 (.cons_cons _ (.cons_cons _ (.cons _ (.cons_cons _ (.cons_cons _ (.cons_cons _ .slnil))))))) (fun hg113 => (q_eql rfl (gu hg113 rfl) (gu hg113 rfl))) ?_
          refine ht (i := 16) rfl (by kernel_rfl) rfl rfl rfl (fun w hw => hw.back (Gh.refl _) h0101 (.cons_cons _ (.cons_cons _ (.cons _ (.cons_cons _ (.cons_cons _ (.cons_cons _ .slnil))))))) (q_pick rfl rfl (pk_and' (g := ((((z86.length : Nat) : Int) == 2) && (((z76.length : Nat) : Int) == 1))) (y := ((gt z76 0) == (gt z86 0))))) ?_
          refine ht (i := 17) rfl (by kernel_rfl) rfl rfl rfl (fun w hw => hw.back (Gh.refl _) h0101 (.cons_cons _ (.cons_cons _ (.cons _ (.cons_cons _ (.cons_cons _ (.cons_cons _ .slnil))))))) (q_move (v := .bool (((((z86.length : Nat) : Int) == 2) && (((z76.length : Nat) : Int) == 1)) && ((gt z76 0) == (gt z86 0)))) rfl (by kernel_rfl)) ?_
          refine hg1 (i := 18) rfl (by kernel_rfl) rfl rfl rfl rfl rfl (fun w hw => hw.back (Gh.refl _) h0101 (.cons_cons _ (.cons_cons _ (.cons _ (.cons_cons _ (.cons_cons _ (.cons_cons _ .slnil))))))) (fun hg114 => (q_move (v := .pointer (some ⟨g7, 0, none⟩)) rfl (optp_some rfl hz16))) ?_
          refine (Bool.eq_false_or_eq_true (((((z86.length : Nat) : Int) == 2) && (((z76.length : Nat) : Int) == 1)) && ((gt z76 0) == (gt z86 0)))).elim (fun hb115 => ?_) (fun hb115 => ?_)
          · skip
            have h := bt hb115 h
            refine WH.lone (i := 19) (by kernel_rfl) rfl ?_
            refine WR.sat (c0 := true) (g := (((((z86.length : Nat) : Int) == 2) && (((z76.length : Nat) : Int) == 1)) && ((gt z76 0) == (gt z86 0)))) rfl rfl rfl hb115 ?_
            obtain ⟨z116, hz117, h⟩ := bnd h
            refine e_call (is := [2]) rfl rfl (call_run Try.call17 rfl rfl (args2 (gu hb115 rfl) rfl)) rfl (fun w hp => t_HashC (hr66.mono (((hl72.trans hl79).trans hl89).trans hl97)) (Sl.nil intT _ none) (Nat.zero_le 0) (fun p hp => nomatch hp) hp hz117) ?_
            rintro Γ118 U120 v121 hl119 ⟨row122, rfl, rfl, hr123, hr124, _⟩
            change WR _ _ _ (CC F Γ118 [row122, [], row84, [], [], row39]) _ _ (upd _ 56 (.int .u64 z116.2))
            refine WR.nil ?_
            refine WH.next (fun w hw => hw.back hl119 h0101 (.cons _ (.cons_cons _ (.cons_cons _ (.cons_cons _ (.cons_cons _ (.cons_cons _ .slnil))))))) ?_
            refine hg1 (i := 20) rfl (by kernel_rfl) rfl rfl rfl rfl rfl (fun w hw => hw.back hl119 h0101 (.cons _ (.cons_cons _ (.cons_cons _ (.cons_cons _ (.cons_cons _ (.cons_cons _ .slnil))))))) (fun hg125 => (q_neq rfl rfl rfl)) ?_
            refine ht (i := 21) rfl (by kernel_rfl) rfl rfl rfl (fun w hw => hw.back hl119 h0101 (.cons _ (.cons_cons _ (.cons_cons _ (.cons_cons _ (.cons_cons _ (.cons_cons _ .slnil))))))) (q_pick_t (v := .bool (z116.2 != 0)) rfl rfl hb115 (gu hb115 rfl)) ?_
            refine ht (i := 22) rfl (by kernel_rfl) rfl rfl rfl (fun w hw => hw.back hl119 h0101 (.cons _ (.cons_cons _ (.cons_cons _ (.cons_cons _ (.cons_cons _ (.cons_cons _ .slnil))))))) (q_move (v := .bool (z116.2 != 0)) rfl (by kernel_rfl)) ?_
            refine hg1 (i := 23) rfl (by kernel_rfl) rfl rfl rfl rfl rfl (fun w hw => hw.back hl119 h0101 (.cons _ (.cons_cons _ (.cons_cons _ (.cons_cons _ (.cons_cons _ (.cons_cons _ .slnil))))))) (fun hg126 => (q_move (v := .pointer (some ⟨g7, 0, none⟩)) rfl (optp_some rfl hz16))) ?_
            refine hg1 (i := 24) rfl (by kernel_rfl) rfl rfl rfl rfl rfl (fun w hw => hw.back hl119 h0101 (.cons _ (.cons_cons _ (.cons_cons _ (.cons_cons _ (.cons_cons _ (.cons_cons _ .slnil))))))) (fun hg127 => (q_move (v := .slice A92 z86.length c93) rfl (by kernel_rfl))) ?_
            refine (Bool.eq_false_or_eq_true (z116.2 != 0)).elim (fun hb128 => ?_) (fun hb128 => ?_)
            · skip
              have h := bt hb128 h
              refine WH.lone (i := 25) (by kernel_rfl) rfl ?_
              refine WR.sat (c0 := true) (g := (z116.2 != 0)) rfl rfl rfl hb128 ?_
              obtain ⟨z129, hz130, h⟩ := bnd h
              refine e_call (is := [0]) rfl rfl (call_run Try.call19 rfl rfl (args2 (gu hb128 rfl) (gu hb128 rfl))) rfl (fun w hp => t_tree_Tree_Recs hr123 (hs99.mono hl119) hc100 hp hz130) ?_
              rintro Γ131 U133 v134 hl132 ⟨A135, c136, row137, rfl, rfl, hr138, _⟩
              change WR _ _ _ (CC F Γ131 [row122, row137, [], row84, [], [], row39]) _ _ (upd _ 62 (.slice A135 z129.length c136))
              refine WR.nil ?_
              refine WH.next (fun w hw => hw.back (hl119.trans hl132) h0101 (.cons _ (.cons _ (.cons_cons _ (.cons_cons _ (.cons_cons _ (.cons_cons _ (.cons_cons _ .slnil)))))))) ?_
              refine WH.lone (i := 26) (by kernel_rfl) rfl ?_
              refine vg1 rfl rfl rfl rfl rfl (fun hg140 => QV.qo (q_len_slice rfl Try.underlying29 rfl)) ?_
              refine WR.nil ?_
              refine WH.next (fun w hw => hw.back (hl119.trans hl132) h0101 (.cons _ (.cons _ (.cons_cons _ (.cons_cons _ (.cons_cons _ (.cons_cons _ (.cons_cons _ .slnil)))))))) ?_
              refine hg1 (i := 27) rfl (by kernel_rfl) rfl rfl rfl rfl rfl (fun w hw => hw.back (hl119.trans hl132) h0101 (.cons _ (.cons _ (.cons_cons _ (.cons_cons _ (.cons_cons _ (.cons_cons _ (.cons_cons _ .slnil)))))))) (fun hg141 => (q_eql rfl (gu hg141 rfl) rfl)) ?_
              refine ht (i := 28) rfl (by kernel_rfl) rfl rfl rfl (fun w hw => hw.back (hl119.trans hl132) h0101 (.cons _ (.cons _ (.cons_cons _ (.cons_cons _ (.cons_cons _ (.cons_cons _ (.cons_cons _ .slnil)))))))) (q_pick_t (v := .bool (((z129.length : Nat) : Int) == 1)) rfl rfl hb128 (gu hb128 rfl)) ?_
              refine ht (i := 29) rfl (by kernel_rfl) rfl rfl rfl (fun w hw => hw.back (hl119.trans hl132) h0101 (.cons _ (.cons _ (.cons_cons _ (.cons_cons _ (.cons_cons _ (.cons_cons _ (.cons_cons _ .slnil)))))))) (q_assign (v := .bool (((z129.length : Nat) : Int) == 1)) rfl (by kernel_rfl)) ?_
              refine WH.done (by kernel_rfl) ?_
              change WC _ _ _ _ _ _
              refine WC.ret ?_
              intro w hw
              obtain rfl := Option.some.inj h
              subst hF
              exact ⟨by kernel_rfl, hw.fr⟩
            · skip
              have h := bf hb128 h
              refine hg1 (g := (z116.2 != 0)) (i := 25) (v := undef) rfl (by kernel_rfl) rfl rfl rfl rfl rfl (fun w hw => hw.back hl119 h0101 (.cons _ (.cons_cons _ (.cons_cons _ (.cons_cons _ (.cons_cons _ (.cons_cons _ .slnil))))))) (no_tf hb128) ?_
              refine WH.env (v := undef) (gv_false hb128) ?_
              refine hg1 (g := (z116.2 != 0)) (i := 26) (v := undef) rfl (by kernel_rfl) rfl rfl rfl rfl rfl (fun w hw => hw.back hl119 h0101 (.cons _ (.cons_cons _ (.cons_cons _ (.cons_cons _ (.cons_cons _ (.cons_cons _ .slnil))))))) (no_tf hb128) ?_
              refine WH.env (v := undef) (gv_false hb128) ?_
              refine hg1 (g := (z116.2 != 0)) (i := 27) (v := undef) rfl (by kernel_rfl) rfl rfl rfl rfl rfl (fun w hw => hw.back hl119 h0101 (.cons _ (.cons_cons _ (.cons_cons _ (.cons_cons _ (.cons_cons _ (.cons_cons _ .slnil))))))) (no_tf hb128) ?_
              refine WH.env (v := undef) (gv_false hb128) ?_
              refine ht (i := 28) rfl (by kernel_rfl) rfl rfl rfl (fun w hw => hw.back hl119 h0101 (.cons _ (.cons_cons _ (.cons_cons _ (.cons_cons _ (.cons_cons _ (.cons_cons _ .slnil))))))) (q_pick_f (v := .bool false) rfl rfl hb128 (by kernel_rfl)) ?_
              refine ht (i := 29) rfl (by kernel_rfl) rfl rfl rfl (fun w hw => hw.back hl119 h0101 (.cons _ (.cons_cons _ (.cons_cons _ (.cons_cons _ (.cons_cons _ (.cons_cons _ .slnil))))))) (q_assign (v := .bool false) rfl (by kernel_rfl)) ?_
              refine WH.done (by kernel_rfl) ?_
              change WC _ _ _ _ _ _
              refine WC.ret ?_
              intro w hw
              obtain rfl := Option.some.inj h
              subst hF
              exact ⟨by kernel_rfl, hw.fr⟩
          · skip
            have h := bf hb115 h
            refine hg1 (g := (((((z86.length : Nat) : Int) == 2) && (((z76.length : Nat) : Int) == 1)) && ((gt z76 0) == (gt z86 0)))) (i := 19) (v := undef) rfl (by kernel_rfl) rfl rfl rfl rfl rfl (fun w hw => hw.back (Gh.refl _) h0101 (.cons_cons _ (.cons_cons _ (.cons _ (.cons_cons _ (.cons_cons _ (.cons_cons _ .slnil))))))) (no_tf hb115) ?_
            refine WH.env (v := undef) (gv_false hb115) ?_
            refine hg1 (g := (((((z86.length : Nat) : Int) == 2) && (((z76.length : Nat) : Int) == 1)) && ((gt z76 0) == (gt z86 0)))) (i := 20) (v := undef) rfl (by kernel_rfl) rfl rfl rfl rfl rfl (fun w hw => hw.back (Gh.refl _) h0101 (.cons_cons _ (.cons_cons _ (.cons _ (.cons_cons _ (.cons_cons _ (.cons_cons _ .slnil))))))) (no_tf hb115) ?_
            refine WH.env (v := undef) (gv_false hb115) ?_
            refine ht (i := 21) rfl (by kernel_rfl) rfl rfl rfl (fun w hw => hw.back (Gh.refl _) h0101 (.cons_cons _ (.cons_cons _ (.cons _ (.cons_cons _ (.cons_cons _ (.cons_cons _ .slnil))))))) (q_pick_f (v := .bool false) rfl rfl hb115 (by kernel_rfl)) ?_
            refine ht (i := 22) rfl (by kernel_rfl) rfl rfl rfl (fun w hw => hw.back (Gh.refl _) h0101 (.cons_cons _ (.cons_cons _ (.cons _ (.cons_cons _ (.cons_cons _ (.cons_cons _ .slnil))))))) (q_move (v := .bool false) rfl (by kernel_rfl)) ?_
            refine hg1 (g := false) (i := 23) (v := undef) rfl (by kernel_rfl) rfl rfl rfl rfl rfl (fun w hw => hw.back (Gh.refl _) h0101 (.cons_cons _ (.cons_cons _ (.cons _ (.cons_cons _ (.cons_cons _ (.cons_cons _ .slnil))))))) (no_tf rfl) ?_
            refine WH.env (v := undef) (gv_false rfl) ?_
            refine hg1 (g := false) (i := 24) (v := undef) rfl (by kernel_rfl) rfl rfl rfl rfl rfl (fun w hw => hw.back (Gh.refl _) h0101 (.cons_cons _ (.cons_cons _ (.cons _ (.cons_cons _ (.cons_cons _ (.cons_cons _ .slnil))))))) (no_tf rfl) ?_
            refine WH.env (v := undef) (gv_false rfl) ?_
            refine hg1 (g := false) (i := 25) (v := undef) rfl (by kernel_rfl) rfl rfl rfl rfl rfl (fun w hw => hw.back (Gh.refl _) h0101 (.cons_cons _ (.cons_cons _ (.cons _ (.cons_cons _ (.cons_cons _ (.cons_cons _ .slnil))))))) (no_tf rfl) ?_
            refine WH.env (v := undef) (gv_false rfl) ?_
            refine hg1 (g := false) (i := 26) (v := undef) rfl (by kernel_rfl) rfl rfl rfl rfl rfl (fun w hw => hw.back (Gh.refl _) h0101 (.cons_cons _ (.cons_cons _ (.cons _ (.cons_cons _ (.cons_cons _ (.cons_cons _ .slnil))))))) (no_tf rfl) ?_
            refine WH.env (v := undef) (gv_false rfl) ?_
            refine hg1 (g := false) (i := 27) (v := undef) rfl (by kernel_rfl) rfl rfl rfl rfl rfl (fun w hw => hw.back (Gh.refl _) h0101 (.cons_cons _ (.cons_cons _ (.cons _ (.cons_cons _ (.cons_cons _ (.cons_cons _ .slnil))))))) (no_tf rfl) ?_
            refine WH.env (v := undef) (gv_false rfl) ?_
            refine ht (i := 28) rfl (by kernel_rfl) rfl rfl rfl (fun w hw => hw.back (Gh.refl _) h0101 (.cons_cons _ (.cons_cons _ (.cons _ (.cons_cons _ (.cons_cons _ (.cons_cons _ .slnil))))))) (q_pickf (v := .bool false) rfl rfl rfl) ?_
            refine ht (i := 29) rfl (by kernel_rfl) rfl rfl rfl (fun w hw => hw.back (Gh.refl _) h0101 (.cons_cons _ (.cons_cons _ (.cons _ (.cons_cons _ (.cons_cons _ (.cons_cons _ .slnil))))))) (q_assign (v := .bool false) rfl (by kernel_rfl)) ?_
            refine WH.done (by kernel_rfl) ?_
            change WC _ _ _ _ _ _
            refine WC.ret ?_
            intro w hw
            obtain rfl := Option.some.inj h
            subst hF
            exact ⟨by kernel_rfl, hw.fr⟩
    · skip
      have h := bf hb28 h
      refine WR.unsat (c0 := true) (g := (z18.2 != 0)) rfl rfl rfl hb28 rfl ?_
      refine WR.unsat (c0 := true) (g := (z18.2 != 0)) rfl rfl rfl hb28 rfl ?_
      refine WR.unsat (c0 := true) (g := (z18.2 != 0)) rfl rfl rfl hb28 rfl ?_
      refine va rfl rfl rfl (q_pick_t (v := .bool true) rfl rfl (not_f hb28) (by kernel_rfl)) ?_
      refine WR.nil ?_
      change WC _ _ _ _ _ _
      refine WC.ctk (b := true) (by kernel_rfl) rfl ?_
      refine WC.rs ?_
      refine va rfl rfl rfl (q_assign (v := .bool false) rfl (by kernel_rfl)) ?_
      refine WR.nil ?_
      change WC _ _ _ _ _ _
      refine WC.ret ?_
      intro w hw
      obtain rfl := Option.some.inj h
      subst hF
      exact ⟨by kernel_rfl, hw.fr⟩
  · skip
    have h := bf hb14 h
    refine WR.unsat (c0 := true) (g := ((Option.isNone z1.1) || (z1.2 != 0))) rfl rfl rfl hb14 rfl ?_
    refine WR.unsat (c0 := true) (g := ((Option.isNone z1.1) || (z1.2 != 0))) rfl rfl rfl hb14 rfl ?_
    refine va rfl rfl rfl (q_pick_t (v := .bool true) rfl rfl (not_f hb14) (by kernel_rfl)) ?_
    refine va rfl rfl rfl (q_move (v := .bool true) rfl (by kernel_rfl)) ?_
    refine WR.unsat (c0 := true) (g := true) rfl rfl rfl (nott rfl) rfl ?_
    refine WR.unsat (c0 := true) (g := true) rfl rfl rfl (nott rfl) rfl ?_
    refine WR.unsat (c0 := true) (g := true) rfl rfl rfl (nott rfl) rfl ?_
    refine WR.unsat (c0 := true) (g := true) rfl rfl rfl (nott rfl) rfl ?_
    refine va rfl rfl rfl (q_pickt (v := .bool true) rfl rfl rfl) ?_
    refine WR.nil ?_
    change WC _ _ _ _ _ _
    refine WC.ctk (b := true) (by kernel_rfl) rfl ?_
    refine WC.rs ?_
    refine va rfl rfl rfl (q_assign (v := .bool false) rfl (by kernel_rfl)) ?_
    refine WR.nil ?_
    change WC _ _ _ _ _ _
    refine WC.ret ?_
    intro w hw
    obtain rfl := Option.some.inj h
    subst hF
    exact ⟨by kernel_rfl, hw.fr⟩
set_option maxRecDepth 100000 in
set_option maxHeartbeats 400000 in
theorem t_firthref01_Hash {Γ : Gh} {w0 : World} {Ab : Option Addr} {cb : Nat} {b : List UInt8} (hb : Sl byteT Γ Ab b) (hbc : b.length ≤ cb) (hs : Sat Γ w0) {r : Int} (h : m_firthref01_Hash b = some r) : Calls Try.prog 24 #[.slice Ab b.length cb] w0 (fun e w' => e = .returned (.int .u64 r) ∧ Fr no w0 w') := by
  refine calls_of (N := 30) (rs := [2]) (args := [.slice Ab b.length cb]) Try.func24 rfl Try.ntmps24 Try.results24 rfl ?_
  obtain ⟨F, hF⟩ : ∃ F : Fm, F = ⟨no, w0, Γ⟩ := ⟨_, rfl⟩
  refine WC.here (C := CC F Γ []) ?_ (hF ▸ Cur.start0 hs)
  refine WC.rs ?_
  refine va rfl rfl rfl (q_assign (v := .int .u64 0) rfl (by kernel_rfl)) ?_
  refine WR.nil ?_
  change WC _ _ _ _ _ _
  refine WC.rs ?_
  refine va rfl rfl rfl (q_assign (v := .int .u64 14695981039346656037) rfl (by kernel_rfl)) ?_
  refine WR.nil ?_
  change WC _ _ _ _ _ _
  refine WC.seq ?_
  refine WC.rs ?_
  refine va rfl rfl rfl (q_assign (v := .int .i64 0) rfl (by kernel_rfl)) ?_
  refine WR.nil ?_
  change WC _ _ _ _ _ _
  refine WC.block ?_
  refine WC.forI h (fun (i4 : Nat) (h_1 : Int) σ w => slots σ [(0, .slice Ab b.length cb), (3, .int .u64 h_1), (4, .int .i64 ((i4 : Nat) : Int))] ∧ CC F Γ [] w ∧ U64 h_1 ∧ True) ?_ ?_
  · skip
    intro w hw
    exact ⟨(sl_ (by kernel_rfl)), hw, (show U64 14695981039346656037 by decide), trivial⟩
  rintro f3 i4 h_1 σ w hi5 hlt6 hge7 ⟨hsl, hw, hr2, -⟩
  refine Wpt.slots hsl ?_
  refine WC.here (C := CC F Γ []) ?_ hw
  clear hw hsl
  refine WC.seq ?_
  refine WC.rs ?_
  refine va rfl rfl rfl (q_move (v := .int .i64 ((i4 : Nat) : Int)) rfl (by kernel_rfl)) ?_
  refine va rfl rfl rfl (q_move (v := .slice Ab b.length cb) rfl (by kernel_rfl)) ?_
  refine va rfl rfl rfl (q_len_slice rfl Try.underlying56 rfl) ?_
  refine va rfl rfl rfl (q_lss rfl rfl rfl) ?_
  refine WR.nil ?_
  change WC _ _ _ _ _ _
  refine WC.cond (b := (decide (((i4 : Nat) : Int) < ((b.length : Nat) : Int)))) (by kernel_rfl) (fun hb8 => ?_) (fun hb8 => ?_)
  · skip
    have hl9 := ilt hb8
    have h := hlt6 hl9
    refine WC.skip ?_
    change WC _ _ _ _ _ _
    refine WC.seq ?_
    refine WC.block ?_
    refine WC.rs ?_
    refine va rfl rfl rfl (q_move (v := .int .u64 h_1) rfl (by kernel_rfl)) ?_
    refine va rfl rfl rfl (q_move (v := .slice Ab b.length cb) rfl (by kernel_rfl)) ?_
    refine va rfl rfl rfl (q_move (v := .int .i64 ((i4 : Nat) : Int)) rfl (by kernel_rfl)) ?_
    refine va rfl rfl rfl (q_ixn (i := i4) Try.underlying56 Try.sizeOf5 rfl rfl rfl hl9 (hb.some_ hl9)) ?_
    refine va rfl rfl rfl (q_ld (c := 0) (v := .int .u8 (((gt b i4).toNat : Nat) : Int)) (hb.byteT_at hl9).2 rfl Try.isAgg5 rfl rfl) ?_
    refine va rfl rfl rfl (q_conv Try.underlying40 Try.underlying5 rfl rfl) ?_
    refine va rfl rfl rfl (q_xor rfl rfl rfl) ?_
    refine va rfl rfl rfl (q_assign (v := .int .u64 (ixor .u64 h_1 (wu64 (((gt b i4).toNat : Nat) : Int)))) rfl (by kernel_rfl)) ?_
    refine WR.nil ?_
    change WC _ _ _ _ _ _
    refine WC.region ?_
    refine va rfl rfl rfl (q_move (v := .int .u64 (ixor .u64 h_1 (wu64 (((gt b i4).toNat : Nat) : Int)))) rfl (by kernel_rfl)) ?_
    refine va rfl rfl rfl (q_mul rfl rfl rfl) ?_
    refine va rfl rfl rfl (q_assign (v := .int .u64 (wu64 ((ixor .u64 h_1 (wu64 (((gt b i4).toNat : Nat) : Int))) * 1099511628211))) rfl (by kernel_rfl)) ?_
    refine WR.nil ?_
    change WC _ _ _ _ _ _
    refine WC.region ?_
    refine va rfl rfl rfl (q_move (v := .int .i64 ((i4 : Nat) : Int)) rfl (by kernel_rfl)) ?_
    refine va rfl rfl rfl (q_add_r (r := ((i4 + 1 : Nat) : Int)) rfl rfl rfl (ctr_len hl9 hb.le)) ?_
    refine va rfl rfl rfl (q_assign (v := .int .i64 ((i4 + 1 : Nat) : Int)) rfl (by kernel_rfl)) ?_
    refine WR.nil ?_
    intro w hw
    exact ⟨hl9, (wu64 ((ixor .u64 h_1 (wu64 (((gt b i4).toNat : Nat) : Int))) * 1099511628211)), h, (sl_ (by kernel_rfl)), hw, (wu64_r _), trivial⟩
  · skip
    have h := hge7 (ige hb8)
    refine WC.exit ?_
    change WC _ _ _ _ _ _
    refine WC.rs ?_
    refine va rfl rfl rfl (q_move (v := .int .u64 h_1) rfl (by kernel_rfl)) ?_
    refine va rfl rfl rfl (q_move (v := .int .u64 h_1) rfl (by kernel_rfl)) ?_
    refine va rfl rfl rfl (q_quo rfl rfl rfl (by decide)) ?_
    refine va rfl rfl rfl (q_xor rfl rfl rfl) ?_
    refine va rfl rfl rfl (q_assign (v := .int .u64 (ixor .u64 h_1 (wu64 (h_1.tdiv 8589934592)))) rfl (by kernel_rfl)) ?_
    refine WR.nil ?_
    change WC _ _ _ _ _ _
    refine WC.rs ?_
    refine va rfl rfl rfl (q_move (v := .int .u64 (ixor .u64 h_1 (wu64 (h_1.tdiv 8589934592)))) rfl (by kernel_rfl)) ?_
    refine va rfl rfl rfl (q_mul rfl rfl rfl) ?_
    refine va rfl rfl rfl (q_assign (v := .int .u64 (wu64 ((ixor .u64 h_1 (wu64 (h_1.tdiv 8589934592))) * 18397679294719823053))) rfl (by kernel_rfl)) ?_
    refine WR.nil ?_
    change WC _ _ _ _ _ _
    refine WC.rs ?_
    refine va rfl rfl rfl (q_move (v := .int .u64 (wu64 ((ixor .u64 h_1 (wu64 (h_1.tdiv 8589934592))) * 18397679294719823053))) rfl (by kernel_rfl)) ?_
    refine va rfl rfl rfl (q_move (v := .int .u64 (wu64 ((ixor .u64 h_1 (wu64 (h_1.tdiv 8589934592))) * 18397679294719823053))) rfl (by kernel_rfl)) ?_
    refine va rfl rfl rfl (q_quo rfl rfl rfl (by decide)) ?_
    refine va rfl rfl rfl (q_xor rfl rfl rfl) ?_
    refine va rfl rfl rfl (q_assign (v := .int .u64 (ixor .u64 (wu64 ((ixor .u64 h_1 (wu64 (h_1.tdiv 8589934592))) * 18397679294719823053)) (wu64 ((wu64 ((ixor .u64 h_1 (wu64 (h_1.tdiv 8589934592))) * 18397679294719823053)).tdiv 8589934592)))) rfl (by kernel_rfl)) ?_
    refine WR.nil ?_
    change WC _ _ _ _ _ _
    refine WC.ret ?_
    intro w hw
    obtain rfl := Option.some.inj h
    subst hF
    exact ⟨by kernel_rfl, hw.fr⟩
abbrev r_firthref11_Place (r : List Int) (U : List Rowb) (Γ : Gh) (v : Value) : Prop := ∃ (A0 : Option Addr), ∃ (c0 : Nat), ∃ (row0 : Rowb), v = .slice A0 r.length c0 ∧ U = [row0] ∧ Own intT Γ 3 row0 A0 c0 r ∧ True
set_option maxRecDepth 100000 in
set_option maxHeartbeats 400000 in
theorem t_firthref11_Place {Γ : Gh} {w0 : World} (key : ByteArray) (hkey : key.size ≤ lim) (hp : Pre [] Γ w0) {r : List Int} (h : m_firthref11_Place key = some r) : Calls Try.prog 11 #[.string key] w0 (Outc Γ [] w0 (r_firthref11_Place r)) := by
  refine calls_of (N := 15) (rs := [2]) (args := [.string key]) Try.func11 rfl Try.ntmps11 Try.results11 rfl ?_
  obtain ⟨F, hF⟩ : ∃ F : Fm, F = ⟨ids [], w0, Γ⟩ := ⟨_, rfl⟩
  refine WC.here (C := CC F Γ []) ?_ (hF ▸ hp.start)
  refine WC.rs ?_
  refine va rfl rfl rfl (q_assign (v := .slice none 0 0) rfl (by kernel_rfl)) ?_
  refine WR.nil ?_
  change WC _ _ _ _ _ _
  refine WC.rs ?_
  refine va rfl rfl rfl (q_move (v := .string key) rfl (by kernel_rfl)) ?_
  refine e_convB (src := 9) (dst := 56) (s := key) Try.underlying9 Try.underlying56 Try.underlying5 hkey rfl rfl rfl rfl rfl ?_
  intro Γ1 A2 c3 hl4 hs5 hc6
  obtain ⟨z7, hz8, h⟩ := bnd h
  refine vc rfl rfl rfl (q_call (call_run Try.call24 rfl rfl (by kernel_rfl)) (fun w hw => t_firthref01_Hash (Γ := Gh.all w) (hs5.mono hw.sat.le_all) hc6 (Sat.all w) hz8)) ?_
  refine va rfl rfl rfl (q_assign (v := .int .u64 z7) rfl (by kernel_rfl)) ?_
  refine WR.nil ?_
  change WC _ _ _ _ _ _
  refine WC.rs ?_
  refine va rfl rfl rfl (q_move (v := .int .u64 z7) rfl (by kernel_rfl)) ?_
  refine va rfl rfl rfl (q_quo rfl rfl rfl (by decide)) ?_
  refine va rfl rfl rfl (q_conv Try.underlying3 Try.underlying40 rfl rfl) ?_
  refine va rfl rfl rfl (q_move (v := .int .u64 z7) rfl (by kernel_rfl)) ?_
  refine va rfl rfl rfl (q_quo rfl rfl rfl (by decide)) ?_
  refine va rfl rfl rfl (q_rem rfl rfl rfl (by decide)) ?_
  refine va rfl rfl rfl (q_conv Try.underlying3 Try.underlying40 rfl rfl) ?_
  refine e_buildSlice (cs := #[.int .i64 (w64 (wu64 (z7.tdiv 1152921504606846976))), .int .i64 (w64 ((wu64 (z7.tdiv 72057594037927936)).tmod 16))]) (e := 3) rfl rfl rfl rfl (fun w => by kernel_rfl) ?_
  intro g9
  refine va rfl rfl rfl (q_assign (v := .slice (some ⟨g9, 0, none⟩) 2 2) rfl (by kernel_rfl)) ?_
  refine WR.nil ?_
  change WC _ _ _ _ _ _
  refine WC.ret ?_
  intro w hw
  have ho10 : Own intT Γ1 3 [(g9, .cells #[.int .i64 (w64 (wu64 (z7.tdiv 1152921504606846976))), .int .i64 (w64 ((wu64 (z7.tdiv 72057594037927936)).tmod 16))] 3 (0, 0))] (some ⟨g9, 0, none⟩) 2 [(w64 (wu64 (z7.tdiv 1152921504606846976))), (w64 ((wu64 (z7.tdiv 72057594037927936)).tmod 16))] := Own.of_blockL (T := intT) (ys := [(w64 (wu64 (z7.tdiv 1152921504606846976))), (w64 ((wu64 (z7.tdiv 72057594037927936)).tmod 16))]) [[.int .i64 (w64 (wu64 (z7.tdiv 1152921504606846976)))], [.int .i64 (w64 ((wu64 (z7.tdiv 72057594037927936)).tmod 16))]] rfl (show 2 ≤ lim by decide) (show Ty.rd intT Γ1 [.int .i64 (w64 (wu64 (z7.tdiv 1152921504606846976)))] (w64 (wu64 (z7.tdiv 1152921504606846976))) ∧ Ty.rd intT Γ1 [.int .i64 (w64 ((wu64 (z7.tdiv 72057594037927936)).tmod 16))] (w64 ((wu64 (z7.tdiv 72057594037927936)).tmod 16)) ∧ True from ⟨⟨rfl, (w64_r _)⟩, ⟨rfl, (w64_r _)⟩, trivial⟩)
  obtain rfl := Option.some.inj h
  subst hF
  exact end_e (is := [0]) (by kernel_rfl) hw rfl ⟨(some ⟨g9, 0, none⟩), 2, [(g9, .cells #[.int .i64 (w64 (wu64 (z7.tdiv 1152921504606846976))), .int .i64 (w64 ((wu64 (z7.tdiv 72057594037927936)).tmod 16))] 3 (0, 0))], rfl, rfl, ho10, trivial⟩
set_option maxRecDepth 100000 in
set_option maxHeartbeats 400000 in
theorem t_firthref06_Ints {Γ : Gh} {w0 : World} {Aa : Option Addr} {ca : Nat} {a : List Int} (ha : Sl intT Γ Aa a) (hac : a.length ≤ ca) {Ab : Option Addr} {cb : Nat} {b : List Int} (hb : Sl intT Γ Ab b) (hbc : b.length ≤ cb) (hs : Sat Γ w0) {r : Bool} (h : m_firthref06_Ints a b = some r) : Calls Try.prog 9 #[.slice Aa a.length ca, .slice Ab b.length cb] w0 (fun e w' => e = .returned (.bool r) ∧ Fr no w0 w') := by
  refine calls_of (N := 26) (rs := [4]) (args := [.slice Aa a.length ca, .slice Ab b.length cb]) Try.func9 rfl Try.ntmps9 Try.results9 rfl ?_
  obtain ⟨F, hF⟩ : ∃ F : Fm, F = ⟨no, w0, Γ⟩ := ⟨_, rfl⟩
  refine WC.here (C := CC F Γ []) ?_ (hF ▸ Cur.start0 hs)
  refine WC.rs ?_
  refine va rfl rfl rfl (q_assign (v := .bool false) rfl (by kernel_rfl)) ?_
  refine WR.nil ?_
  change WC _ _ _ _ _ _
  refine WC.seq ?_
  refine WC.rs ?_
  refine va rfl rfl rfl (q_move (v := .slice Aa a.length ca) rfl (by kernel_rfl)) ?_
  refine va rfl rfl rfl (q_len_slice rfl Try.underlying25 rfl) ?_
  refine va rfl rfl rfl (q_move (v := .slice Ab b.length cb) rfl (by kernel_rfl)) ?_
  refine va rfl rfl rfl (q_len_slice rfl Try.underlying25 rfl) ?_
  refine va rfl rfl rfl (q_neq rfl rfl rfl) ?_
  refine WR.nil ?_
  change WC _ _ _ _ _ _
  refine WC.cif h (by kernel_rfl) (fun hb1 h => ?_) (fun hb1 h => ?_)
  · skip
    refine WC.rs ?_
    refine va rfl rfl rfl (q_assign (v := .bool false) rfl (by kernel_rfl)) ?_
    refine WR.nil ?_
    change WC _ _ _ _ _ _
    refine WC.ret ?_
    intro w hw
    obtain rfl := Option.some.inj h
    subst hF
    exact ⟨by kernel_rfl, hw.fr⟩
  · skip
    refine WC.skip ?_
    change WC _ _ _ _ _ _
    refine WC.seq ?_
    refine WC.rs ?_
    refine va rfl rfl rfl (q_assign (v := .int .i64 0) rfl (by kernel_rfl)) ?_
    refine WR.nil ?_
    change WC _ _ _ _ _ _
    refine WC.block ?_
    refine WC.forI h (fun (i3 : Nat) (s : Unit) σ w => match s with | () => slots σ [(0, .slice Aa a.length ca), (1, .slice Ab b.length cb), (5, .int .i64 ((i3 : Nat) : Int))] ∧ CC F Γ [] w ∧ True) ?_ ?_
    · skip
      intro w hw
      exact ⟨(sl_ (by kernel_rfl)), hw, trivial⟩
    rintro f2 i3 ⟨⟩ σ w hi4 hlt5 hge6 ⟨hsl, hw, -⟩
    refine Wpt.slots hsl ?_
    refine WC.here (C := CC F Γ []) ?_ hw
    clear hw hsl
    refine WC.seq ?_
    refine WC.rs ?_
    refine va rfl rfl rfl (q_move (v := .int .i64 ((i3 : Nat) : Int)) rfl (by kernel_rfl)) ?_
    refine va rfl rfl rfl (q_move (v := .slice Aa a.length ca) rfl (by kernel_rfl)) ?_
    refine va rfl rfl rfl (q_len_slice rfl Try.underlying25 rfl) ?_
    refine va rfl rfl rfl (q_lss rfl rfl rfl) ?_
    refine WR.nil ?_
    change WC _ _ _ _ _ _
    refine WC.cond (b := (decide (((i3 : Nat) : Int) < ((a.length : Nat) : Int)))) (by kernel_rfl) (fun hb7 => ?_) (fun hb7 => ?_)
    · skip
      have hl8 := ilt hb7
      have h := hlt5 hl8
      refine WC.skip ?_
      change WC _ _ _ _ _ _
      refine WC.seq ?_
      refine WC.block ?_
      refine WC.seq ?_
      refine WC.dr (by kernel_rfl) (by kernel_rfl) (fun w hw => hw.drawn _) ?_
      refine wa rfl rfl rfl (q_move (v := .slice Aa a.length ca) rfl (by kernel_rfl)) ?_
      refine wa rfl rfl rfl (q_move (v := .int .i64 ((i3 : Nat) : Int)) rfl (by kernel_rfl)) ?_
      refine wa rfl rfl rfl (q_ixn (i := i3) Try.underlying25 Try.sizeOf3 rfl rfl rfl hl8 (ha.some_ hl8)) ?_
      refine wa rfl rfl rfl (q_ld (c := 0) (v := .int .i64 (gt a i3)) (ha.intT_at hl8).2 rfl Try.isAgg3 rfl rfl) ?_
      refine wa rfl rfl rfl (q_move (v := .slice Ab b.length cb) rfl (by kernel_rfl)) ?_
      refine wa rfl rfl rfl (q_move (v := .int .i64 ((i3 : Nat) : Int)) rfl (by kernel_rfl)) ?_
      obtain ⟨hk9, h⟩ := chk_some h
      refine wa rfl rfl rfl (q_ixn (i := i3) Try.underlying25 Try.sizeOf3 rfl rfl rfl (of_decide_eq_true hk9) (hb.some_ (of_decide_eq_true hk9))) ?_
      refine wa rfl rfl rfl (q_ld (c := 0) (v := .int .i64 (gt b i3)) (hb.intT_at (of_decide_eq_true hk9)).2 rfl Try.isAgg3 rfl rfl) ?_
      refine wa rfl rfl rfl (q_neq rfl rfl rfl) ?_
      refine WQ.nil ?_
      change WC _ _ _ _ _ _
      refine WC.cif h (by kernel_rfl) (fun hb10 h => ?_) (fun hb10 h => ?_)
      · skip
        refine WC.rs ?_
        refine va rfl rfl rfl (q_assign (v := .bool false) rfl (by kernel_rfl)) ?_
        refine WR.nil ?_
        change WC _ _ _ _ _ _
        refine WC.ret ?_
        intro w hw
        obtain rfl := Option.some.inj h
        subst hF
        exact ⟨by kernel_rfl, hw.fr⟩
      · skip
        refine WC.skip ?_
        change WC _ _ _ _ _ _
        refine WC.region ?_
        refine va rfl rfl rfl (q_move (v := .int .i64 ((i3 : Nat) : Int)) rfl (by kernel_rfl)) ?_
        refine va rfl rfl rfl (q_add_r (r := ((i3 + 1 : Nat) : Int)) rfl rfl rfl (ctr_len hl8 ha.le)) ?_
        refine va rfl rfl rfl (q_assign (v := .int .i64 ((i3 + 1 : Nat) : Int)) rfl (by kernel_rfl)) ?_
        refine WR.nil ?_
        intro w hw
        exact ⟨hl8, (), h, (sl_ (by kernel_rfl)), hw, trivial⟩
    · skip
      have h := hge6 (ige hb7)
      refine WC.exit ?_
      change WC _ _ _ _ _ _
      refine WC.rs ?_
      refine va rfl rfl rfl (q_assign (v := .bool true) rfl (by kernel_rfl)) ?_
      refine WR.nil ?_
      change WC _ _ _ _ _ _
      refine WC.ret ?_
      intro w hw
      obtain rfl := Option.some.inj h
      subst hF
      exact ⟨by kernel_rfl, hw.fr⟩
set_option maxRecDepth 100000 in
set_option maxHeartbeats 400000 in
theorem t_firthref11_at {Γ : Gh} {w0 : World} {Al : Option Addr} {cl : Nat} {l : List Int} (hl : Sl u64T Γ Al l) (hlc : l.length ≤ cl) (i_ : Int) (hi_ : I64 i_) (hs : Sat Γ w0) {r : Int} (h : m_firthref11_at l i_ = some r) : Calls Try.prog 25 #[.slice Al l.length cl, .int .i64 i_] w0 (fun e w' => e = .returned (.int .u64 r) ∧ Fr no w0 w') := by
  refine calls_of (N := 13) (rs := [4]) (args := [.slice Al l.length cl, .int .i64 i_]) Try.func25 rfl Try.ntmps25 Try.results25 rfl ?_
  obtain ⟨F, hF⟩ : ∃ F : Fm, F = ⟨no, w0, Γ⟩ := ⟨_, rfl⟩
  refine WC.here (C := CC F Γ []) ?_ (hF ▸ Cur.start0 hs)
  refine WC.rs ?_
  refine va rfl rfl rfl (q_assign (v := .int .u64 0) rfl (by kernel_rfl)) ?_
  refine WR.nil ?_
  change WC _ _ _ _ _ _
  refine WC.seq ?_
  refine WC.rs ?_
  refine va rfl rfl rfl (q_move (v := .int .i64 i_) rfl (by kernel_rfl)) ?_
  refine va rfl rfl rfl (q_move (v := .slice Al l.length cl) rfl (by kernel_rfl)) ?_
  refine va rfl rfl rfl (q_len_slice rfl Try.underlying22 rfl) ?_
  refine va rfl rfl rfl (q_lss rfl rfl rfl) ?_
  refine WR.nil ?_
  change WC _ _ _ _ _ _
  refine WC.cif h (by kernel_rfl) (fun hb1 h => ?_) (fun hb1 h => ?_)
  · skip
    refine WC.rs ?_
    refine va rfl rfl rfl (q_move (v := .slice Al l.length cl) rfl (by kernel_rfl)) ?_
    refine va rfl rfl rfl (q_move (v := .int .i64 i_) rfl (by kernel_rfl)) ?_
    obtain ⟨hk2, h⟩ := chk_some h
    refine va rfl rfl rfl (q_ix Try.underlying22 Try.sizeOf40 rfl rfl rfl hk2 (hl.some_ (inb_lt hk2))) ?_
    refine va rfl rfl rfl (q_ld (c := 0) (v := .int .u64 (gt l i_.toNat)) (hl.u64T_at (inb_lt hk2)).2 rfl Try.isAgg40 rfl rfl) ?_
    refine va rfl rfl rfl (q_assign (v := .int .u64 (gt l i_.toNat)) rfl (by kernel_rfl)) ?_
    refine WR.nil ?_
    change WC _ _ _ _ _ _
    refine WC.ret ?_
    intro w hw
    obtain rfl := Option.some.inj h
    subst hF
    exact ⟨by kernel_rfl, hw.fr⟩
  · skip
    refine WC.skip ?_
    change WC _ _ _ _ _ _
    refine WC.rs ?_
    refine va rfl rfl rfl (q_assign (v := .int .u64 0) rfl (by kernel_rfl)) ?_
    refine WR.nil ?_
    change WC _ _ _ _ _ _
    refine WC.ret ?_
    intro w hw
    obtain rfl := Option.some.inj h
    subst hF
    exact ⟨by kernel_rfl, hw.fr⟩
abbrev r_firthref11_Differ (r : List Int) (U : List Rowb) (Γ : Gh) (v : Value) : Prop := ∃ (A0 : Option Addr), ∃ (c0 : Nat), ∃ (row0 : Rowb), v = .slice A0 r.length c0 ∧ U = [row0] ∧ Own intT Γ 3 row0 A0 c0 r ∧ True
set_option maxRecDepth 100000 in
set_option maxHeartbeats 400000 in
theorem t_firthref11_Differ {Γ : Gh} {w0 : World} {Aa : Option Addr} {ca : Nat} {a : List Int} (ha : Sl u64T Γ Aa a) (hac : a.length ≤ ca) {Ab : Option Addr} {cb : Nat} {b : List Int} (hb : Sl u64T Γ Ab b) (hbc : b.length ≤ cb) (hp : Pre [] Γ w0) {r : List Int} (h : m_firthref11_Differ a b = some r) : Calls Try.prog 13 #[.slice Aa a.length ca, .slice Ab b.length cb] w0 (Outc Γ [] w0 (r_firthref11_Differ r)) := by
  refine calls_of (N := 23) (rs := [4]) (args := [.slice Aa a.length ca, .slice Ab b.length cb]) Try.func13 rfl Try.ntmps13 Try.results13 rfl ?_
  obtain ⟨F, hF⟩ : ∃ F : Fm, F = ⟨ids [], w0, Γ⟩ := ⟨_, rfl⟩
  refine WC.here (C := CC F Γ []) ?_ (hF ▸ hp.start)
  refine WC.rs ?_
  refine va rfl rfl rfl (q_assign (v := .slice none 0 0) rfl (by kernel_rfl)) ?_
  refine WR.nil ?_
  change WC _ _ _ _ _ _
  refine WC.rs ?_
  refine va rfl rfl rfl (q_assign (v := .slice none 0 0) rfl (by kernel_rfl)) ?_
  refine WR.nil ?_
  change WC _ _ _ _ _ _
  refine WC.seq ?_
  refine WC.rs ?_
  refine va rfl rfl rfl (q_assign (v := .int .i64 0) rfl (by kernel_rfl)) ?_
  refine WR.nil ?_
  change WC _ _ _ _ _ _
  refine WC.block ?_
  refine WC.forU h (fun (i7 : Nat) (out_1 : List Int) σ w => ∃ (A2 : Option Addr), ∃ (c3 : Nat), ∃ (row4 : Rowb), slots σ [(0, .slice Aa a.length ca), (1, .slice Ab b.length cb), (5, .slice A2 out_1.length c3), (6, .int .i64 ((i7 : Nat) : Int))] ∧ CC F Γ [row4] w ∧ Own intT Γ 3 row4 A2 c3 out_1 ∧ True) ?_ ?_
  · skip
    intro w hw
    have hw := hw.pad
    exact ⟨none, 0, [], (sl_ (by kernel_rfl)), hw, (Own.nil intT _ 3), trivial⟩
  rintro f6 i7 out_1 σ w hi8 hlt9 hge10 ⟨A2, c3, row4, hsl, hw, ho5, -⟩
  refine Wpt.slots hsl ?_
  refine WC.here (C := CC F Γ [row4]) ?_ hw
  clear hw hsl
  refine WC.seq ?_
  refine WC.rs ?_
  refine va rfl rfl rfl (q_move (v := .int .i64 ((i7 : Nat) : Int)) rfl (by kernel_rfl)) ?_
  refine va rfl rfl rfl (q_lss rfl rfl rfl) ?_
  refine WR.nil ?_
  change WC _ _ _ _ _ _
  refine WC.cond (b := (decide (((i7 : Nat) : Int) < 16))) (by kernel_rfl) (fun hb11 => ?_) (fun hb11 => ?_)
  · skip
    have hl12 := ilt hb11
    have h := hlt9 hl12
    refine WC.skip ?_
    change WC _ _ _ _ _ _
    refine WC.cut (fun σ w => ∃ (out_13 : List Int), ∃ (A14 : Option Addr), ∃ (c15 : Nat), ∃ (row16 : Rowb), m_firthref11_Differ_j5 f6 out_13 = some r ∧ slots σ [(0, .slice Aa a.length ca), (1, .slice Ab b.length cb), (5, .slice A14 out_13.length c15), (6, .int .i64 ((i7 : Nat) : Int))] ∧ CC F Γ [row16] w ∧ Own intT Γ 3 row16 A14 c15 out_13 ∧ True) ?_ ?_
    · skip
      refine WC.block ?_
      refine WC.rs ?_
      refine va rfl rfl rfl (q_move (v := .slice Aa a.length ca) rfl (by kernel_rfl)) ?_
      refine va rfl rfl rfl (q_move (v := .int .i64 ((i7 : Nat) : Int)) rfl (by kernel_rfl)) ?_
      obtain ⟨z18, hz19, h⟩ := bnd h
      refine vc rfl rfl rfl (q_call (call_run Try.call25 rfl rfl (by kernel_rfl)) (fun w hw => t_firthref11_at (Γ := Gh.all w) (ha.mono hw.sat.le_all) hac ((i7 : Nat) : Int) (ctr_lit0 hl12 (by decide)) (Sat.all w) hz19)) ?_
      refine va rfl rfl rfl (q_move (v := .slice Ab b.length cb) rfl (by kernel_rfl)) ?_
      refine va rfl rfl rfl (q_move (v := .int .i64 ((i7 : Nat) : Int)) rfl (by kernel_rfl)) ?_
      obtain ⟨z20, hz21, h⟩ := bnd h
      refine vc rfl rfl rfl (q_call (call_run Try.call25 rfl rfl (by kernel_rfl)) (fun w hw => t_firthref11_at (Γ := Gh.all w) (hb.mono hw.sat.le_all) hbc ((i7 : Nat) : Int) (ctr_lit0 hl12 (by decide)) (Sat.all w) hz21)) ?_
      refine va rfl rfl rfl (q_neq rfl rfl rfl) ?_
      refine WR.nil ?_
      change WC _ _ _ _ _ _
      refine WC.cif h (by kernel_rfl) (fun hb22 h => ?_) (fun hb22 h => ?_)
      · skip
        refine WC.region ?_
        refine va rfl rfl rfl (q_move (v := .slice A2 out_1.length c3) rfl (by kernel_rfl)) ?_
        refine va rfl rfl rfl (q_move (v := .int .i64 ((i7 : Nat) : Int)) rfl (by kernel_rfl)) ?_
        refine e_buildSlice (cs := #[.int .i64 ((i7 : Nat) : Int)]) (e := 3) rfl rfl rfl rfl (fun w => by kernel_rfl) ?_
        intro g23
        obtain ⟨hk24, h⟩ := chk_some h
        refine e_append (T := intT) (xs := out_1) (ys := [((i7 : Nat) : Int)]) elem_25 (i := 1) rfl rfl rfl rfl rfl rfl rfl ho5 (of_decide_eq_true hk24) (fun w hw => src_one (T := intT) (y := ((i7 : Nat) : Int)) (i := 0) rfl (by exact ⟨rfl, (ctr_lit0 hl12 (by decide))⟩) hw) ?_
        intro row25 A26 c27 ho28
        refine va rfl rfl rfl (q_assign (v := .slice A26 (out_1 ++ [((i7 : Nat) : Int)]).length c27) rfl (by kernel_rfl)) ?_
        refine WR.nil ?_
        intro w hw
        exact ⟨(out_1 ++ [((i7 : Nat) : Int)]), A26, c27, row25, h, (sl_ (by kernel_rfl)), (hw.only (is := [1]) rfl), ho28, trivial⟩
      · skip
        refine WC.skip ?_
        intro w hw
        exact ⟨out_1, A2, c3, row4, h, (sl_ (by kernel_rfl)), hw, ho5, trivial⟩
    · skip
      rintro σ w ⟨out_13, A14, c15, row16, h, hsl, hw, ho17, -⟩
      refine Wpt.slots hsl ?_
      refine WC.here (C := CC F Γ [row16]) ?_ hw
      clear hw hsl
      refine WC.region ?_
      refine va rfl rfl rfl (q_move (v := .int .i64 ((i7 : Nat) : Int)) rfl (by kernel_rfl)) ?_
      refine va rfl rfl rfl (q_add_r (r := ((i7 + 1 : Nat) : Int)) rfl rfl rfl (ctr_lit hl12 (by decide))) ?_
      refine va rfl rfl rfl (q_assign (v := .int .i64 ((i7 + 1 : Nat) : Int)) rfl (by kernel_rfl)) ?_
      refine WR.nil ?_
      intro w hw
      exact ⟨hl12, out_13, h, A14, c15, row16, (sl_ (by kernel_rfl)), hw, ho17, trivial⟩
  · skip
    have h := hge10 (ige hb11)
    refine WC.exit ?_
    change WC _ _ _ _ _ _
    refine WC.rs ?_
    refine va rfl rfl rfl (q_move (v := .slice A2 out_1.length c3) rfl (by kernel_rfl)) ?_
    refine va rfl rfl rfl (q_assign (v := .slice A2 out_1.length c3) rfl (by kernel_rfl)) ?_
    refine WR.nil ?_
    change WC _ _ _ _ _ _
    refine WC.ret ?_
    intro w hw
    obtain rfl := Option.some.inj h
    subst hF
    exact end_e (is := [0]) (by kernel_rfl) hw rfl ⟨A2, c3, row4, rfl, rfl, ho5, trivial⟩
set_option maxRecDepth 100000 in
set_option maxHeartbeats 400000 in
theorem t_firthlaw11_TreePlaces {Γ : Gh} {w0 : World} (key : ByteArray) (hkey : key.size ≤ lim) {Aa : Option Addr} {ca : Nat} {a : List Int} (ha : Sl u64T Γ Aa a) (hac : a.length ≤ ca) {Ab : Option Addr} {cb : Nat} {b : List Int} (hb : Sl u64T Γ Ab b) (hbc : b.length ≤ cb) (hs : Sat Γ w0) {r : Bool} (h : m_firthlaw11_TreePlaces key a b = some r) : Calls Try.prog 3 #[.string key, .slice Aa a.length ca, .slice Ab b.length cb] w0 (fun e w' => e = .returned (.bool r) ∧ Fr no w0 w') := by
  refine calls_of (N := 24) (rs := [6]) (args := [.string key, .slice Aa a.length ca, .slice Ab b.length cb]) Try.func3 rfl Try.ntmps3 Try.results3 rfl ?_
  obtain ⟨F, hF⟩ : ∃ F : Fm, F = ⟨no, w0, Γ⟩ := ⟨_, rfl⟩
  refine WC.here (C := CC F Γ []) ?_ (hF ▸ Cur.start0 hs)
  refine WC.rs ?_
  refine va rfl rfl rfl (q_assign (v := .bool false) rfl (by kernel_rfl)) ?_
  refine WR.nil ?_
  change WC _ _ _ _ _ _
  refine WC.rs ?_
  obtain ⟨z1, hz2, h⟩ := bnd h
  refine vc rfl rfl rfl (q_call (call_run Try.call8 rfl rfl (by kernel_rfl)) (fun w hw => t_firthlaw11_awake (Γ := Gh.all w)  (Sat.all w) hz2)) ?_
  refine va rfl rfl rfl (q_move (v := .bool z1) rfl (by kernel_rfl)) ?_
  refine vg1 rfl rfl rfl rfl rfl (fun hg3 => QV.qo (q_move (v := .string key) rfl (by kernel_rfl))) ?_
  refine (Bool.eq_false_or_eq_true z1).elim (fun hb4 => ?_) (fun hb4 => ?_)
  · skip
    have h := bt hb4 h
    refine WR.sat (c0 := true) (g := z1) rfl rfl rfl hb4 ?_
    obtain ⟨z5, hz6, h⟩ := bnd h
    refine e_call (is := []) rfl rfl (call_run Try.call10 rfl rfl (args1 (gu hb4 rfl))) rfl (fun w hp => t_tree_Place key hkey hp hz6) ?_
    rintro Γ7 U9 v10 hl8 ⟨A11, c12, row13, rfl, rfl, hr14, _⟩
    change WR _ _ _ (CC F Γ7 [row13]) _ _ (upd _ 10 (.slice A11 z5.length c12))
    refine WR.sat (c0 := true) (g := z1) rfl rfl rfl hb4 ?_
    refine va rfl rfl rfl (q_move (v := .string key) rfl (by kernel_rfl)) ?_
    refine WR.sat (c0 := true) (g := z1) rfl rfl rfl hb4 ?_
    obtain ⟨z15, hz16, h⟩ := bnd h
    refine e_call (is := []) rfl rfl (call_run Try.call11 rfl rfl (by kernel_rfl)) rfl (fun w hp => t_firthref11_Place key hkey hp hz16) ?_
    rintro Γ17 U19 v20 hl18 ⟨A21, c22, row23, rfl, rfl, hr24, _⟩
    change WR _ _ _ (CC F Γ17 [row23, row13]) _ _ (upd _ 12 (.slice A21 z15.length c22))
    refine WR.sat (c0 := true) (g := z1) rfl rfl rfl hb4 ?_
    obtain ⟨z25, hz26, h⟩ := bnd h
    refine vc rfl rfl rfl (q_call (call_run Try.call9 rfl rfl (by kernel_rfl)) (fun w hw => t_firthref06_Ints (Γ := Gh.all w) ((hr14.mono hl18).sl hw.sat.le_all (hw.ra 1 rfl)) (hr14.mono hl18).capz (hr24.sl hw.sat.le_all (hw.ra 0 rfl)) hr24.capz (Sat.all w) hz26)) ?_
    refine va rfl rfl rfl (q_pick_t (v := .bool z25) rfl rfl hb4 (by kernel_rfl)) ?_
    refine va rfl rfl rfl (q_move (v := .bool z25) rfl (by kernel_rfl)) ?_
    refine vg1 rfl rfl rfl rfl rfl (fun hg27 => QV.qo (q_move (v := .slice Aa a.length ca) rfl (by kernel_rfl))) ?_
    refine vg1 rfl rfl rfl rfl rfl (fun hg28 => QV.qo (q_move (v := .slice Ab b.length cb) rfl (by kernel_rfl))) ?_
    refine (Bool.eq_false_or_eq_true z25).elim (fun hb29 => ?_) (fun hb29 => ?_)
    · skip
      have h := bt hb29 h
      refine WR.sat (c0 := true) (g := z25) rfl rfl rfl hb29 ?_
      obtain ⟨z30, hz31, h⟩ := bnd h
      refine e_call (is := []) rfl rfl (call_run Try.call12 rfl rfl (args2 (gu hb29 rfl) (gu hb29 rfl))) rfl (fun w hp => t_tree_Differ (ha.mono (hl8.trans hl18)) hac (hb.mono (hl8.trans hl18)) hbc hp hz31) ?_
      rintro Γ32 U34 v35 hl33 ⟨A36, c37, row38, rfl, rfl, hr39, _⟩
      change WR _ _ _ (CC F Γ32 [row38, row23, row13]) _ _ (upd _ 18 (.slice A36 z30.length c37))
      refine WR.sat (c0 := true) (g := z25) rfl rfl rfl hb29 ?_
      refine va rfl rfl rfl (q_move (v := .slice Aa a.length ca) rfl (by kernel_rfl)) ?_
      refine WR.sat (c0 := true) (g := z25) rfl rfl rfl hb29 ?_
      refine va rfl rfl rfl (q_move (v := .slice Ab b.length cb) rfl (by kernel_rfl)) ?_
      refine WR.sat (c0 := true) (g := z25) rfl rfl rfl hb29 ?_
      obtain ⟨z40, hz41, h⟩ := bnd h
      refine e_call (is := []) rfl rfl (call_run Try.call13 rfl rfl (by kernel_rfl)) rfl (fun w hp => t_firthref11_Differ (ha.mono ((hl8.trans hl18).trans hl33)) hac (hb.mono ((hl8.trans hl18).trans hl33)) hbc hp hz41) ?_
      rintro Γ42 U44 v45 hl43 ⟨A46, c47, row48, rfl, rfl, hr49, _⟩
      change WR _ _ _ (CC F Γ42 [row48, row38, row23, row13]) _ _ (upd _ 21 (.slice A46 z40.length c47))
      refine WR.sat (c0 := true) (g := z25) rfl rfl rfl hb29 ?_
      obtain ⟨z50, hz51, h⟩ := bnd h
      refine vc rfl rfl rfl (q_call (call_run Try.call9 rfl rfl (by kernel_rfl)) (fun w hw => t_firthref06_Ints (Γ := Gh.all w) ((hr39.mono hl43).sl hw.sat.le_all (hw.ra 1 rfl)) (hr39.mono hl43).capz (hr49.sl hw.sat.le_all (hw.ra 0 rfl)) hr49.capz (Sat.all w) hz51)) ?_
      refine va rfl rfl rfl (q_pick_t (v := .bool z50) rfl rfl hb29 (by kernel_rfl)) ?_
      refine va rfl rfl rfl (q_assign (v := .bool z50) rfl (by kernel_rfl)) ?_
      refine WR.nil ?_
      change WC _ _ _ _ _ _
      refine WC.ret ?_
      intro w hw
      obtain rfl := Option.some.inj h
      subst hF
      exact ⟨by kernel_rfl, hw.fr⟩
    · skip
      have h := bf hb29 h
      refine WR.unsat (c0 := true) (g := z25) rfl rfl rfl hb29 rfl ?_
      refine WR.unsat (c0 := true) (g := z25) rfl rfl rfl hb29 rfl ?_
      refine WR.unsat (c0 := true) (g := z25) rfl rfl rfl hb29 rfl ?_
      refine WR.unsat (c0 := true) (g := z25) rfl rfl rfl hb29 rfl ?_
      refine WR.unsat (c0 := true) (g := z25) rfl rfl rfl hb29 rfl ?_
      refine va rfl rfl rfl (q_pick_f (v := .bool false) rfl rfl hb29 (by kernel_rfl)) ?_
      refine va rfl rfl rfl (q_assign (v := .bool false) rfl (by kernel_rfl)) ?_
      refine WR.nil ?_
      change WC _ _ _ _ _ _
      refine WC.ret ?_
      intro w hw
      obtain rfl := Option.some.inj h
      subst hF
      exact ⟨by kernel_rfl, hw.fr⟩
  · skip
    have h := bf hb4 h
    refine WR.unsat (c0 := true) (g := z1) rfl rfl rfl hb4 rfl ?_
    refine WR.unsat (c0 := true) (g := z1) rfl rfl rfl hb4 rfl ?_
    refine WR.unsat (c0 := true) (g := z1) rfl rfl rfl hb4 rfl ?_
    refine WR.unsat (c0 := true) (g := z1) rfl rfl rfl hb4 rfl ?_
    refine va rfl rfl rfl (q_pick_f (v := .bool false) rfl rfl hb4 (by kernel_rfl)) ?_
    refine va rfl rfl rfl (q_move (v := .bool false) rfl (by kernel_rfl)) ?_
    refine WR.unsat (c0 := true) (g := false) rfl rfl rfl rfl rfl ?_
    refine WR.unsat (c0 := true) (g := false) rfl rfl rfl rfl rfl ?_
    refine WR.unsat (c0 := true) (g := false) rfl rfl rfl rfl rfl ?_
    refine WR.unsat (c0 := true) (g := false) rfl rfl rfl rfl rfl ?_
    refine WR.unsat (c0 := true) (g := false) rfl rfl rfl rfl rfl ?_
    refine WR.unsat (c0 := true) (g := false) rfl rfl rfl rfl rfl ?_
    refine WR.unsat (c0 := true) (g := false) rfl rfl rfl rfl rfl ?_
    refine va rfl rfl rfl (q_pickf (v := .bool false) rfl rfl rfl) ?_
    refine va rfl rfl rfl (q_assign (v := .bool false) rfl (by kernel_rfl)) ?_
    refine WR.nil ?_
    change WC _ _ _ _ _ _
    refine WC.ret ?_
    intro w hw
    obtain rfl := Option.some.inj h
    subst hF
    exact ⟨by kernel_rfl, hw.fr⟩
end Fw
end Go.Proofs.Ytmmnpinpcgidnaa
