/- Laws for walks over objects: pointers and nil, calls that look at objects, seal under any frame, regions whose ready operations all stand alone. No condition. -/
import Derived.Test.YtlbdlkgboliikaaL11
namespace Go.Proofs.Ytlbdlkgboliikaa
namespace Fw
set_option linter.unusedVariables false
set_option linter.unusedSimpArgs false
open Go.RowKit

section
variable {P : Program} {N : Nat} {Q : Exit → Env → World → Prop} {σ : Env} {o : Oper} {S X X' S0 : Nat → Prop} {E B w w' : World} {L L1 U U' R : List Rowb} {ops : Array Oper} {rest : List Oper} {α : Type} {T : Ty α} {row : Rowb} {e : TypeId} {A : Option Addr} {c : Nat} {xs : List α} {C S0' : World → Prop}

theorem q_ptr_eql {x y : Operand} {t ty e : TypeId} {a : Option Addr} (ht : P.underlying t = some (.pointer e)) (ho : o.op = .binOp .eql t x y ty) (hx : ev σ x = .pointer a) (hy : ev σ y = .pointer none) : QV P C σ o (.bool a.isNone) :=
  fun w _ => by
    have h1 : eqGuard .eql t x y (.pointer a) (.pointer none) = pure () := rfl
    have h2 : binOp .eql t (.pointer a) (.pointer none) = (Op.equal t (.pointer a) (.pointer none) >>= fun r => pure (.bool r)) := rfl
    have h4 : ∀ d, (Op.equalIn (d + 1) t (.pointer a) (.pointer none)).run P w = .ok a.isNone w := by
      intro d
      simp only [Op.equalIn, Sem.run_bind, run_underlying ht, Result.andThen_ok]
      cases a <;> rfl
    have h3 : (Op.equal t (.pointer a) (.pointer none)).run P w = .ok a.isNone w := h4 9999
    simp only [execOp, ho, hx, hy, h1, h2, Sem.run_bind, Sem.run_pure, Result.andThen_ok, h3]
theorem q_ptr_neq {x y : Operand} {t ty e : TypeId} {a : Option Addr} (ht : P.underlying t = some (.pointer e)) (ho : o.op = .binOp .neq t x y ty) (hx : ev σ x = .pointer a) (hy : ev σ y = .pointer none) : QV P C σ o (.bool (!a.isNone)) :=
  fun w _ => by
    have h1 : eqGuard .neq t x y (.pointer a) (.pointer none) = pure () := rfl
    have h2 : binOp .neq t (.pointer a) (.pointer none) = (Op.equal t (.pointer a) (.pointer none) >>= fun r => pure (.bool !r)) := rfl
    have h4 : ∀ d, (Op.equalIn (d + 1) t (.pointer a) (.pointer none)).run P w = .ok a.isNone w := by
      intro d
      simp only [Op.equalIn, Sem.run_bind, run_underlying ht, Result.andThen_ok]
      cases a <;> rfl
    have h3 : (Op.equal t (.pointer a) (.pointer none)).run P w = .ok a.isNone w := h4 9999
    simp only [execOp, ho, hx, hy, h1, h2, Sem.run_bind, Sem.run_pure, Result.andThen_ok, h3]

theorem Pre.sub (h : Pre L X w) (hs : U.Sublist L) : Pre U X w :=
  ⟨fun r hr => h.loc r (hs.subset hr), h.nodup.sublist (List.Sublist.map _ (flatten_sub hs)), fun r hr => h.inX r (hs.subset hr)⟩
theorem Pre.permL {L' : List Rowb} (h : Pre L X w) (hp : L'.Perm L) : Pre L' X w :=
  ⟨fun r hr => h.loc r (hp.mem_iff.1 hr), (hp.flatten.map _).nodup_iff.2 h.nodup, fun r hr => h.inX r (hp.mem_iff.1 hr)⟩
theorem Cur.preL (h : Cur S E X B L w) : Pre L (Mx X L) w := ⟨h.loc, h.nodup, fun r hr p hp => .inr ⟨r, hr, p, hp, rfl⟩⟩

/-- a call that answers data, looks at rows and turns nothing -/
theorem e_call_look {as : Array Operand} {f : FuncId} {tys : Array TypeId} {args : Array Value} {d : Nat} {Res : (Nat → Prop) → World → Value → Prop} (hg : o.guard = none) (hdst : o.dst = some d) (hd : Nat.blt d N = true) (hc : ∀ (args : Array Value) (w : World), (callFunc f args).run P w = .ok (.enter f args) w)
    (ho : o.op = .call { callee := .value (.func f), args := as, argTypes := tys }) (ha : as.map (ev σ) = args) (hX : ∀ k, X k → k < B.heap.size)
    (h : ∀ w X', St X B X' w → (∀ k, X' k → k < w.heap.size) → Pre L X' w → Calls P f args w fun e w' => ∃ v, e = .returned v ∧ Res X' w' v ∧ Fr no w w')
    (k : ∀ X2 B2 v, St X B X2 B2 → (∀ k, X k → X2 k) → (∀ k, X2 k → k < B2.heap.size) → Res X2 B2 v → WR P N ops (CC S E X2 B2 L) Q rest (upd σ d v)) : WR P N ops (CC S E X B L) Q (o :: rest) σ := by
  refine e_call hg (by rw [hdst]; exact hd) hc ho ha fun w hw => ?_
  have hlt := hw.mx_lt hX
  refine (h w (Mx X L) hw.st hlt hw.preL).mono ?_
  rintro e w' ⟨v, rfl, hr, hf⟩
  refine ⟨v, rfl, ?_⟩
  rw [hdst]
  exact k (Mx X L) w' v (hw.st.trans (St.of_no hf)) (fun k h => .inl h) (fun k h => Nat.lt_of_lt_of_le (hlt k h) hf.size) hr w' ((hw.call hf).rebase)

/-- rows of the call's own lie apart from what was there, beside the rows handed in -/
theorem Cur.apart (h : Cur (ids U) E X B (L1 ++ U) w) {r : Rowb} (hr : r ∈ L1) : ∀ p ∈ r, E.heap.size ≤ p.1 := by
  intro p hp
  rcases h.sepE r (List.mem_append.2 (.inl hr)) p hp with ⟨s, hs, q, hq, he⟩ | h1
  · have hnd := h.nodup
    simp only [List.flatten_append, List.map_append] at hnd
    exact absurd he.symm ((List.nodup_append.1 hnd).2.2 p.1 (List.mem_map.2 ⟨p, List.mem_flatten.2 ⟨r, hr, hp⟩, rfl⟩) q.1 (List.mem_map.2 ⟨q, List.mem_flatten.2 ⟨s, hs, hq⟩, rfl⟩))
  · exact h1
theorem Cur.fresh2 (h : Cur (ids U) E X B (L1 ++ U) w) {r : Rowb} (hr : r ∈ L1) {X0 : Nat → Prop} (hX : ∀ k, X0 k → k < E.heap.size) : ∀ p ∈ r, ¬ X0 p.1 := by
  intro p hp hx
  have := h.apart hr p hp
  have := hX _ hx
  omega

theorem WH.each {S0 : World → Prop} {fuel : Nat} {listed : Array Bool} {l : List Nat} (hr : Region.ready .any ops listed = l) (hne : l ≠ []) (h : ∀ i ∈ l, ∃ o, ops[i]? = some o ∧ WR P N ops C (hq P N ops S0 Q fuel (listed.setIfInBounds i true)) [o] σ) : WH P N ops S0 C Q (fuel + 1) listed σ := by
  intro w hw a ha
  refine wpAnyH_all hr hne fun j hj => ?_
  obtain ⟨o, hi, h⟩ := h j hj
  have h1 := h w hw a ha
  have hpost : ∀ e a' w', lift N (hq P N ops S0 Q fuel (listed.setIfInBounds j true)) e a' w' → (match e with | .normal => S0 w' ∧ wpAnyH P .any ops (NoPanic (lift N Q)) S0 fuel (listed.setIfInBounds j true) a' w' | e => NoPanic (lift N Q) e a' w') := by
    rintro e a' w' ⟨σ', ha', hq'⟩
    cases e with
    | normal => exact ⟨hq'.1, hq'.2 a' ha'⟩
    | panic c => exact hq'
    | _ => exact ⟨σ', ha', hq'⟩
  unfold wpOp
  simp only [hi]
  unfold wpList at h1
  split
  · rename_i hwn
    rw [if_pos hwn] at h1
    rcases h1 with h1 | ⟨h1, a2, w2, h2⟩
    · left
      unfold Oper.wp at *
      generalize (execOp a.eval o).run P w = r at *
      cases r with
      | ok n w' =>
        cases n <;> simp only [Oper.upon] at h1 ⊢ <;> first
          | exact hpost .normal _ _ h1
          | (refine h1.mono ?_; intro e w'' h3
             cases e with
             | returned u => exact hpost .normal _ _ h3
             | panicked c => exact hpost (.panic c) _ _ h3
             | outgrown => obtain ⟨a3, w3, h4⟩ := h3; exact ⟨a3, w3, hpost .outgrown _ _ h4⟩)
          | (refine h1.mono ?_; intro u w'' h3; exact hpost .normal _ _ h3)
          | exact h1
      | halt x w' =>
        cases x <;> simp only [Oper.upon] at h1 ⊢ <;> first
          | exact hpost (.panic _) _ _ h1
          | exact h1
    · exact .inr ⟨h1, a2, w2, hpost .outgrown _ _ h2⟩
  · rename_i hwn
    rw [if_neg hwn] at h1
    exact hpost .normal _ _ h1
theorem yield_none {N : Nat} {a : Act} {σ : Env} (ha : Agr N a σ) {ops : Array Oper} {j dj : Nat} (hj : (ops[j]?).bind (·.dst) = some dj) (hs : σ dj = undef) : yielded ops a.tmps j = none := by
  have h1 := ha.read dj
  rw [hs, Array.getD_eq_getD_getElem?] at h1
  unfold yielded
  rw [hj]
  simp only [Option.bind_some]
  cases hq : a.tmps[dj]? with
  | none => rfl
  | some x => rw [hq] at h1; simp [undef] at h1; subst h1; rfl
/-- a guarded operation whose guard holds -/
theorem WR.sat {o : Oper} {rest : List Oper} {j dj : Nat} {c0 g want : Bool} (hg : o.guard = some (j, want)) (hj : (ops[j]?).bind (·.dst) = some dj) (hs : σ dj = gv c0 (.bool g)) (hc : (c0 && (bif want then g else !g)) = true)
    (k : WR P N ops C Q ({ o with guard := none } :: rest) σ) : WR P N ops C Q (o :: rest) σ := by
  intro w hw a ha
  have h := k w hw a ha
  have hc0 : c0 = true := and_l hc
  have hgw : g = want := by have := and_r hc; cases want <;> cases g <;> simp_all
  have hy : yielded ops a.tmps j = some g := ha.yield hj (by rw [hs, hc0]; rfl)
  unfold wpList at h ⊢
  have h1 : Region.wanted o (yielded ops a.tmps) = true := by simp [Region.wanted, hg, hy, hgw]
  have h2 : Region.wanted { o with guard := none } (yielded ops a.tmps) = true := by simp [Region.wanted]
  rw [if_pos h1]
  rw [if_pos h2] at h
  exact h
theorem WR.unsat {o : Oper} {rest : List Oper} {j dj : Nat} {c0 g want : Bool} (hg : o.guard = some (j, want)) (hj : (ops[j]?).bind (·.dst) = some dj) (hs : σ dj = gv c0 (.bool g)) (hc : (c0 && (bif want then g else !g)) = false) (hd : okDst N o.dst = true)
    (k : WR P N ops C Q rest (updo σ o.dst undef)) : WR P N ops C Q (o :: rest) σ := by
  intro w hw a ha
  refine wpList_step fun K hK => ?_
  have hnw : Region.wanted o (yielded ops a.tmps) = false := by
    cases c0 with
    | true =>
      have hy := ha.yield (g := g) hj hs
      have : g ≠ want := by cases want <;> cases g <;> simp_all
      simp [Region.wanted, hg, hy, this]
    | false => simp [Region.wanted, hg, yield_none ha hj hs]
  rw [if_neg (by simp [hnw])]
  exact hK _ _ (k w hw _ (ha.put hd undef))
theorem q_pick_t {c a b : Operand} {g : Bool} {v : Value} (ho : o.op = .pick c a b) (hc : ev σ c = .bool g) (hg : g = true) (ha : ev σ a = v) : QV P C σ o v := q_pick ho hc (by subst hg; exact ha)
theorem q_pick_f {c a b : Operand} {g : Bool} {v : Value} (ho : o.op = .pick c a b) (hc : ev σ c = .bool g) (hg : g = false) (hb : ev σ b = v) : QV P C σ o v := q_pick ho hc (by subst hg; exact hb)
theorem gv_false {c : Bool} {v : Value} (h : c = false) : gv c v = undef := by subst h; rfl
theorem WH.env {fuel : Nat} {listed : Array Bool} {d : Nat} {v u : Value} (h : u = v) (k : WH P N ops S0' C Q fuel listed (upd σ d v)) : WH P N ops S0' C Q fuel listed (upd σ d u) := by subst h; exact k
theorem WR.toData0 {T : Ty α} [Inhabited α] (hS : ∀ k, ¬ S k) {i : Nat} {row : Rowb} {e : TypeId} {A : Option Addr} {c : Nat} {xs : List α} (hi : L[i]? = some row) (hown : Own T X B e row A c xs) {X0 : Nat → Prop} (h0 : ∀ k, X0 k → X k) (h0lt : ∀ k, X0 k → k < E.heap.size) (hX : ∀ k, X k → k < B.heap.size)
    (k : ∀ X2 B2, St X B X2 B2 → (∀ k, X0 k → X2 k) → (∀ k, X2 k → k < B2.heap.size) → Sl T X2 B2 A xs → WR P N ops (CC S E X2 B2 (L.set i [])) Q rest σ) : WR P N ops (CC S E X B L) Q rest σ := by
  intro w hw
  have hmem : row ∈ L := List.mem_of_getElem? hi
  obtain ⟨X2, h1, h2, h3, h4, h5⟩ := hw.toData hi hown (fun p hp => (hw.sepE row hmem p hp).resolve_left (hS _)) h0 h0lt hX
  exact k X2 w h2 h3 h4 h5 w h1
theorem WC.toData0 {T : Ty α} [Inhabited α] {cd : Code} (hS : ∀ k, ¬ S k) {i : Nat} {row : Rowb} {e : TypeId} {A : Option Addr} {c : Nat} {xs : List α} (hi : L[i]? = some row) (hown : Own T X B e row A c xs) {X0 : Nat → Prop} (h0 : ∀ k, X0 k → X k) (h0lt : ∀ k, X0 k → k < E.heap.size) (hX : ∀ k, X k → k < B.heap.size)
    (k : ∀ X2 B2, St X B X2 B2 → (∀ k, X0 k → X2 k) → (∀ k, X2 k → k < B2.heap.size) → Sl T X2 B2 A xs → WC P N (CC S E X2 B2 (L.set i [])) cd Q σ) : WC P N (CC S E X B L) cd Q σ := by
  intro w hw
  have hmem : row ∈ L := List.mem_of_getElem? hi
  obtain ⟨X2, h1, h2, h3, h4, h5⟩ := hw.toData hi hown (fun p hp => (hw.sepE row hmem p hp).resolve_left (hS _)) h0 h0lt hX
  exact k X2 w h2 h3 h4 h5 w h1
theorem Pre.glues {Us : List (List Rowb)} {rows : List Rowb} (h : Pre Us.flatten X w) (hr : rows = Us.map List.flatten) : Pre rows X w := by
  subst hr
  have hm : ∀ r ∈ Us.map List.flatten, ∀ p ∈ r, ∃ s ∈ Us.flatten, p ∈ s := by
    intro r hr p hp
    obtain ⟨U, hU, rfl⟩ := List.mem_map.1 hr
    obtain ⟨s, hs, hp⟩ := List.mem_flatten.1 hp
    exact ⟨s, List.mem_flatten.2 ⟨U, hU, hs⟩, hp⟩
  refine ⟨fun r hr p hp => ?_, ?_, fun r hr p hp => ?_⟩
  · obtain ⟨s, hs, hp⟩ := hm r hr p hp; exact h.loc s hs p hp
  · rw [← List.flatten_flatten]; exact h.nodup
  · obtain ⟨s, hs, hp⟩ := hm r hr p hp; exact h.inX s hs p hp
theorem nat_index {y : Operand} {k : IntKind} {x : Int} (h : ev σ y = .int k x) (h0 : 0 ≤ x) : ev σ y = .int k ((x.toNat : Nat) : Int) := by rw [h, Int.toNat_of_nonneg h0]
theorem q_field {t f : Nat} {x : Operand} {cs : Array Value} {v : Value} (ho : o.op = .field t x f) (hx : ev σ x = .agg cs) (hr : ∀ w, (Instr.field t (.agg cs) f).run P w = .ok v w) : QV P C σ o v :=
  fun w _ => by simp only [execOp, ho, hx, Sem.run_bind, hr, Result.andThen_ok, Sem.run_pure]
end
end Fw
end Go.Proofs.Ytlbdlkgboliikaa
