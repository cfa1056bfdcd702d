/- Calls that answer data, and helpers for rows of the call's own. No condition. -/
import Derived.Test.YtlbdlkgboliikaaL6
namespace Go.Proofs.Ytlbdlkgboliikaa
namespace Fw
set_option linter.unusedVariables false
set_option linter.unusedSimpArgs false
open Go.RowKit

section
variable {P : Program} {N : Nat} {Q : Exit → Env → World → Prop} {σ : Env} {o : Oper} {S X : Nat → Prop} {E B w : World} {L : List Rowb} {ops : Array Oper} {rest : List Oper} {α : Type} {T : Ty α} {C C' : World → Prop}

theorem WR.sub (h : ∀ w, C w → C' w) (k : WR P N ops C' Q rest σ) : WR P N ops C Q rest σ := fun w hw => k w (h w hw)
theorem WC.sub {c : Code} (h : ∀ w, C w → C' w) (k : WC P N C' c Q σ) : WC P N C c Q σ := fun w hw => k w (h w hw)

theorem Cur.pad (h : Cur S E X B L w) : Cur S E X B ([] :: L) w :=
  ⟨h.frE, h.fr, fun r hr p hp => by
    rcases List.mem_cons.1 hr with rfl | hr
    · cases hp
    · exact h.loc r hr p hp, fun r hr p hp => by
    rcases List.mem_cons.1 hr with rfl | hr
    · cases hp
    · exact h.sepE r hr p hp, fun r hr p hp => by
    rcases List.mem_cons.1 hr with rfl | hr
    · cases hp
    · exact h.sepB r hr p hp, by simpa using h.nodup⟩

theorem Cur.fresh (h : Cur no E X B L w) {r : Rowb} (hr : r ∈ L) {X0 : Nat → Prop} (hX : ∀ k, X0 k → k < E.heap.size) : ∀ p ∈ r, ¬ X0 p.1 := by
  intro p hp hx
  have h1 := hX _ hx
  rcases h.sepE r hr p hp with h2 | h2
  · exact h2
  · omega

theorem Cur.mx_lt (h : Cur S E X B L w) (hX : ∀ k, X k → k < B.heap.size) : ∀ k, Mx X L k → k < w.heap.size := by
  rintro k (h1 | ⟨r, hr, p, hp, rfl⟩)
  · exact Nat.lt_of_lt_of_le (hX k h1) h.fr.size
  · exact h.lt hr hp

/-- a call that answers data and leaves the old world as it is: facts go over to the world behind it -/
theorem e_call_res {as : Array Operand} {f : FuncId} {tys : Array TypeId} {args : Array Value} {d : Nat} {Res : (Nat → Prop) → World → Value → Prop} (hg : o.guard = none) (hdst : o.dst = some d) (hd : Nat.blt d N = true) (hc : ∀ (args : Array Value) (w : World), (callFunc f args).run P w = .ok (.enter f args) w)
    (ho : o.op = .call { callee := .value (.func f), args := as, argTypes := tys }) (ha : as.map (ev σ) = args) (hX : ∀ k, X k → k < B.heap.size)
    (h : ∀ w X', St X B X' w → (∀ k, X' k → k < w.heap.size) → Calls P f args w fun e w' => ∃ v, e = .returned v ∧ Res X' w' v ∧ Fr no w w')
    (k : ∀ X2 B2 v, St X B X2 B2 → (∀ k, X k → X2 k) → (∀ k, X2 k → k < B2.heap.size) → Res X2 B2 v → WR P N ops (CC S E X2 B2 L) Q rest (upd σ d v)) : WR P N ops (CC S E X B L) Q (o :: rest) σ := by
  refine e_call hg (by rw [hdst]; exact hd) hc ho ha fun w hw => ?_
  have hlt := hw.mx_lt hX
  refine (h w (Mx X L) hw.st hlt).mono ?_
  rintro e w' ⟨v, rfl, hr, hf⟩
  refine ⟨v, rfl, ?_⟩
  rw [hdst]
  exact k (Mx X L) w' v (hw.st.trans (St.of_no hf)) (fun k h => .inl h) (fun k h => Nat.lt_of_lt_of_le (hlt k h) hf.size) hr w' ((hw.call hf).rebase)

theorem args1 {σ : Env} {a0 : Operand} {v0 : Value} (h0 : ev σ a0 = v0) : #[a0].map (ev σ) = #[v0] := by subst h0; simp
theorem args2 {σ : Env} {a0 a1 : Operand} {v0 v1 : Value} (h0 : ev σ a0 = v0) (h1 : ev σ a1 = v1) : #[a0, a1].map (ev σ) = #[v0, v1] := by subst h0 h1; simp
theorem args3 {σ : Env} {a0 a1 a2 : Operand} {v0 v1 v2 : Value} (h0 : ev σ a0 = v0) (h1 : ev σ a1 = v1) (h2 : ev σ a2 = v2) : #[a0, a1, a2].map (ev σ) = #[v0, v1, v2] := by subst h0 h1 h2; simp
theorem args4 {σ : Env} {a0 a1 a2 a3 : Operand} {v0 v1 v2 v3 : Value} (h0 : ev σ a0 = v0) (h1 : ev σ a1 = v1) (h2 : ev σ a2 = v2) (h3 : ev σ a3 = v3) : #[a0, a1, a2, a3].map (ev σ) = #[v0, v1, v2, v3] := by subst h0 h1 h2 h3; simp
theorem args5 {σ : Env} {a0 a1 a2 a3 a4 : Operand} {v0 v1 v2 v3 v4 : Value} (h0 : ev σ a0 = v0) (h1 : ev σ a1 = v1) (h2 : ev σ a2 = v2) (h3 : ev σ a3 = v3) (h4 : ev σ a4 = v4) : #[a0, a1, a2, a3, a4].map (ev σ) = #[v0, v1, v2, v3, v4] := by subst h0 h1 h2 h3 h4; simp
theorem args6 {σ : Env} {a0 a1 a2 a3 a4 a5 : Operand} {v0 v1 v2 v3 v4 v5 : Value} (h0 : ev σ a0 = v0) (h1 : ev σ a1 = v1) (h2 : ev σ a2 = v2) (h3 : ev σ a3 = v3) (h4 : ev σ a4 = v4) (h5 : ev σ a5 = v5) : #[a0, a1, a2, a3, a4, a5].map (ev σ) = #[v0, v1, v2, v3, v4, v5] := by subst h0 h1 h2 h3 h4 h5; simp
theorem args7 {σ : Env} {a0 a1 a2 a3 a4 a5 a6 : Operand} {v0 v1 v2 v3 v4 v5 v6 : Value} (h0 : ev σ a0 = v0) (h1 : ev σ a1 = v1) (h2 : ev σ a2 = v2) (h3 : ev σ a3 = v3) (h4 : ev σ a4 = v4) (h5 : ev σ a5 = v5) (h6 : ev σ a6 = v6) : #[a0, a1, a2, a3, a4, a5, a6].map (ev σ) = #[v0, v1, v2, v3, v4, v5, v6] := by subst h0 h1 h2 h3 h4 h5 h6; simp
theorem args8 {σ : Env} {a0 a1 a2 a3 a4 a5 a6 a7 : Operand} {v0 v1 v2 v3 v4 v5 v6 v7 : Value} (h0 : ev σ a0 = v0) (h1 : ev σ a1 = v1) (h2 : ev σ a2 = v2) (h3 : ev σ a3 = v3) (h4 : ev σ a4 = v4) (h5 : ev σ a5 = v5) (h6 : ev σ a6 = v6) (h7 : ev σ a7 = v7) : #[a0, a1, a2, a3, a4, a5, a6, a7].map (ev σ) = #[v0, v1, v2, v3, v4, v5, v6, v7] := by subst h0 h1 h2 h3 h4 h5 h6 h7; simp
theorem bargs0 {σ : Env} : (#[] : Array (Nat × Operand)).map (fun (i, x) => (i, ev σ x)) = #[] := by simp
theorem bargs1 {σ : Env} {i0 : Nat} {a0 : Operand} {v0 : Value} (h0 : ev σ a0 = v0) : #[(i0, a0)].map (fun (i, x) => (i, ev σ x)) = #[(i0, v0)] := by subst h0; simp
theorem bargs2 {σ : Env} {i0 i1 : Nat} {a0 a1 : Operand} {v0 v1 : Value} (h0 : ev σ a0 = v0) (h1 : ev σ a1 = v1) : #[(i0, a0), (i1, a1)].map (fun (i, x) => (i, ev σ x)) = #[(i0, v0), (i1, v1)] := by subst h0 h1; simp
theorem bargs3 {σ : Env} {i0 i1 i2 : Nat} {a0 a1 a2 : Operand} {v0 v1 v2 : Value} (h0 : ev σ a0 = v0) (h1 : ev σ a1 = v1) (h2 : ev σ a2 = v2) : #[(i0, a0), (i1, a1), (i2, a2)].map (fun (i, x) => (i, ev σ x)) = #[(i0, v0), (i1, v1), (i2, v2)] := by subst h0 h1 h2; simp
theorem bargs4 {σ : Env} {i0 i1 i2 i3 : Nat} {a0 a1 a2 a3 : Operand} {v0 v1 v2 v3 : Value} (h0 : ev σ a0 = v0) (h1 : ev σ a1 = v1) (h2 : ev σ a2 = v2) (h3 : ev σ a3 = v3) : #[(i0, a0), (i1, a1), (i2, a2), (i3, a3)].map (fun (i, x) => (i, ev σ x)) = #[(i0, v0), (i1, v1), (i2, v2), (i3, v3)] := by subst h0 h1 h2 h3; simp
theorem bargs5 {σ : Env} {i0 i1 i2 i3 i4 : Nat} {a0 a1 a2 a3 a4 : Operand} {v0 v1 v2 v3 v4 : Value} (h0 : ev σ a0 = v0) (h1 : ev σ a1 = v1) (h2 : ev σ a2 = v2) (h3 : ev σ a3 = v3) (h4 : ev σ a4 = v4) : #[(i0, a0), (i1, a1), (i2, a2), (i3, a3), (i4, a4)].map (fun (i, x) => (i, ev σ x)) = #[(i0, v0), (i1, v1), (i2, v2), (i3, v3), (i4, v4)] := by subst h0 h1 h2 h3 h4; simp
theorem bargs6 {σ : Env} {i0 i1 i2 i3 i4 i5 : Nat} {a0 a1 a2 a3 a4 a5 : Operand} {v0 v1 v2 v3 v4 v5 : Value} (h0 : ev σ a0 = v0) (h1 : ev σ a1 = v1) (h2 : ev σ a2 = v2) (h3 : ev σ a3 = v3) (h4 : ev σ a4 = v4) (h5 : ev σ a5 = v5) : #[(i0, a0), (i1, a1), (i2, a2), (i3, a3), (i4, a4), (i5, a5)].map (fun (i, x) => (i, ev σ x)) = #[(i0, v0), (i1, v1), (i2, v2), (i3, v3), (i4, v4), (i5, v5)] := by subst h0 h1 h2 h3 h4 h5; simp
theorem bargs7 {σ : Env} {i0 i1 i2 i3 i4 i5 i6 : Nat} {a0 a1 a2 a3 a4 a5 a6 : Operand} {v0 v1 v2 v3 v4 v5 v6 : Value} (h0 : ev σ a0 = v0) (h1 : ev σ a1 = v1) (h2 : ev σ a2 = v2) (h3 : ev σ a3 = v3) (h4 : ev σ a4 = v4) (h5 : ev σ a5 = v5) (h6 : ev σ a6 = v6) : #[(i0, a0), (i1, a1), (i2, a2), (i3, a3), (i4, a4), (i5, a5), (i6, a6)].map (fun (i, x) => (i, ev σ x)) = #[(i0, v0), (i1, v1), (i2, v2), (i3, v3), (i4, v4), (i5, v5), (i6, v6)] := by subst h0 h1 h2 h3 h4 h5 h6; simp
theorem bargs8 {σ : Env} {i0 i1 i2 i3 i4 i5 i6 i7 : Nat} {a0 a1 a2 a3 a4 a5 a6 a7 : Operand} {v0 v1 v2 v3 v4 v5 v6 v7 : Value} (h0 : ev σ a0 = v0) (h1 : ev σ a1 = v1) (h2 : ev σ a2 = v2) (h3 : ev σ a3 = v3) (h4 : ev σ a4 = v4) (h5 : ev σ a5 = v5) (h6 : ev σ a6 = v6) (h7 : ev σ a7 = v7) : #[(i0, a0), (i1, a1), (i2, a2), (i3, a3), (i4, a4), (i5, a5), (i6, a6), (i7, a7)].map (fun (i, x) => (i, ev σ x)) = #[(i0, v0), (i1, v1), (i2, v2), (i3, v3), (i4, v4), (i5, v5), (i6, v6), (i7, v7)] := by subst h0 h1 h2 h3 h4 h5 h6 h7; simp
theorem bargs9 {σ : Env} {i0 i1 i2 i3 i4 i5 i6 i7 i8 : Nat} {a0 a1 a2 a3 a4 a5 a6 a7 a8 : Operand} {v0 v1 v2 v3 v4 v5 v6 v7 v8 : Value} (h0 : ev σ a0 = v0) (h1 : ev σ a1 = v1) (h2 : ev σ a2 = v2) (h3 : ev σ a3 = v3) (h4 : ev σ a4 = v4) (h5 : ev σ a5 = v5) (h6 : ev σ a6 = v6) (h7 : ev σ a7 = v7) (h8 : ev σ a8 = v8) : #[(i0, a0), (i1, a1), (i2, a2), (i3, a3), (i4, a4), (i5, a5), (i6, a6), (i7, a7), (i8, a8)].map (fun (i, x) => (i, ev σ x)) = #[(i0, v0), (i1, v1), (i2, v2), (i3, v3), (i4, v4), (i5, v5), (i6, v6), (i7, v7), (i8, v8)] := by subst h0 h1 h2 h3 h4 h5 h6 h7 h8; simp
theorem bargs10 {σ : Env} {i0 i1 i2 i3 i4 i5 i6 i7 i8 i9 : Nat} {a0 a1 a2 a3 a4 a5 a6 a7 a8 a9 : Operand} {v0 v1 v2 v3 v4 v5 v6 v7 v8 v9 : Value} (h0 : ev σ a0 = v0) (h1 : ev σ a1 = v1) (h2 : ev σ a2 = v2) (h3 : ev σ a3 = v3) (h4 : ev σ a4 = v4) (h5 : ev σ a5 = v5) (h6 : ev σ a6 = v6) (h7 : ev σ a7 = v7) (h8 : ev σ a8 = v8) (h9 : ev σ a9 = v9) : #[(i0, a0), (i1, a1), (i2, a2), (i3, a3), (i4, a4), (i5, a5), (i6, a6), (i7, a7), (i8, a8), (i9, a9)].map (fun (i, x) => (i, ev σ x)) = #[(i0, v0), (i1, v1), (i2, v2), (i3, v3), (i4, v4), (i5, v5), (i6, v6), (i7, v7), (i8, v8), (i9, v9)] := by subst h0 h1 h2 h3 h4 h5 h6 h7 h8 h9; simp
theorem bargs11 {σ : Env} {i0 i1 i2 i3 i4 i5 i6 i7 i8 i9 i10 : Nat} {a0 a1 a2 a3 a4 a5 a6 a7 a8 a9 a10 : Operand} {v0 v1 v2 v3 v4 v5 v6 v7 v8 v9 v10 : Value} (h0 : ev σ a0 = v0) (h1 : ev σ a1 = v1) (h2 : ev σ a2 = v2) (h3 : ev σ a3 = v3) (h4 : ev σ a4 = v4) (h5 : ev σ a5 = v5) (h6 : ev σ a6 = v6) (h7 : ev σ a7 = v7) (h8 : ev σ a8 = v8) (h9 : ev σ a9 = v9) (h10 : ev σ a10 = v10) : #[(i0, a0), (i1, a1), (i2, a2), (i3, a3), (i4, a4), (i5, a5), (i6, a6), (i7, a7), (i8, a8), (i9, a9), (i10, a10)].map (fun (i, x) => (i, ev σ x)) = #[(i0, v0), (i1, v1), (i2, v2), (i3, v3), (i4, v4), (i5, v5), (i6, v6), (i7, v7), (i8, v8), (i9, v9), (i10, v10)] := by subst h0 h1 h2 h3 h4 h5 h6 h7 h8 h9 h10; simp
theorem bargs12 {σ : Env} {i0 i1 i2 i3 i4 i5 i6 i7 i8 i9 i10 i11 : Nat} {a0 a1 a2 a3 a4 a5 a6 a7 a8 a9 a10 a11 : Operand} {v0 v1 v2 v3 v4 v5 v6 v7 v8 v9 v10 v11 : Value} (h0 : ev σ a0 = v0) (h1 : ev σ a1 = v1) (h2 : ev σ a2 = v2) (h3 : ev σ a3 = v3) (h4 : ev σ a4 = v4) (h5 : ev σ a5 = v5) (h6 : ev σ a6 = v6) (h7 : ev σ a7 = v7) (h8 : ev σ a8 = v8) (h9 : ev σ a9 = v9) (h10 : ev σ a10 = v10) (h11 : ev σ a11 = v11) : #[(i0, a0), (i1, a1), (i2, a2), (i3, a3), (i4, a4), (i5, a5), (i6, a6), (i7, a7), (i8, a8), (i9, a9), (i10, a10), (i11, a11)].map (fun (i, x) => (i, ev σ x)) = #[(i0, v0), (i1, v1), (i2, v2), (i3, v3), (i4, v4), (i5, v5), (i6, v6), (i7, v7), (i8, v8), (i9, v9), (i10, v10), (i11, v11)] := by subst h0 h1 h2 h3 h4 h5 h6 h7 h8 h9 h10 h11; simp
theorem bargs13 {σ : Env} {i0 i1 i2 i3 i4 i5 i6 i7 i8 i9 i10 i11 i12 : Nat} {a0 a1 a2 a3 a4 a5 a6 a7 a8 a9 a10 a11 a12 : Operand} {v0 v1 v2 v3 v4 v5 v6 v7 v8 v9 v10 v11 v12 : Value} (h0 : ev σ a0 = v0) (h1 : ev σ a1 = v1) (h2 : ev σ a2 = v2) (h3 : ev σ a3 = v3) (h4 : ev σ a4 = v4) (h5 : ev σ a5 = v5) (h6 : ev σ a6 = v6) (h7 : ev σ a7 = v7) (h8 : ev σ a8 = v8) (h9 : ev σ a9 = v9) (h10 : ev σ a10 = v10) (h11 : ev σ a11 = v11) (h12 : ev σ a12 = v12) : #[(i0, a0), (i1, a1), (i2, a2), (i3, a3), (i4, a4), (i5, a5), (i6, a6), (i7, a7), (i8, a8), (i9, a9), (i10, a10), (i11, a11), (i12, a12)].map (fun (i, x) => (i, ev σ x)) = #[(i0, v0), (i1, v1), (i2, v2), (i3, v3), (i4, v4), (i5, v5), (i6, v6), (i7, v7), (i8, v8), (i9, v9), (i10, v10), (i11, v11), (i12, v12)] := by subst h0 h1 h2 h3 h4 h5 h6 h7 h8 h9 h10 h11 h12; simp
theorem bargs14 {σ : Env} {i0 i1 i2 i3 i4 i5 i6 i7 i8 i9 i10 i11 i12 i13 : Nat} {a0 a1 a2 a3 a4 a5 a6 a7 a8 a9 a10 a11 a12 a13 : Operand} {v0 v1 v2 v3 v4 v5 v6 v7 v8 v9 v10 v11 v12 v13 : Value} (h0 : ev σ a0 = v0) (h1 : ev σ a1 = v1) (h2 : ev σ a2 = v2) (h3 : ev σ a3 = v3) (h4 : ev σ a4 = v4) (h5 : ev σ a5 = v5) (h6 : ev σ a6 = v6) (h7 : ev σ a7 = v7) (h8 : ev σ a8 = v8) (h9 : ev σ a9 = v9) (h10 : ev σ a10 = v10) (h11 : ev σ a11 = v11) (h12 : ev σ a12 = v12) (h13 : ev σ a13 = v13) : #[(i0, a0), (i1, a1), (i2, a2), (i3, a3), (i4, a4), (i5, a5), (i6, a6), (i7, a7), (i8, a8), (i9, a9), (i10, a10), (i11, a11), (i12, a12), (i13, a13)].map (fun (i, x) => (i, ev σ x)) = #[(i0, v0), (i1, v1), (i2, v2), (i3, v3), (i4, v4), (i5, v5), (i6, v6), (i7, v7), (i8, v8), (i9, v9), (i10, v10), (i11, v11), (i12, v12), (i13, v13)] := by subst h0 h1 h2 h3 h4 h5 h6 h7 h8 h9 h10 h11 h12 h13; simp
theorem q_build' {t : TypeId} {parts : Array (Nat × Operand)} {ps : Array (Nat × Value)} {v : Value} (ho : o.op = .build t parts) (hp : parts.map (fun (i, x) => (i, ev σ x)) = ps) (hr : ∀ w, (Instr.build t ps).run P w = .ok v w) : QV P C σ o v :=
  q_build ho (by rw [hp]; exact hr)
/-- a block of the call's own that holds a whole slice -/
theorem Own.of_block [Inhabited α] {e : TypeId} {g : Nat} {cs : Array Value} {ys : List α} (css : List (List Value)) (hcs : cs.toList = css.flatten) (hn : css.length = ys.length) (hle : ys.length ≤ lim) (hrd : ∀ i (h : i < css.length), T.rd X B css[i] (gt ys i)) :
    Own T X B e [(g, .cells cs e (0, 0))] (some ⟨g, 0, none⟩) ys.length ys := by
  have hall : ∀ c ∈ css, c.length = T.n := by
    intro c hc
    obtain ⟨k, hk, rfl⟩ := List.getElem_of_mem hc
    exact T.len (hrd k hk)
  have hl : cs.toList.length = ys.length * T.n := by rw [hcs, flatten_len T.n css hall, hn]
  refine ⟨hle, .inr ⟨g, cs, css, rfl, rfl, Nat.le_refl _, ?_, by simpa using hl, hn, ?_, hrd⟩⟩
  · have : ys.length ≤ 2147483648 := hle
    unfold maxLen; omega
  · rw [← hcs, List.take_of_length_le (by omega)]

/-- a row of the call's own becomes data: it is written no more -/
theorem Cur.toData [Inhabited α] (h : Cur S E X B L w) {i : Nat} {row : Rowb} {e : TypeId} {A : Option Addr} {c : Nat} {xs : List α} (hi : L[i]? = some row) (hown : Own T X B e row A c xs) (hf : ∀ p ∈ row, E.heap.size ≤ p.1) {X0 : Nat → Prop} (h0 : ∀ k, X0 k → X k) (h0lt : ∀ k, X0 k → k < E.heap.size) (hX : ∀ k, X k → k < B.heap.size) :
    ∃ X2, Cur S E X2 w (L.set i []) w ∧ St X B X2 w ∧ (∀ k, X0 k → X2 k) ∧ (∀ k, X2 k → k < w.heap.size) ∧ Sl T X2 w A xs := by
  have hmem : row ∈ L := List.mem_of_getElem? hi
  refine ⟨fun k => Mx X L k ∧ ¬ ∃ p ∈ row, p.1 = k, ?_, ?_, ?_, ?_, ?_⟩
  · have hs := h.set (w' := w) (row' := []) hi (Fr.refl _ _) (by simp) (by simp) (by simp)
    refine ⟨hs.frE, Fr.refl _ _, hs.loc, hs.sepE, fun r hr p hp => ?_, hs.nodup⟩
    left
    refine ⟨?_, ?_⟩
    · right
      have : r ∈ L := by
        rcases List.mem_or_eq_of_mem_set hr with h1 | h1
        · exact h1
        · subst h1; cases hp
      exact ⟨r, this, p, hp, rfl⟩
    · rintro ⟨q, hq, he⟩
      -- the row and another one share a block
      have hil : i < L.length := (List.getElem?_eq_some_iff.1 hi).1
      have hgi : L[i] = row := (List.getElem?_eq_some_iff.1 hi).2
      have hset : L.set i [] = L.take i ++ [] :: L.drop (i + 1) := List.set_eq_take_append_cons_drop.trans (by rw [if_pos hil])
      have hsplit : L = L.take i ++ row :: L.drop (i + 1) := by
        conv => lhs; rw [← List.take_append_drop i L, List.drop_eq_getElem_cons hil, hgi]
      have hnd := h.nodup
      rw [hsplit] at hnd
      simp only [List.flatten_append, List.flatten_cons, List.map_append] at hnd
      rw [hset] at hr
      rcases List.mem_append.1 hr with h1 | h1
      · exact (List.nodup_append.1 hnd).2.2 p.1 (List.mem_map.2 ⟨p, List.mem_flatten.2 ⟨r, h1, hp⟩, rfl⟩) q.1 (List.mem_append.2 (.inl (List.mem_map.2 ⟨q, hq, rfl⟩))) he.symm
      · rcases List.mem_cons.1 h1 with h1 | h1
        · subst h1; cases hp
        · exact (List.nodup_append.1 (List.nodup_append.1 hnd).2.1).2.2 q.1 (List.mem_map.2 ⟨q, hq, rfl⟩) p.1 (List.mem_map.2 ⟨p, List.mem_flatten.2 ⟨r, h1, hp⟩, rfl⟩) he
  · have hst := h.st
    exact ⟨hst.os, hst.tape, hst.output, hst.size, hst.keep, fun k hk hx h2 => hst.out k hk hx h2.1⟩
  · intro k hk
    refine ⟨.inl (h0 k hk), ?_⟩
    rintro ⟨p, hp, rfl⟩
    have := h0lt _ hk
    have := hf p hp
    omega
  · rintro k ⟨h1, _⟩; exact h.mx_lt hX k h1
  · refine hown.sl ?_ (h.loc row hmem) ?_
    · have hst := h.st
      exact ⟨hst.os, hst.tape, hst.output, hst.size, hst.keep, fun k hk hx h2 => hst.out k hk hx h2.1⟩
    · intro p hp h2; exact h2.2 ⟨p, hp, rfl⟩

theorem WR.toData [Inhabited α] {i : Nat} {row : Rowb} {e : TypeId} {A : Option Addr} {c : Nat} {xs : List α} (hi : L[i]? = some row) (hown : Own T X B e row A c xs) {X0 : Nat → Prop} (h0 : ∀ k, X0 k → X k) (h0lt : ∀ k, X0 k → k < E.heap.size) (hX : ∀ k, X k → k < B.heap.size)
    (k : ∀ X2 B2, St X B X2 B2 → (∀ k, X0 k → X2 k) → (∀ k, X2 k → k < B2.heap.size) → Sl T X2 B2 A xs → WR P N ops (CC no E X2 B2 (L.set i [])) Q rest σ) : WR P N ops (CC no E X B L) Q rest σ := by
  intro w hw
  have hmem : row ∈ L := List.mem_of_getElem? hi
  obtain ⟨X2, h1, h2, h3, h4, h5⟩ := hw.toData hi hown (fun p hp => (hw.sepE row hmem p hp).resolve_left id) h0 h0lt hX
  exact k X2 w h2 h3 h4 h5 w h1

/-! ### results that lie in memory -/
def resRun (P : Program) (σ : Env) (w : World) : List ResultVar → List Value → Prop
  | [], [] => True
  | .tmp t :: rs, v :: vs => σ t = v ∧ resRun P σ w rs vs
  | .cell a t :: rs, v :: vs => (∃ ad, σ a = .pointer (some ad)) ∧ (Instr.loadAt t (σ a)).run P w = .ok v w ∧ resRun P σ w rs vs
  | _, _ => False
def retW : List Value → Value
  | [v] => v
  | vs => .tuple vs.toArray
def fqr (P : Program) (rs : List ResultVar) (R : Ending → World → Prop) : Exit → Env → World → Prop
  | .normal, σ, w | .ret, σ, w => ∃ vs, resRun P σ w rs vs ∧ R (.returned (retW vs)) w
  | .panic chain, _, w => R (.panicked chain) w
  | .outgrown, _, w => R .outgrown w
  | _, _, _ => False

theorem run_results_r {fn : Func} {a : Act} (ha : Agr N a σ) {rs : List ResultVar} (hrs : fn.results = rs.toArray) {w : World} {vs : List Value} (h : resRun P σ w rs vs) : (results fn a.tmps).run P w = .ok (retW vs) w := by
  have key : ∀ (F : ResultVar → Sem Value), (∀ t, F (.tmp t) = Pure.pure (a.tmps.getD t undef)) → (∀ c t, F (.cell c t) = (asAddr (a.tmps.getD c undef) >>= fun x => loadVar t x)) →
      ∀ (rs : List ResultVar) (vs : List Value), resRun P σ w rs vs → (List.mapM (m := Sem) F rs).run P w = .ok vs w := by
    intro F hF hG rs
    induction rs with
    | nil => intro vs h; cases vs with | nil => rfl | cons _ _ => exact h.elim
    | cons r rs ih =>
      intro vs h
      cases vs with
      | nil => cases r <;> exact h.elim
      | cons v vs =>
        cases r with
        | tmp t =>
          obtain ⟨h1, h2⟩ := h
          simp only [List.mapM_cons, Sem.run_bind, hF, Sem.run_pure, Result.andThen_ok, ih vs h2, ha.read, h1]
        | cell c t =>
          obtain ⟨⟨ad, h0⟩, h1, h2⟩ := h
          have h3 : (loadVar t ad).run P w = .ok v w := by
            rw [h0] at h1
            simpa [Instr.loadAt, Instr.sureAddr, Sem.run_bind, Sem.run_pure] using h1
          simp only [List.mapM_cons, Sem.run_bind, hG, Sem.run_pure, ha.read, h0, asAddr, Result.andThen_ok, h3, ih vs h2]
  unfold results
  rw [hrs, List.mapM_toArray]
  simp only [Sem.run_bind, Sem.run_map]
  rw [key _ (fun t => rfl) (fun c t => rfl) rs vs h]
  match vs with
  | [] => rfl
  | [v] => rfl
  | t :: u :: l => simp [retW, Sem.run_pure]

theorem calls_of_r {f : FuncId} {fn : Func} {c : Code} {args : List Value} {R : Ending → World → Prop} {rs : List ResultVar} (hf : P.funcs[f]? = some fn) (hb : fn.body = some c) (hn : fn.ntmps = N) (hrs : fn.results = rs.toArray)
    (ha : Nat.ble args.length N = true) (h : Wpt P N c (fqr P rs R) (env0 args) w) : Calls P f args.toArray w R := by
  have hle : args.length ≤ N := Nat.le_of_ble_eq_true ha
  refine calls_of_wp hf hb (wp_mono (h _ ⟨by simp [hn]; omega, rfl, fun t => ?_⟩) ?_)
  · by_cases ht : t < args.length
    · simp [env0, Array.getD_eq_getD_getElem?, Array.getElem?_append, ht, List.getD]
    · simp only [env0, Array.getD_eq_getD_getElem?, Array.getElem?_append, List.size_toArray, ht, if_false, List.getD, Array.getElem?_replicate]
      rw [List.getElem?_eq_none (by omega)]
      split <;> rfl
  · rintro e a w' ⟨σ', ha', hq⟩
    cases e with
    | normal => obtain ⟨vs, h1, h2⟩ := hq; exact ⟨ha'.defs, _, run_results_r ha' hrs h1, h2⟩
    | ret => obtain ⟨vs, h1, h2⟩ := hq; exact ⟨ha'.defs, _, run_results_r ha' hrs h1, h2⟩
    | panic ch => exact ⟨ha'.defs, hq⟩
    | outgrown => exact hq
    | exit id => exact hq
    | goto l => exact hq

theorem load_row {t e : TypeId} {i g j : Nat} {cs : Array Value} {vs : List Value} {v : Value} (hw : Cur S E X B L w) (ht : ∀ w, (isAgg t).run P w = .ok true w) (hz : ∀ w, (sizeOf t).run P w = .ok vs.length w) (hx : v = .pointer (some ⟨g, j, none⟩))
    (hi : L[i]? = some [(g, .cells cs e (0, 0))]) (hv : (cs.toList.drop j).take vs.length = vs) : (Instr.loadAt t v).run P w = .ok (.agg vs.toArray) w := by
  subst hx
  rw [run_loadAt_cells ht hz]
  intro k v hk
  rw [addr_add, hw.cell hi, ← Array.getElem?_toList]
  have hlt : k < vs.length := (List.getElem?_eq_some_iff.1 hk).1
  rw [← hv, List.getElem?_take, if_pos hlt, List.getElem?_drop] at hk
  exact hk

/-- a slice compared with nil -/
theorem q_nil_slice {x y : Operand} {t ty e : TypeId} {A : Option Addr} {n c m q : Nat} (ht : P.underlying t = some (.slice e)) (ho : o.op = .binOp .eql t x y ty) (hx : ev σ x = .slice A n c) (hy : ev σ y = .slice none m q) : QV P C σ o (.bool A.isNone) :=
  fun w _ => by
    have h1 : eqGuard .eql t x y (.slice A n c) (.slice none m q) = pure () := rfl
    have h2 : binOp .eql t (.slice A n c) (.slice none m q) = (Op.equal t (.slice A n c) (.slice none m q) >>= fun r => pure (.bool r)) := rfl
    have h4 : ∀ d, (Op.equalIn (d + 1) t (.slice A n c) (.slice none m q)).run P w = .ok A.isNone w := by
      intro d
      simp only [Op.equalIn, Sem.run_bind, run_underlying ht, Result.andThen_ok]
      cases A <;> rfl
    have h3 : (Op.equal t (.slice A n c) (.slice none m q)).run P w = .ok A.isNone w := h4 9999
    simp only [execOp, ho, hx, hy, h1, h2, Sem.run_bind, Sem.run_pure, Result.andThen_ok, h3]
end
end Fw
end Go.Proofs.Ytlbdlkgboliikaa
