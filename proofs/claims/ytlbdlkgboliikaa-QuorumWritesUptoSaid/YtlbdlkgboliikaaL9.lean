/- Calls that turn blocks which the caller knows whole: boxes of captured variables, objects. No condition. -/
import Derived.Test.YtlbdlkgboliikaaL8
namespace Go.Proofs.Ytlbdlkgboliikaa
namespace Fw
set_option linter.unusedVariables false
set_option linter.unusedSimpArgs false
open Go.RowKit

/-- the blocks of some rows -/
def ids (U : List Rowb) : Nat → Prop := fun k => ∃ r ∈ U, ∃ p ∈ r, p.1 = k

/-- w became w': the rows U became the rows U', all else stays -/
structure Eff (U U' : List Rowb) (w w' : World) : Prop where
  fr : Fr (ids U) w w'
  loc : ∀ r ∈ U', ∀ p ∈ r, w'.heap[p.1]? = some p.2
  nodup : (U'.flatten.map (·.1)).Nodup
  new : ∀ r ∈ U', ∀ p ∈ r, ids U p.1 ∨ w.heap.size ≤ p.1

section
variable {P : Program} {N : Nat} {Q : Exit → Env → World → Prop} {σ : Env} {o : Oper} {S X : Nat → Prop} {E B w w' : World} {L U U' R : List Rowb} {ops : Array Oper} {rest : List Oper} {α : Type} {T : Ty α} {C C' : World → Prop}

theorem Cur.permL {L' : List Rowb} (h : Cur S E X B L w) (hp : L'.Perm L) : Cur S E X B L' w :=
  ⟨h.frE, h.fr, fun r hr => h.loc r (hp.mem_iff.1 hr), fun r hr => h.sepE r (hp.mem_iff.1 hr), fun r hr => h.sepB r (hp.mem_iff.1 hr), by
    have h1 : (L'.flatten).Perm L.flatten := hp.flatten
    exact (h1.map _).nodup_iff.2 h.nodup⟩

theorem Cur.glue (h : Cur S E X B (U ++ R) w) : Cur S E X B (U.flatten :: R) w := by
  refine ⟨h.frE, h.fr, ?_, ?_, ?_, by simpa using h.nodup⟩
  all_goals
    intro r hr p hp
    rcases List.mem_cons.1 hr with rfl | hr
    · obtain ⟨s, hs, hp⟩ := List.mem_flatten.1 hp
      first | exact h.loc s (List.mem_append.2 (.inl hs)) p hp | exact h.sepE s (List.mem_append.2 (.inl hs)) p hp | exact h.sepB s (List.mem_append.2 (.inl hs)) p hp
    · first | exact h.loc r (List.mem_append.2 (.inr hr)) p hp | exact h.sepE r (List.mem_append.2 (.inr hr)) p hp | exact h.sepB r (List.mem_append.2 (.inr hr)) p hp
theorem Cur.unglue (h : Cur S E X B (U.flatten :: R) w) : Cur S E X B (U ++ R) w := by
  refine ⟨h.frE, h.fr, ?_, ?_, ?_, by simpa using h.nodup⟩
  all_goals
    intro r hr p hp
    rcases List.mem_append.1 hr with hr | hr
    · have hm : p ∈ U.flatten := List.mem_flatten.2 ⟨r, hr, hp⟩
      first | exact h.loc _ (by simp) p hm | exact h.sepE _ (by simp) p hm | exact h.sepB _ (by simp) p hm
    · first | exact h.loc r (by simp [hr]) p hp | exact h.sepE r (by simp [hr]) p hp | exact h.sepB r (by simp [hr]) p hp

theorem ids_flatten {U : List Rowb} {k : Nat} : ids U k ↔ ∃ p ∈ U.flatten, p.1 = k :=
  ⟨fun ⟨r, hr, p, hp, he⟩ => ⟨p, List.mem_flatten.2 ⟨r, hr, hp⟩, he⟩, fun ⟨p, hp, he⟩ => let ⟨r, hr, hp⟩ := List.mem_flatten.1 hp; ⟨r, hr, p, hp, he⟩⟩

theorem Cur.eff (h : Cur S E X B (U ++ R) w) (he : Eff U U' w w') : Cur S E X B (U' ++ R) w' := by
  have h1 := h.glue
  have h2 := h1.set (i := 0) (row := U.flatten) (row' := U'.flatten) rfl (he.fr.mono fun k hk => ids_flatten.1 hk)
    (fun p hp => let ⟨r, hr, hp⟩ := List.mem_flatten.1 hp; he.loc r hr p hp)
    (fun p hp => by
      obtain ⟨r, hr, hp⟩ := List.mem_flatten.1 hp
      rcases he.new r hr p hp with h3 | h3
      · exact .inl (ids_flatten.1 h3)
      · exact .inr h3) he.nodup
  exact Cur.unglue h2

/-- what the caller tells of the rows that it hands over -/
structure Pre (U : List Rowb) (X : Nat → Prop) (w : World) : Prop where
  loc : ∀ r ∈ U, ∀ p ∈ r, w.heap[p.1]? = some p.2
  nodup : (U.flatten.map (·.1)).Nodup
  inX : ∀ r ∈ U, ∀ p ∈ r, X p.1

theorem Pre.start (h : Pre U X w) : Cur (ids U) w X w U w :=
  ⟨Fr.refl _ _, Fr.refl _ _, h.loc, fun r hr p hp => .inl ⟨r, hr, p, hp, rfl⟩, fun r hr p hp => .inl (h.inX r hr p hp), h.nodup⟩

theorem Cur.toEff (h : Cur (ids U) E X B U' w) : Eff U U' E w := ⟨h.frE, h.loc, h.nodup, h.sepE⟩

theorem Cur.st2 {X0 : Nat → Prop} (h : Cur S E X B U' w) (h0 : ∀ k, X0 k → X k) : St X B (Mx X0 U') w :=
  h.st.trans (St.less fun k hk => hk.imp (h0 k) id)

/-- a call that turns the rows U, which stand first -/
theorem e_call_eff {f : FuncId} {args : Array Value} {Res : List Rowb → (Nat → Prop) → World → Value → Prop} (hg : o.guard = none) (hd : okDst N o.dst = true)
    (hr : ∀ w, (execOp (ev σ) o).run P w = .ok (.enter f args) w) (hX : ∀ k, X k → k < B.heap.size) {X0 : Nat → Prop} (h0 : ∀ k, X0 k → X k)
    (h : ∀ w X', St X B X' w → (∀ k, X' k → k < w.heap.size) → Pre U X' w → Calls P f args w fun e w' => ∃ v, e = .returned v ∧ ∃ U', Eff U U' w w' ∧ Res U' (Mx X' U') w' v)
    (k : ∀ X2 B2 U' v, St X B X2 B2 → (∀ k, X0 k → X2 k) → (∀ k, X2 k → k < B2.heap.size) → Res U' X2 B2 v → WR P N ops (CC S E X2 B2 (U' ++ R)) Q rest (updo σ o.dst v)) : WR P N ops (CC S E X B (U ++ R)) Q (o :: rest) σ := by
  refine WR.call hg hd hr fun w hw => ?_
  have hlt := hw.mx_lt hX
  have hpre : Pre U (Mx X (U ++ R)) w := ⟨fun r hr => hw.loc r (List.mem_append.2 (.inl hr)), by
    have := hw.nodup
    simp only [List.flatten_append, List.map_append] at this
    exact (List.nodup_append.1 this).1, fun r hr p hp => .inr ⟨r, List.mem_append.2 (.inl hr), p, hp, rfl⟩⟩
  refine (h w (Mx X (U ++ R)) hw.st hlt hpre).mono ?_
  rintro e w' ⟨v, rfl, U', he, hres⟩
  refine ⟨v, rfl, ?_⟩
  have hst2 : St (Mx X (U ++ R)) w (Mx (Mx X (U ++ R)) U') w' := by
    refine ⟨he.fr.os, he.fr.tape, he.fr.output, he.fr.size, fun k hk hx => he.fr.keep k hk (fun ⟨r, hr, p, hp, hpe⟩ => hx (.inr ⟨r, List.mem_append.2 (.inl hr), p, hp, hpe⟩)), fun k hk hx h2 => ?_⟩
    rcases h2 with h2 | ⟨r, hr, p, hp, rfl⟩
    · exact hx h2
    · rcases he.new r hr p hp with ⟨s, hs, q, hq, hqe⟩ | h3
      · exact hx (.inr ⟨s, List.mem_append.2 (.inl hs), q, hq, hqe⟩)
      · omega
  have hc := hw.eff he
  refine k (Mx (Mx X (U ++ R)) U') w' U' v (hw.st.trans hst2) (fun k hk => .inl (.inl (h0 k hk))) ?_ hres w' ?_
  · rintro k (h2 | ⟨r, hr, p, hp, rfl⟩)
    · exact Nat.lt_of_lt_of_le (hlt k h2) he.fr.size
    · exact hc.lt (List.mem_append.2 (.inl hr)) hp
  · refine ⟨hc.frE, Fr.refl _ _, hc.loc, hc.sepE, fun r hr p hp => .inl ?_, hc.nodup⟩
    rcases List.mem_append.1 hr with hr | hr
    · exact .inr ⟨r, hr, p, hp, rfl⟩
    · exact .inl (.inr ⟨r, List.mem_append.2 (.inr hr), p, hp, rfl⟩)

/-- a call of a function value that the walk knows -/
theorem call_run_fv {x : Operand} {as : Array Operand} {f : FuncId} {tys : Array TypeId} {args caps : Array Value} {ρ : Operand → Value} (hc : ∀ (args : Array Value) (w : World), (callFunc f args).run P w = .ok (.enter f args) w) (ho : o.op = .call { callee := .value x, args := as, argTypes := tys })
    (hf : ρ x = .func (.func f) #[] caps) (ha : as.map ρ ++ caps = args) (w : World) : (execOp ρ o).run P w = .ok (.enter f args) w := by
  subst ha
  simp [execOp, ho, resolve, hf, Deferred.ofValue, invoke, hc, Sem.run_pure, Sem.run_bind]
end
end Fw
end Go.Proofs.Ytlbdlkgboliikaa
