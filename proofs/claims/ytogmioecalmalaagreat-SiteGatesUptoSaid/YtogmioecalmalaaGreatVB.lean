/- An evaluator of closed runs, and that a call does as it tells. No condition. -/
import Derived.Test.YtogmioecalmalaaGreatVA
import Derived.RangeFuncNested
import Derived.RangeFuncLeaves
import Derived.RangeFuncCalls
import Derived.TacticsIn
import Derived.Scope
import Derived.Recover
import Derived.Defers
namespace Go.Proofs.YtogmioecalmalaaGreat
namespace Fw
set_option linter.unusedVariables false
set_option linter.unusedSimpArgs false
set_option linter.unusedSectionVars false
set_option linter.unusedSectionVars false
open Go.RowKit Go.MapKept
noncomputable section
/-- a deferred call -/
def DR (β : Bt) : Df → Deferred → Prop
  | .mark b, d => ∃ g, β b = some (g, 0, 0) ∧ d = { target := .collected g, args := #[] }
  | .call f caps, d => ∃ vs, VRs β caps vs ∧ d = { target := .fn (.func f) vs.toArray, args := #[] }
def DRs (β : Bt) : List Df → List Deferred → Prop
  | [], [] => True
  | a :: l, d :: r => DR β a d ∧ DRs β l r
  | _, _ => False
theorem DR.mono {β γ : Bt} (hs : β.le γ) {a : Df} {d : Deferred} (h : DR β a d) : DR γ a d := by
  cases a with
  | mark b => obtain ⟨g, h1, h2⟩ := h; exact ⟨g, hs _ _ h1, h2⟩
  | call f caps => obtain ⟨vs, h1, h2⟩ := h; exact ⟨vs, h1.mono hs, h2⟩
theorem DRs.mono {β γ : Bt} (hs : β.le γ) : ∀ {l : List Df} {r : List Deferred}, DRs β l r → DRs γ l r
  | [], [], _ => trivial
  | [], _ :: _, h => h.elim
  | _ :: _, [], h => h.elim
  | _ :: _, _ :: _, ⟨h1, h2⟩ => ⟨h1.mono hs, h2.mono hs⟩
/-- where the run stands, and where the frame does -/
structure SR (P : Program) (N : Nat) (F : Fm) (Γ : Gh) (β : Bt) (L : List Rowb) (s : St) (a : Act) (w : World) : Prop where
  size : a.tmps.size = N
  env : ∀ t, VR β (rho (.tmp t) s.E) (a.tmps.getD t undef)
  mh : MH P β s.H.get s.n L
  cur : Cur F Γ L w
  ds : DRs β s.ds a.defers
def SX (P : Program) (N : Nat) (F : Fm) (Γ : Gh) (β0 : Bt) (s : St) (a : Act) (w : World) : Prop := ∃ β L, β0.le β ∧ SR P N F Γ β L s a w
section
variable {P : Program} {F : Fm} {Γ : Gh} {β β0 : Bt} {L : List Rowb} {w : World} {N : Nat} {s s' : St} {a : Act} {R : Rn}
theorem SR.eval (h : SR P N F Γ β L s a w) : ∀ x, VR β (rho x s.E) (a.eval x) := by
  intro x
  cases x with
  | tmp t => exact h.env t
  | const v => exact tn v
  | global g => exact .v _
  | func f => exact .fn .nil .nil
theorem o5 {E : Tr AV} {d t : Nat} {x : AV} : rho (.tmp t) (E.set d (some x)) = if t = d then x else rho (.tmp t) E := by
  show @Option.rec AV (fun _ => AV) (.v undef) (fun a => a) ((E.set d (some x)).get t) = _
  rw [Tr.get_set]
  split <;> rfl
/-- a slot is written -/
theorem qL {E : Tr AV} {a : Act} (hs : a.tmps.size = N) (he : ∀ t, VR β (rho (.tmp t) E) (a.tmps.getD t undef)) {d : Option Nat} (hd : okD d N = true) {x : AV} {v : Value} (hx : VR β x v) :
    (a.put d v).tmps.size = N ∧ (∀ t, VR β (rho (.tmp t) (putA d E x)) ((a.put d v).tmps.getD t undef)) ∧ (a.put d v).defers = a.defers := by
  cases d with
  | none => exact ⟨hs, he, rfl⟩
  | some d =>
    have hd' : d < N := by simpa [okD, Nat.blt_eq] using hd
    refine ⟨by simp [Act.put, hs], fun t => ?_, rfl⟩
    rw [show putA (some d) E x = E.set d (some x) from rfl, o5]
    by_cases ht : t = d
    · subst ht
      rw [if_pos rfl]
      have : t < a.tmps.size := by rw [hs]; exact hd'
      simpa [Act.put, Array.getD_eq_getD_getElem?, this] using hx
    · rw [if_neg ht]
      have ht' : d ≠ t := fun e => ht e.symm
      have := he t
      simp only [Array.getD_eq_getD_getElem?] at this
      simp [Act.put, Array.getD_eq_getD_getElem?, ht', this]
/-- is it wanted? the run and the frame agree -/
theorem oF {w : Bool} {x : AV} {v : Value} (h : VR β x v) : lL w x = true ↔ v = .bool w := by
  constructor
  · intro hg
    unfold lL at hg
    split at hg
    · rename_i g
      rw [h.vinv]
      have : g = w := by simpa using hg
      rw [this]
    · cases hg
  · rintro rfl
    cases h
    simp [lL]
theorem rY (h : SR P N F Γ β L s a w) {o : Oper} {ops : Array Oper} : m9 o ops s.E = Region.wanted o (yielded ops a.tmps) := by
  unfold m9 Region.wanted
  cases hg : o.guard with
  | none => rfl
  | some p =>
    obtain ⟨j, want⟩ := p
    show @Option.rec Nat (fun _ => Bool) false (fun d => lL want (rho (.tmp d) s.E)) ((ops[j]?).bind (·.dst)) = (yielded ops a.tmps j == some want)
    unfold yielded
    cases hj : (ops[j]?).bind (·.dst) with
    | none => simp
    | some d =>
      have he := h.env d
      show lL want (rho (.tmp d) s.E) = _
      simp only [Option.bind_some]
      rw [Array.getD_eq_getD_getElem?] at he
      cases hq : a.tmps[d]? with
      | none =>
        rw [hq] at he
        have : ¬ lL want (rho (.tmp d) s.E) = true := fun hw => by have := (oF he).1 hw; simp [undef] at this
        simpa using this
      | some x =>
        rw [hq] at he
        have he : VR β (rho (.tmp d) s.E) x := he
        by_cases hx : x = .bool want
        · rw [(oF he).2 hx, hx]; simp
        · have h1 : lL want (rho (.tmp d) s.E) = false := by
            cases hb : lL want (rho (.tmp d) s.E) with
            | false => rfl
            | true => exact absurd ((oF he).1 hb) hx
          rw [h1]
          cases x <;> simp_all
theorem SR.put (h : SR P N F Γ β L s a w) {d : Option Nat} (hd : okD d N = true) {β' : Bt} {L' : List Rowb} {w' : World} {x : AV} {v : Value} {H' : Hp} {n' : Nat} (hb : β.le β') (hx : VR β' x v) (hm : MH P β' H'.get n' L') (hc : Cur F Γ L' w') :
    SR P N F Γ β' L' ⟨putA d s.E x, H', n', s.ds⟩ (a.put d v) w' := by
  obtain ⟨h1, h2, h3⟩ := qL h.size (fun t => (h.env t).mono hb) hd hx
  exact ⟨h1, h2, hm, hc, by rw [h3]; exact h.ds.mono hb⟩
theorem vb (h : SR P N F Γ β L s a w) {c : Call} {d : Df} (hd : ox c s.E = some d) (ty : TypeId) : ∃ d', DR β d d' ∧ ∀ w, (resolve a.eval c ty).run P w = .ok d' w := by
  unfold ox at hd
  split at hd
  · rename_i x hc ha
    split at hd
    · rename_i g caps hx
      cases hd
      have hv := h.eval x
      rw [hx] at hv
      generalize hq : a.eval x = u at hv
      cases hv with
      | fn h1 h2 =>
        rename_i fs cs
        cases h1
        have ea : c.args = #[] := by rw [← Array.toArray_toList (xs := c.args), ha]
        exact ⟨_, ⟨cs, h2, rfl⟩, fun w => by simp [resolve, hc, hq, ea, Deferred.ofValue]⟩
    · cases hd
  · cases hd
/-- one operation -/
theorem mn [TbOK R.P P] (hcl : ClOK P Γ R.cl) (hex : ExOK P Γ R.ex) {o : Oper} {ops : Array Oper} (hs : jX o ops R s = some s') (h : SX P R.N F Γ β0 s a w) {K : Act → World → Prop} {Q : Exit → Act → World → Prop} (hK : ∀ a w, SX P R.N F Γ β0 s' a w → K a w) :
    if Region.wanted o (yielded ops a.tmps) then o.wp P a w K Q else K (a.put o.dst undef) w := by
  obtain ⟨β, L, hb, h⟩ := h
  obtain ⟨E, H, n, ds⟩ := s
  rw [← rY h]
  unfold jX at hs
  simp only at hs
  cases hd : okD o.dst R.N with
  | false => rw [hd] at hs; cases hs
  | true =>
    rw [hd] at hs
    simp only at hs
    cases hw : m9 o ops E with
    | false =>
      rw [hw] at hs
      cases hs
      rw [if_neg (by simp)]
      exact hK _ _ ⟨β, L, hb, h.put hd (Bt.le.refl _) (.v _) h.mh h.cur⟩
    | true =>
      rw [hw] at hs
      simp only at hs
      rw [if_pos rfl]
      cases hi : oc o.op with
      | some c =>
        rw [hi] at hs
        obtain ⟨d, h1, h2⟩ := ab (show bd (ox c E) _ = some s' from hs)
        cases h2
        obtain ⟨d', h3, h4⟩ := vb h h1 o.type
        have ho : o.op = .defer c := by
          unfold oc at hi
          split at hi
          · rename_i hc; cases hi; exact hc
          · cases hi
        unfold Oper.wp
        have he : (execOp a.eval o).run P w = .ok (.defer d') w := by
          unfold execOp
          rw [ho]
          simp [h4]
        rw [he]
        refine hK _ _ ⟨β, L, hb, ?_⟩
        obtain ⟨g1, g2, g3⟩ := qL (a := { a with defers := d' :: a.defers }) h.size h.env hd (x := jH) (v := undef) (.v _)
        exact ⟨g1, g2, h.mh, h.cur, by rw [g3]; exact ⟨h3, h.ds⟩⟩
      | none =>
        rw [hi] at hs
        simp only at hs
        cases hq : opA o.op R H n n (n + 1) E with
        | none => rw [hq] at hs; cases hs
        | some r =>
          obtain ⟨v, H', n'⟩ := r
          rw [hq] at hs
          cases hs
          unfold Oper.wp
          refine yA hcl hex h.mh h.cur h.eval hq o a K Q fun β' L' x w' g1 g2 g3 g4 => hK _ _ ⟨β', L', hb.trans g1, h.put hd g1 g2 g3 g4⟩
theorem tJ [TbOK R.P P] (hcl : ClOK P Γ R.cl) (hex : ExOK P Γ R.ex) {ops : Array Oper} {Q : Exit → Act → World → Prop} : ∀ {l : List Oper} {s s' : St} {a : Act} {w : World}, runL l ops R s = some s' → SX P R.N F Γ β0 s a w → (∀ a w, SX P R.N F Γ β0 s' a w → Q .normal a w) → wpList P ops Q l a w
  | [], _, _, _, _, h, hs, hQ => by cases h; exact wpList_nil (hQ _ _ hs)
  | o :: l, s, s', a, w, h, hs, hQ => by
    have h' : @Option.rec St (fun _ => Option St) none (fun s' => runL l ops R s') (jX o ops R s) = some s' := h
    cases h1 : jX o ops R s with
    | none => rw [h1] at h'; cases h'
    | some s1 =>
      rw [h1] at h'
      exact wpList_step fun K hK => mn hcl hex h1 hs fun a w hx => hK _ _ (tJ hcl hex h' hx hQ)
end
end
end Fw
end Go.Proofs.YtogmioecalmalaaGreat
namespace Go.Proofs.YtogmioecalmalaaGreat
namespace Fw
set_option linter.unusedVariables false
set_option linter.unusedSimpArgs false
set_option linter.unusedSectionVars false
open Go.RowKit Go.MapKept
noncomputable section
def XR : Ex → Exit
  | .nor => .normal
  | .exit i => .exit i
  | .ret => .ret
/-- where the run of a code ends -/
def PX (P : Program) (N : Nat) (F : Fm) (Γ : Gh) (β0 : Bt) (r : Ex × St) : Exit → Act → World → Prop := fun e a w => e = XR r.1 ∧ SX P N F Γ β0 r.2 a w
/-- a drawn region that does as it is told -/
def DrOK (P : Program) (Γ : Gh) (N : Nat) (dr : Nat → Array Oper → St → Option St) (id : Nat) (ops : Array Oper) : Prop :=
  ∀ s s', dr id ops s = some s' → ∀ F β0 a w, SX P N F Γ β0 s a w → (Code.region id ops true).wp P (PX P N F Γ β0 (.nor, s')) a w
/-- the drawn regions of a code -/
def regs : Code → List (Nat × Array Oper)
  | .region id ops true => [(id, ops)]
  | .seq a b => regs a ++ regs b
  | .cond _ a b => regs a ++ regs b
  | .block _ a => regs a
  | .loop a => regs a
  | .scope a => regs a
  | _ => []
section
variable {P : Program} {F : Fm} {Γ : Gh} {β β0 : Bt} {L : List Rowb} {w : World} {N : Nat} {s s' : St} {a : Act} {R : Rn} {r : Ex × St}
theorem uS {x : Option St} (h : norA x = some r) : ∃ s', x = some s' ∧ r = (.nor, s') := by
  cases x with
  | none => cases h
  | some s => cases h; exact ⟨s, rfl, rfl⟩
theorem ow {x : Option (Ex × St)} {k : St → Option (Ex × St)} (h : rk x k = some r) : ∃ q, x = some q ∧ ((q.1 = .nor ∧ k q.2 = some r) ∨ (q.1 ≠ .nor ∧ r = q)) := by
  cases x with
  | none => cases h
  | some q =>
    obtain ⟨x, s⟩ := q
    refine ⟨_, rfl, ?_⟩
    cases x with
    | nor => exact .inl ⟨rfl, h⟩
    | exit i => cases h; exact .inr ⟨by simp, rfl⟩
    | ret => cases h; exact .inr ⟨by simp, rfl⟩
/-- a loop, by a number that falls -/
theorem tu {c : Code} {Q : Exit → Act → World → Prop} (I : Nat → Act → World → Prop) (m : Nat) (h0 : I m a w)
    (round : ∀ m a w, I m a w → c.wp P (Exit.then (fun a' w' => ∃ m', m' < m ∧ I m' a' w') Q) a w) : (Code.loop c).wp P Q a w := by
  intro b k cs
  have key : ∀ m, ∀ w a, I m a w → ∃ e a' w', Q e a' w' ∧ Arrives P (lone (b.at a (.code c :: .inLoop c :: k)) cs w) b k cs e a' w' := by
    intro m
    induction m using Nat.strongRecOn with
    | _ m ih =>
      intro w a hI
      obtain ⟨e, a₁, w₁, hq, harr⟩ := round m a w hI b (.inLoop c :: k) cs
      cases e with
      | normal =>
        obtain ⟨m', hlt, hI₁⟩ := hq
        obtain ⟨e₂, a₂, w₂, hq₂, harr₂⟩ := ih m' hlt w₁ a₁ hI₁
        exact ⟨e₂, a₂, w₂, hq₂, .of_steps (Steps.trans harr (.one step_inLoop)) harr₂⟩
      | exit id => exact ⟨_, a₁, w₁, hq, .pass (x := .inLoop c) rfl (fun _ _ => .inl (by simp)) harr⟩
      | goto l => exact ⟨_, a₁, w₁, hq, .pass (x := .inLoop c) rfl (fun _ _ => .inl (by simp)) harr⟩
      | ret => exact ⟨_, a₁, w₁, hq, .pass (x := .inLoop c) rfl (fun _ _ => .inl (by simp)) harr⟩
      | panic ch => exact ⟨_, a₁, w₁, hq, .pass (x := .inLoop c) rfl (fun _ _ => .inl (by simp)) harr⟩
      | outgrown => exact ⟨_, a₁, w₁, hq, .pass (x := .inLoop c) rfl (fun _ _ => .inl (by simp)) harr⟩
  obtain ⟨e, a', w', hq, harr⟩ := key m w a h0
  exact ⟨e, a', w', hq, .of_steps (.one step_loop) harr⟩
theorem oB (w : World) (k : Nat) (o : Obj) : Fr (fun j => j = k) w (w.putObj k o) :=
  ⟨rfl, rfl, rfl, fun _ => Nat.le_refl _, by simp [World.putObj], fun j hj hn => by simp [World.putObj, Ne.symm hn]⟩
/-- the head's block turns -/
theorem Cur.putHead {k : Nat} {o o' : Obj} (h : Cur F Γ ([(k, o)] :: L) w) : Cur F Γ ([(k, o')] :: L) (w.putObj k o') := by
  have hk : w.heap[k]? = some o := h.loc _ (List.mem_cons_self ..) (k, o) (List.mem_singleton.2 rfl)
  have he : Eff Γ Γ [[(k, o)]] [[(k, o')]] w (w.putObj k o') := by
    have hn : Γ k = none := h.out _ (List.mem_cons_self ..) (k, o) (List.mem_singleton.2 rfl)
    refine ⟨(oB w k o').mono fun j hj => ⟨_, List.mem_singleton.2 rfl, (k, o), List.mem_singleton.2 rfl, hj.symm⟩, fun b x hb => ?_, Gh.refl _, fun b x hb => .inl ⟨x, hb⟩, ?_, ?_, ?_, by simp⟩
    · have hb' := h.sat b x hb
      have : k ≠ b := fun e => by subst e; rw [hn] at hb; cases hb
      simpa [World.putObj, this] using hb'
    · intro r hr p hp
      cases List.mem_singleton.1 hr
      cases List.mem_singleton.1 hp
      simp [World.putObj, bP hk]
    · intro r hr p hp
      cases List.mem_singleton.1 hr
      cases List.mem_singleton.1 hp
      exact .inl ⟨_, List.mem_singleton.2 rfl, (k, o), List.mem_singleton.2 rfl, rfl⟩
    · intro r hr p hp
      cases List.mem_singleton.1 hr
      cases List.mem_singleton.1 hp
      exact hn
  exact Cur.eff (U := [[(k, o)]]) (R := L) h he
/-- a range over a function that makes no round -/
theorem zI (hcl : ClOK P Γ R.cl) {g : Operand} {ps : Array Tmp} {as bo : Code} (hr : rfA R.cl (rho g s.E) s = some r) (h : SX P R.N F Γ β0 s a w) : (Code.rangeFunc g ps as bo).wp P (PX P R.N F Γ β0 r) a w := by
  obtain ⟨β, L, hb, h⟩ := h
  unfold rfA at hr
  split at hr
  · rename_i f caps hg hds
    obtain ⟨⟨v, H', n'⟩, h1, h2⟩ := ab hr
    cases h2
    have hv := h.eval g
    rw [hg] at hv
    generalize hu : a.eval g = u at hv
    cases hv with
    | fn f1 f2 =>
      rename_i fs lb
      cases f1
      have had : a.defers = [] := by
        have := h.ds
        rw [hds] at this
        cases hd : a.defers with
        | nil => rfl
        | cons x l => rw [hd] at this; exact this.elim
      refine (wpIn_wide (n := 0)).1 (wpIn_rangeFunc (F := Fence.wide) fun fn _ => ?_)
      obtain ⟨rec, hrec⟩ : ∃ rec : Loop, rec = { state := .ready, pending := none, fn, tmps := a.tmps, params := ps, assign := as, body := bo, defers := w.heap.size } := ⟨_, rfl⟩
      obtain ⟨W1, hW1⟩ : ∃ W1, W1 = (w.alloc (.deferred (some []))).alloc (.loop { state := .ready, pending := none, fn, tmps := a.tmps, params := ps, assign := as, body := bo, defers := w.heap.size }) := ⟨_, rfl⟩
      have hc1 := h.cur.new (.deferred (some []))
      have hc2 := hc1.new (.loop rec)
      rw [World.size_alloc] at hc2
      rw [hrec, ← hW1, ← hrec] at hc2
      have hcL : Cur F Γ L W1 := hc2.sub ((List.sublist_cons_self _ _).trans (List.sublist_cons_self _ _))
      obtain ⟨h6, h7⟩ := hcl _ _ _ _ _ _ _ h1 β L (.func (.yield (w.heap.size + 1)) #[] #[] :: lb) W1 (.cons (.yl _) f2) h.mh hcL.pre
      refine ⟨w.heap.size + 1, [{ target := .collected w.heap.size, args := #[] }], W1, { target := .fn (.func f) lb.toArray, args := #[.func (.yield (w.heap.size + 1)) #[] #[]] }, W1, f, #[.func (.yield (w.heap.size + 1)) #[] #[]] ++ lb.toArray, W1, hW1 ▸ run_enterLoop_outer _ _ _ _ _, ?_, fun _ _ => trivial, ?_, fun h => absurd h (by simp [Fence.wide]), ?_⟩
      · simp only [resolve, rangeCall, hu]
        simp [Deferred.ofValue, Act.eval]
      · simp [invoke, h6]
      · refine callsIn_wide.2 ?_
        have e0 : (#[.func (.yield (w.heap.size + 1)) #[] #[]] ++ lb.toArray : Array Value) = (.func (.yield (w.heap.size + 1)) #[] #[] :: lb).toArray := by simp
        rw [e0]
        refine h7.mono ?_
        rintro e w' ⟨β', L', x, g1, rfl, g2, g3, g4⟩
        have hc3 : Cur F Γ (L' ++ [[(w.heap.size + 1, .loop rec)], [(w.heap.size, .deferred (some []))]]) w' := by
          refine Cur.eff (U := L) (Cur.permL hc2 ?_) g4
          exact List.perm_append_comm (l₁ := L) (l₂ := [[(w.heap.size + 1, .loop rec)], [(w.heap.size, .deferred (some []))]])
        have hc4 : Cur F Γ ([(w.heap.size + 1, .loop rec)] :: (L' ++ [[(w.heap.size, .deferred (some []))]])) w' := hc3.permL (List.perm_middle (l₁ := L') (a := [(w.heap.size + 1, Obj.loop rec)]) (l₂ := [[(w.heap.size, Obj.deferred (some []))]])).symm
        have hl : w'.heap[w.heap.size + 1]? = some (.loop rec) := hc4.loc _ (List.mem_cons_self ..) (_, .loop rec) (List.mem_singleton.2 rfl)
        refine ⟨none, w'.putObj (w.heap.size + 1) (.loop { rec with state := .exhausted, pending := none }), ?_, rfl, ?_⟩
        · have h7 := run_endLoop (P := P) hl (by rw [hrec]; simp)
          rw [show rec.pending = none by rw [hrec]] at h7
          exact h7
        · have hc5 : Cur F Γ (L' ++ [[(w.heap.size, .deferred (some []))]]) (w'.putObj (w.heap.size + 1) (.loop { rec with state := .exhausted, pending := none })) := (hc4.putHead (o' := .loop { rec with state := .exhausted, pending := none })).sub (List.sublist_cons_self _ _)
          have hn' : L'.length = n' := g3.len
          have hm := g3.ext.setNew (id := n') (p := (w.heap.size, 0, 0)) (ao := .dfr) (row := [(w.heap.size, .deferred (some []))]) (Nat.lt_succ_self _) (g3.new _ (Nat.le_refl _)) ⟨_, rfl, rfl⟩
          have el : (L' ++ [[]]).set n' [(w.heap.size, Obj.deferred (some []))] = L' ++ [[(w.heap.size, .deferred (some []))]] := by rw [← hn']; simp
          rw [el] at hm
          have hb1 : β'.le (bup β' n' (w.heap.size, 0, 0)) := db (g3.new _ (Nat.le_refl _))
          refine ⟨_, _, hb.trans (g1.trans hb1), h.size, fun t => (h.env t).mono (g1.trans hb1), hm, hc5, ?_⟩
          rw [had]
          exact ⟨⟨_, ep, rfl⟩, trivial⟩
  · cases hr
end
end
end Fw
end Go.Proofs.YtogmioecalmalaaGreat
namespace Go.Proofs.YtogmioecalmalaaGreat
namespace Fw
set_option linter.unusedVariables false
set_option linter.unusedSimpArgs false
set_option linter.unusedSectionVars false
open Go.RowKit Go.MapKept
noncomputable section
variable {P : Program} {F : Fm} {Γ : Gh} {β β0 : Bt} {L : List Rowb} {w : World} {N : Nat} {s s' : St} {a : Act} {R : Rn} {r : Ex × St}
theorem wy {c : Code} {body : St → Option (Ex × St)} (hb : ∀ s r a w, body s = some r → SX P N F Γ β0 s a w → c.wp P (PX P N F Γ β0 r) a w) {n : Nat} (h : sf n body s = some r) (hs : SX P N F Γ β0 s a w) :
    (Code.loop c).wp P (PX P N F Γ β0 r) a w := by
  refine tu (fun m a w => ∃ s, sf m body s = some r ∧ SX P N F Γ β0 s a w) n ⟨s, h, hs⟩ ?_
  rintro m a w ⟨s, hl, hs⟩
  cases m with
  | zero => cases hl
  | succ m =>
    obtain ⟨q, hq, hk⟩ := ow (show rk (body s) (fun s' => sf m body s') = some r from hl)
    refine wp_mono (hb _ _ _ _ hq hs) ?_
    rintro e a' w' ⟨rfl, hx⟩
    rcases hk with ⟨h1, h2⟩ | ⟨h1, rfl⟩
    · rw [h1]
      exact ⟨m, Nat.lt_succ_self m, _, h2, hx⟩
    · obtain ⟨x, s2⟩ := r
      cases x with
      | nor => exact absurd rfl h1
      | exit i => exact ⟨rfl, hx⟩
      | ret => exact ⟨rfl, hx⟩
theorem ud [TbOK R.P P] (hcl : ClOK P Γ R.cl) (hex : ExOK P Γ R.ex) (c : Code) : (∀ p ∈ regs c, DrOK P Γ R.N R.dr p.1 p.2) → ∀ {s : St} {r : Ex × St} {a : Act} {w : World}, runC c R s = some r → SX P R.N F Γ β0 s a w → c.wp P (PX P R.N F Γ β0 r) a w := by
  induction c with
  | skip => intro hdr s r a w h hs; cases h; exact wp_skip ⟨rfl, hs⟩
  | label l => intro hdr s r a w h hs; cases h; exact wp_label ⟨rfl, hs⟩
  | exit i => intro hdr s r a w h hs; cases h; exact wp_exit ⟨rfl, hs⟩
  | ret => intro hdr s r a w h hs; cases h; exact wp_ret ⟨rfl, hs⟩
  | goto l => intro hdr s r a w h hs; cases h
  | refuse l => intro hdr s r a w h hs; cases h
  | region id ops draw =>
    intro hdr s r a w h hs
    obtain ⟨s', h1, rfl⟩ := uS (show norA _ = some r from h)
    cases draw with
    | true => exact hdr (id, ops) (by simp [regs]) _ _ h1 _ _ _ _ hs
    | false =>
      have h2 : runL ops.toList ops R s = some s' := h1
      exact wp_region_list (tJ hcl hex h2 hs fun a w hx => ⟨rfl, hx⟩)
  | seq x y ihx ihy =>
    intro hdr s r a w h hs
    obtain ⟨q, hq, hk⟩ := ow (show rk (runC x R s) (fun s' => runC y R s') = some r from h)
    refine wp_seq (wp_mono (ihx (fun p hp => hdr p (by simp [regs, hp])) hq hs) ?_)
    rintro e a' w' ⟨rfl, hx⟩
    rcases hk with ⟨h1, h2⟩ | ⟨h1, rfl⟩
    · rw [h1]; exact ihy (fun p hp => hdr p (by simp [regs, hp])) h2 hx
    · obtain ⟨x, s2⟩ := r
      cases x with
      | nor => exact absurd rfl h1
      | exit i => exact ⟨rfl, hx⟩
      | ret => exact ⟨rfl, hx⟩
  | cond c x y ihx ihy =>
    intro hdr s r a w h hs
    have h' : @Option.rec Bool (fun _ => Option (Ex × St)) none (fun g => @Bool.rec (fun _ => Option (Ex × St)) (runC y R s) (runC x R s) g) (uq (rho c s.E)) = some r := h
    cases hc : uq (rho c s.E) with
    | none => rw [hc] at h'; cases h'
    | some g =>
      rw [hc] at h'
      have hv : a.eval c = .bool g := by
        obtain ⟨β, L, _, hsr⟩ := hs
        have he := hsr.eval c
        unfold uq at hc
        split at hc
        · rename_i g' hg
          cases hc
          rw [hg] at he
          exact he.vinv
        · cases hc
      refine wp_cond_split (t := g) hv (fun hg => ?_) (fun hg => ?_)
      · subst hg; exact ihx (fun p hp => hdr p (by simp [regs, hp])) h' hs
      · subst hg; exact ihy (fun p hp => hdr p (by simp [regs, hp])) h' hs
  | block id c ih =>
    intro hdr s r a w h hs
    have h' : blkA id (runC c R s) = some r := h
    cases hq : runC c R s with
    | none => rw [hq] at h'; cases h'
    | some q =>
      rw [hq] at h'
      refine wp_block (wp_mono (ih (fun p hp => hdr p (by simp [regs, hp])) hq hs) ?_)
      rintro e a' w' ⟨rfl, hx⟩
      obtain ⟨x, s2⟩ := q
      cases x with
      | nor => cases h'; exact ⟨rfl, hx⟩
      | ret => cases h'; exact ⟨rfl, hx⟩
      | exit i =>
        have h2 : @Bool.rec (fun _ => Option (Ex × St)) (some (.exit i, s2)) (some (.nor, s2)) (Nat.beq i id) = some r := h'
        show Exit.inBlock id _ (.exit i) a' w'
        unfold Exit.inBlock
        by_cases hi : i = id
        · subst hi
          rw [Nat.beq_refl] at h2
          cases h2
          simp only [if_true]
          exact ⟨rfl, hx⟩
        · rw [Tr.beq_ff hi] at h2
          cases h2
          simp only [hi, if_false]
          exact ⟨rfl, hx⟩
  | loop c ih =>
    intro hdr s r a w h hs
    exact wy (body := runC c R) (fun s r a w h hs => ih (fun p hp => hdr p (by simp [regs, hp])) h hs) (show sf 1000000 (runC c R) s = some r from h) hs
  | rangeFunc g ps as bo _ _ =>
    intro hdr s r a w h hs
    exact zI hcl h hs
  | scope c ih =>
    intro hdr s r a w h hs
    refine wp_scope_straight (wp_mono (ih (fun p hp => hdr p (by simp [regs, hp])) (show runC c R s = some r from h) hs) ?_)
    rintro e a' w' ⟨rfl, hx⟩
    obtain ⟨x, s2⟩ := r
    cases x <;> exact ⟨rfl, hx⟩
end
end Fw
end Go.Proofs.YtogmioecalmalaaGreat
namespace Go.Proofs.YtogmioecalmalaaGreat
namespace Fw
set_option linter.unusedVariables false
set_option linter.unusedSimpArgs false
set_option linter.unusedSectionVars false
open Go.RowKit Go.MapKept
noncomputable section
theorem sc : ∀ (l : List AV) (i : Nat) (E : Tr AV) (t : Nat), (envA l i E).get t = if i ≤ t ∧ t < i + l.length then l[t - i]? else E.get t
  | [], i, E, t => by
    rw [if_neg (by rw [List.length_nil]; omega)]; rfl
  | a :: l, i, E, t => by
    show (envA l (i + 1) (E.set i (some a))).get t = _
    rw [sc l (i + 1) (E.set i (some a)) t, Tr.get_set]
    by_cases h1 : i + 1 ≤ t ∧ t < i + 1 + l.length
    · rw [if_pos h1, if_pos (by simp; omega)]
      obtain ⟨k, hk⟩ : ∃ k, t - i = k + 1 := ⟨t - i - 1, by omega⟩
      rw [hk, show t - (i + 1) = k by omega]; simp
    · rw [if_neg h1]
      by_cases h2 : t = i
      · subst h2; rw [if_pos rfl, if_pos (by simp)]; simp
      · rw [if_neg h2, if_neg (by simp; omega)]
section
variable {P : Program} {F : Fm} {Γ : Gh} {β β0 : Bt} {L : List Rowb} {w : World} {N : Nat} {T : Tb}
theorem yN {args : List AV} {vs : List Value} (hv : VRs β args vs) (k t : Nat) : VR β (rho (.tmp t) (envA args 0 .lf)) ((vs.toArray ++ Array.replicate k undef).getD t undef) := by
  show VR β (@Option.rec AV (fun _ => AV) (.v undef) (fun a => a) ((envA args 0 .lf).get t)) _
  rw [sc]
  have hl := hv.len
  by_cases ht : t < args.length
  · rw [if_pos ⟨Nat.zero_le _, by omega⟩]
    obtain ⟨v, h1, h2⟩ := hv.get (i := t) (List.getElem?_eq_getElem ht)
    have e1 : (vs.toArray ++ Array.replicate k undef).getD t undef = v := by
      rw [Array.getD_eq_getD_getElem?, Array.getElem?_append]
      simp only [List.size_toArray, show t < vs.length by omega, if_true]
      simp [h1]
    rw [e1, Nat.sub_zero, List.getElem?_eq_getElem ht]
    exact h2
  · rw [if_neg (by omega), Tr.get_lf]
    have e1 : (vs.toArray ++ Array.replicate k undef).getD t undef = undef := by
      rw [Array.getD_eq_getD_getElem?, Array.getElem?_append]
      simp only [List.size_toArray, show ¬ t < vs.length by omega, if_false, Array.getElem?_replicate]
      split <;> rfl
    rw [e1]
    exact .v _
theorem qE [TbOK T P] {H : Hp} {E : Tr AV} {a : Act} (hL : HL P β H.get L) (he : ∀ t, VR β (rho (.tmp t) E) (a.tmps.getD t undef)) : ∀ {rs : List ResultVar} {avs : List AV}, resA T E H rs = some avs → ∃ vs, VRs β avs vs ∧ ∀ w, Cur F Γ L w → fg P (fun t => a.tmps.getD t undef) w rs vs
  | [], _, h => by cases h; exact ⟨[], .nil, fun _ _ => trivial⟩
  | .tmp t :: l, avs, h => by
    obtain ⟨r, h1, h2⟩ := ab (show bd (resA T E H l) _ = some avs from h)
    cases h2
    obtain ⟨vs, g1, g2⟩ := qE hL he h1
    exact ⟨_, .cons (he t) g1, fun w hw => ⟨rfl, g2 w hw⟩⟩
  | .cell c t :: l, avs, h => by
    unfold resA at h
    split at h
    · rename_i b o hc
      split at h
      · rename_i cs e hb
        obtain ⟨x, hx, h⟩ := ab h
        obtain ⟨r, h1, h2⟩ := ab h
        cases h2
        obtain ⟨vs, g1, g2⟩ := qE hL he h1
        have hv := he c
        rw [hc] at hv
        obtain ⟨z, f1, f2⟩ := sd (T := T) (t := t) (r := x) (rd := some b) hL hv (by show (match H.get b with | some (.cells cs _) => bd (rdC T t cs o) fun a => some (a, some b) | _ => none) = _; rw [hb]; show bd (rdC T t cs o) _ = _; rw [hx]; rfl)
        refine ⟨z :: vs, .cons f1 g1, fun w hw => ⟨?_, f2 w hw.lies, g2 w hw⟩⟩
        generalize hq : a.tmps.getD c undef = u at hv
        cases hv with
        | ptr _ => exact ⟨_, hq⟩
      · cases h
    · cases h
theorem xj {avs : List AV} {vs : List Value} (h : VRs β avs vs) : VR β (retA avs) (retW vs) := by
  cases h with
  | nil => exact .tup .nil
  | cons h t =>
    cases t with
    | nil => exact h
    | cons h2 t => exact .tup (.cons h (.cons h2 t))
/-- the results, at the end -/
theorem zD [TbOK T P] {H : Hp} {n : Nat} {E : Tr AV} {a : Act} {fn : Func} (hM : MH P β H.get n L) (hw : Cur F Γ L w) (he : ∀ t, VR β (rho (.tmp t) E) (a.tmps.getD t undef)) {avs : List AV} (h : resA T E H fn.results.toList = some avs) :
    ∃ x, VR β (retA avs) x ∧ (results fn a.tmps).run P w = .ok x w := by
  obtain ⟨vs, h1, h2⟩ := qE (F := F) (Γ := Γ) hM.hl he h
  exact ⟨retW vs, xj h1, ez (N := ⟨a.tmps.size, a.defers⟩) (σ := fun t => a.tmps.getD t undef) ⟨rfl, rfl, fun _ => rfl⟩ (by simp) (h2 w hw)⟩
theorem vO {o : Oper} (h : wk o = true) : o.guard = none ∧ ∀ (ρ : Operand → Value) w, (execOp ρ o).run P w = .ok .recover w := by
  unfold wk at h
  split at h
  · rename_i args tys ho hg
    refine ⟨hg, fun ρ w => ?_⟩
    have ha : args = #[] := by
      rw [← Array.toArray_toList (xs := args)]
      cases hl : args.toList with
      | nil => rfl
      | cons x l => rw [hl] at h; cases h
    subst ha
    simp [execOp, ho, resolve, invoke, builtin, Sem.run_pure, Sem.run_bind]
  · cases h
/-- a deferred closure that recovers first of all, and finds nothing -/
theorem qJ {fcl : FuncId} {fn : Func} {id d : Nat} {o : Oper} {rest : Code} {args : Array Value} {R : World → Prop} (hf : P.funcs[fcl]? = some fn) (hb : fn.body = some (.seq (.region id #[o] false) rest)) (hr : fn.results = #[])
    (ho : ∀ (ρ : Operand → Value) w, (execOp ρ o).run P w = .ok .recover w) (hg : o.guard = none) (hd : o.dst = some d)
    (h : rest.wp P (fun e a w => (e = .normal ∨ e = .ret) ∧ a.defers = [] ∧ R w) (({ tmps := args ++ Array.replicate (fn.ntmps - args.size) undef, defers := [] } : Act).put (some d) .nilIface) w) :
    CallsD P fcl args .returning w fun e u' w' => (∃ v, e = .returned v) ∧ u' = .returning ∧ R w' := by
  refine callsD_of_wpS hf hb fun c₀ cs hu => ?_
  apply wpS_seq
  apply wpS_region
  have hrng : List.range (#[o] : Array Oper).size = [0] := rfl
  have hget : (#[o] : Array Oper)[0]? = some o := rfl
  have hwant : ∀ y, Region.wanted o y = true := fun y => by simp [Region.wanted, hg]
  rw [hrng]
  unfold wpOpsS
  rw [hget]
  simp only [hwant, if_true, ho]
  have hrec : recoverD (c₀ :: cs) = none := by
    unfold recoverD
    simp only [hu]
  rw [hrec]
  simp only
  unfold wpOpsS
  rw [hd]
  have hc : (c₀ :: cs) = { c₀ with mode := .returning } :: cs := by rw [← hu]
  refine wpS_of_wp (wp_mono h ?_)
  rintro e a w' ⟨he | he, h2, h3⟩
  · subst he; exact ⟨h2, _, hc, _, results_none hr a.tmps P w', ⟨_, rfl⟩, rfl, h3⟩
  · subst he; exact ⟨h2, _, hc, _, results_none hr a.tmps P w', ⟨_, rfl⟩, rfl, h3⟩
theorem tv {l : List Deferred} (h : DRs β [] l) : l = [] := by
  cases l with
  | nil => rfl
  | cons x l => exact h.elim
theorem w7 {x : Df} {l : List Deferred} (h : DRs β [x] l) : ∃ d, l = [d] ∧ DR β x d := by
  cases l with
  | nil => exact h.elim
  | cons d l => obtain ⟨h1, h2⟩ := h; exact ⟨d, by rw [tv h2], h1⟩
end
end
end Fw
end Go.Proofs.YtogmioecalmalaaGreat
namespace Go.Proofs.YtogmioecalmalaaGreat
namespace Fw
set_option linter.unusedVariables false
set_option linter.unusedSimpArgs false
set_option linter.unusedSectionVars false
open Go.RowKit Go.MapKept
noncomputable section
section
variable {P : Program} {F : Fm} {Γ : Gh} {β β0 : Bt} {L : List Rowb} {w : World} {N : Nat} {T : Tb} {ex : Xf} {dr : FuncId → Cl → Nat → Nat → Array Oper → St → Option St} {cl : Cl}
theorem Cur.putObjV (h : Cur F Γ L w) {i k : Nat} {o o' : Obj} (hi : L[i]? = some [(k, o)]) : Cur F Γ (L.set i [(k, o')]) (w.putObj k o') := by
  have hk : w.heap[k]? = some o := h.loc _ (List.mem_of_getElem? hi) (k, o) (by simp)
  exact h.set hi ((oB w k o').mono fun j hj => ⟨(k, o), by simp, hj.symm⟩)
    (fun p hp => by rw [List.mem_singleton.1 hp]; exact World.putObj_heap_same (bP hk))
    (fun p hp => .inl ⟨(k, o), by simp, by rw [List.mem_singleton.1 hp]⟩) (by simp)

/-- what the frame of a call begins with -/
theorem SR.start {args : List AV} {vs : List Value} {H : Hp} {n : Nat} (hv : VRs β args vs) (hle : Nat.ble args.length N = true) (hM : MH P β H.get n L) (hw : Cur F Γ L w) :
    SR P N F Γ β L ⟨envA args 0 .lf, H, n, []⟩ { tmps := vs.toArray ++ Array.replicate (N - vs.toArray.size) undef, defers := [] } w := by
  have h1 := hv.len
  have h2 := Nat.le_of_ble_eq_true hle
  exact ⟨by simp; omega, fun t => yN hv _ t, hM, hw, trivial⟩
/-- the deferred closure -/
theorem vK [TbOK T P] (hcl : ClOK P Γ cl) (hex : ExOK P Γ ex) (hdr : ∀ f fn c, T.fs.get f = some fn → fn.body = some c → ∀ p ∈ regs c, DrOK P Γ fn.ntmps (dr f cl fn.ntmps) p.1 p.2) {f : FuncId} {caps : List AV} {vs : List Value} {H H' : Hp} {n n' : Nat} (hv : VRs β caps vs) (hM : MH P β H.get n L) (hw : Cur F Γ L w)
    (h : wC T (fun f N c => runC c ⟨T, ex, cl, dr f cl N, N⟩) f caps H n = some (H', n')) :
    (∀ as w, (callFunc f as).run P w = .ok (.enter f as) w) ∧ CallsD P f vs.toArray .returning w fun e u' w' => (∃ v, e = .returned v) ∧ u' = .returning ∧ ∃ β' L', β.le β' ∧ MH P β' H'.get n' L' ∧ Cur F Γ L' w' := by
  unfold wC at h
  obtain ⟨fn, hf, hA⟩ := ab h
  obtain ⟨c, hb, hB⟩ := ab hA
  obtain ⟨hck, hC⟩ := aN hB
  clear h hA hB
  refine ⟨TbOK.call (T := T) f fn hf, ?_⟩
  have hle := av hck
  have hr : fn.results = #[] := by
    have := ap hck
    rw [← Array.toArray_toList (xs := fn.results)]
    cases hl : fn.results.toList with
    | nil => rfl
    | cons x l => rw [hl] at this; cases this
  split at hC
  · rename_i id ops rest
    split at hC
    · rename_i o ho
      split at hC
      · rename_i d hd
        obtain ⟨hck2, hD⟩ := aN hC
        obtain ⟨r, hr1, h⟩ := ab hD
        clear hC hD
        have hrec := vO (P := P) (av hck2)
        have hdn := ap hck2
        have eo : ops = #[o] := by rw [← Array.toArray_toList (xs := ops), ho]
        subst eo
        refine qJ (R := fun w' => ∃ β' L', β.le β' ∧ MH P β' H'.get n' L' ∧ Cur F Γ L' w') (TbOK.fs (T := T) f fn hf) hb hr hrec.2 hrec.1 hd ?_
        have s0 := SR.start (N := fn.ntmps) hv hle hM hw
        have s1 := s0.put (d := some d) hdn (Bt.le.refl _) (.v .nilIface) hM hw
        let R : Rn := ⟨T, ex, cl, dr f cl fn.ntmps, fn.ntmps⟩
        haveI : TbOK R.P P := (inferInstance : TbOK T P)
        have key := ud (R := R) (β0 := β) hcl hex rest (fun p hp => hdr f fn _ hf hb p (by simp [regs, hp])) (show runC rest R _ = some r from hr1) ⟨β, L, Bt.le.refl _, s1⟩
        refine wp_mono key ?_
        rintro e a w' ⟨rfl, β', L', g1, g2⟩
        obtain ⟨x, s2⟩ := r
        have fin : ∀ (hk : (match s2.ds with | [] => some (s2.H, s2.n) | _ => none) = some (H', n')), a.defers = [] ∧ ∃ β' L', β.le β' ∧ MH P β' H'.get n' L' ∧ Cur F Γ L' w' := by
          intro hk
          have hd2 := g2.ds
          split at hk
          · rename_i hds
            cases hk
            rw [hds] at hd2
            exact ⟨tv hd2, β', L', g1, g2.mh, g2.cur⟩
          · cases hk
        cases x with
        | exit i => cases h
        | nor =>
          refine ⟨.inl rfl, fin ?_⟩
          revert h
          show (match Ex.nor, s2.ds with | .exit _, _ => none | _, [] => some (s2.H, s2.n) | _, _ => none) = some (H', n') → _
          cases s2.ds <;> exact fun h => h
        | ret =>
          refine ⟨.inr rfl, fin ?_⟩
          revert h
          show (match Ex.ret, s2.ds with | .exit _, _ => none | _, [] => some (s2.H, s2.n) | _, _ => none) = some (H', n') → _
          cases s2.ds <;> exact fun h => h
      · cases hC
    · cases hC
  · cases hC
/-- a call does as it is told -/
theorem rZ [TbOK T P] (hex : ExOK P Γ ex) (hdr : ∀ f fn c cl, T.fs.get f = some fn → fn.body = some c → ClOK P Γ cl → ∀ p ∈ regs c, DrOK P Γ fn.ntmps (dr f cl fn.ntmps) p.1 p.2) : ∀ d, ClOK P Γ (ry T ex dr d)
  | 0 => by intro f args H n v H' n' h; cases h
  | d + 1 => by
    have ih := rZ hex hdr d
    intro f args H n v H' n' h β L vs w hv hM hp
    generalize hcd : ry T ex dr d = cd at ih
    have h' : bd (T.fs.get f) (fun fn => bd fn.body fun c => ck (Nat.ble args.length fn.ntmps)
      (bd (runC c ⟨T, ex, cd, dr f cd fn.ntmps, fn.ntmps⟩ ⟨envA args 0 .lf, H, n, []⟩) fun r =>
        endA r.1 (bd (qI T (fun f N c => runC c ⟨T, ex, cd, dr f cd N, N⟩) r.2.ds r.2.H r.2.n) fun q => bd (resA T r.2.E q.1 fn.results.toList) fun vs => some (retA vs, q.1, q.2)))) = some (v, H', n') := by
      rw [← hcd]; exact h
    clear h
    obtain ⟨fn, hf, h⟩ := ab h'
    obtain ⟨c, hb, h⟩ := ab h
    obtain ⟨hle, h⟩ := aN h
    obtain ⟨r, hr, h⟩ := ab h
    refine ⟨TbOK.call (T := T) f fn hf, ?_⟩
    have hf' := TbOK.fs (T := T) f fn hf
    let R : Rn := ⟨T, ex, cd, dr f cd fn.ntmps, fn.ntmps⟩
    haveI : TbOK R.P P := (inferInstance : TbOK T P)
    obtain ⟨F, hF⟩ : ∃ F : Fm, F = ⟨ids L, w, Γ⟩ := ⟨_, rfl⟩
    have hw : Cur F Γ L w := hF ▸ hp.start
    have key := ud (R := R) (F := F) (β0 := β) ih hex c (hdr f fn c _ hf hb ih) (show runC c R _ = some r from hr) ⟨β, L, Bt.le.refl _, SR.start hv hle hM hw⟩
    obtain ⟨x, s2⟩ := r
    have hx : x = .nor ∨ x = .ret := by cases x with | exit i => cases h | nor => exact .inl rfl | ret => exact .inr rfl
    have h2 : bd (qI T (fun f N c => runC c ⟨T, ex, cd, dr f cd N, N⟩) s2.ds s2.H s2.n) (fun q => bd (resA T s2.E q.1 fn.results.toList) fun vs => some (retA vs, q.1, q.2)) = some (v, H', n') := by
      rcases hx with rfl | rfl <;> exact h
    clear h h'
    obtain ⟨⟨H2, n2⟩, hlv, h3⟩ := ab h2
    obtain ⟨avs, hres, h4⟩ := ab h3
    cases h4
    -- what is behind, once the rows are known
    have fin : ∀ {a : Act} {w' : World} {β1 β' : Bt} {L' : List Rowb}, β.le β1 → β1.le β' → (∀ t, VR β1 (rho (.tmp t) s2.E) (a.tmps.getD t undef)) → MH P β' H2.get n2 L' → Cur F Γ L' w' →
        ∃ x, (results fn a.tmps).run P w' = .ok x w' ∧ (∃ β' L' x', β.le β' ∧ Ending.returned x = .returned x' ∧ VR β' (retA avs) x' ∧ MH P β' H2.get n2 L' ∧ Eff Γ Γ L L' w w') := by
      intro a w' β1 β' L' g0 g1 g2 g3 g4
      obtain ⟨x, e1, e2⟩ := zD (T := T) (F := F) (Γ := Γ) g3 g4 (fun t => (g2 t).mono g1) hres
      exact ⟨x, e2, β', L', x, g0.trans g1, rfl, e1, g3, (hF ▸ g4 : Cur ⟨ids L, w, Γ⟩ Γ L' w').toEff⟩
    unfold qI at hlv
    split at hlv
    · rename_i hds
      cases hlv
      refine calls_of_wp hf' hb (wp_mono key ?_)
      rintro e a w' ⟨rfl, β1, L1, g1, g2⟩
      have hd2 := g2.ds
      rw [hds] at hd2
      obtain ⟨y, e1, e2⟩ := fin g1 (Bt.le.refl _) g2.env g2.mh g2.cur
      rcases hx with rfl | rfl <;> exact ⟨tv hd2, y, e1, e2⟩
    · rename_i b hds
      split at hlv
      · rename_i hH
        cases hlv
        refine callsIn_wide.1 (callsIn_of_wp_marks (F := Fence.wide) (n := 0) hf' hb trivial ((wpIn_wide (n := 0)).2 (wp_mono key ?_)) rfl)
        rintro e a w' ⟨rfl, β1, L1, g1, g2⟩
        have hd2 := g2.ds
        rw [hds] at hd2
        obtain ⟨dd, e1, g, e2, e3⟩ := w7 hd2
        subst e3
        obtain ⟨row, hrow, g', e4, e5⟩ := g2.mh.at_ hH
        rw [e2] at e4
        cases e4
        subst e5
        have hg : w'.heap[g]? = some (.deferred (some [])) := g2.cur.at_ hrow (p := (g, .deferred (some []))) (by simp)
        have hblt := g2.mh.lt hH
        have hcur : Cur F Γ (L1.set b []) (w'.putObj g (.deferred none)) := by
          have := (Cur.putObjV (o' := .deferred none) g2.cur hrow).kill b
          rwa [List.set_set] at this
        obtain ⟨y, f1, f2⟩ := fin (a := a) g1 (Bt.le.refl _) g2.env (g2.mh.kill hblt) hcur
        have hL : LeavesInM Fence.wide 0 P fn a.tmps (fun e w' => ∃ β' L' x', β.le β' ∧ e = .returned x' ∧ VR β' (retA avs) x' ∧ MH P β' (Tr.set s2.H b none).get s2.n L' ∧ Eff Γ Γ L L' w w') a.defers .returning w' := by
          rw [e1]
          exact ⟨by simp, .inl ⟨g, _, rfl, run_takeDeferred hg, y, f1, f2⟩⟩
        rcases hx with rfl | rfl <;> exact hL
      · cases hlv
    · rename_i f2 caps hds
      refine calls_of_wp_defers hf' hb (wp_mono key ?_)
      rintro e a w' ⟨rfl, β1, L1, g1, g2⟩
      have hd2 := g2.ds
      rw [hds] at hd2
      obtain ⟨dd, e1, cs, e2, e3⟩ := w7 hd2
      subst e3
      obtain ⟨i1, i2⟩ := vK (T := T) ih hex (fun f fn c hf hb => hdr f fn c _ hf hb ih) e2 g2.mh g2.cur hlv
      have hL : Leaves P fn a.tmps (fun e w' => ∃ β' L' x', β.le β' ∧ e = .returned x' ∧ VR β' (retA avs) x' ∧ MH P β' H2.get n2 L' ∧ Eff Γ Γ L L' w w') a.defers .returning w' := by
        rw [e1]
        refine leaves_cons (by simp) (f := f2) (args := cs.toArray) (by simp [invoke, i1]) (i2.mono ?_)
        rintro e u' w2 ⟨⟨v, rfl⟩, rfl, β2, L2, k1, k2, k3⟩
        exact fin (a := a) g1 k1 g2.env k2 k3
      rcases hx with rfl | rfl <;> exact hL
    · cases hlv
end
end
end Fw
end Go.Proofs.YtogmioecalmalaaGreat
namespace Go.Proofs.YtogmioecalmalaaGreat
namespace Fw
set_option linter.unusedVariables false
set_option linter.unusedSimpArgs false
set_option linter.unusedSectionVars false
open Go.RowKit Go.MapKept
noncomputable section
def isR (l : List Oper) (M i : Nat) : Bool := !M.testBit i && (match l[i]? with | some o => o.after.toList.all fun e => !Region.binds .any e || M.testBit e.on | none => false)
def ml (l : List Oper) (M i : Nat) (f : Option Nat) : Bool := (List.range l.length).all fun j => !isR l M j || Nat.beq j i || (match f with | some g => Nat.beq j g | none => false)
def seen (M i : Nat) : Nat := M ||| 1 <<< i
/-- operations that may float: they make a block, and read none -/
def oR (o : Oper) : Bool :=
  match o.op, o.guard with
  | .alloc _, none | .box _ _, none | .buildSlice _ _ _, none | .makeMap _ none, none => true
  | _, _ => false
/-- a quiet operation that reads nothing: it builds -/
def wE (o : Oper) : Bool :=
  match o.op, o.guard with
  | .build _ _, none => true
  | _, _ => false
/-- what floats came first, and then what is built of it -/
def altR (l : List Oper) (EM M g i : Nat) (r : List Pst) : Bool :=
  match r with
  | .c :: .q p :: _ => isR l (seen M g) p && (!Nat.beq p i && ((match l[p]? with | some o => wE o | none => false) && (ml l (seen M g) i (some p) && ml l (seen (seen M g) p) i none)))
  | _ => false
def gN (l : List Oper) (EM : Nat) : List Pst → Nat → Option Nat → Nat → Bool
  | [], M, none, _ => (List.range l.length).all fun j => M.testBit j
  | .q i :: r, M, f, k + 1 => isR l M i && (!EM.testBit i && gN l EM r (seen M i) f k)
  | .e i :: r, M, none, k + 1 => isR l M i && (EM.testBit i && (ml l M i none && gN l EM r (seen M i) none k))
  | .e i :: r, M, some g, k + 1 => isR l M i && (EM.testBit i && (!Nat.beq i g && (ml l M i (some g) && ((ml l (seen M g) i none || altR l EM M g i r) && gN l EM r (seen M i) (some g) k))))
  | .o g :: r, M, none, k => isR l M g && ((match l[g]? with | some o => oR o | none => false) && (EM.testBit g && gN l EM r M (some g) k))
  | .c :: r, M, some g, k + 1 => isR l M g && (ml l M g none && gN l EM r (seen M g) none k)
  | _, _, _, _ => false
/-- the operations that are no quiet ones, as bits -/
def u9 : List Pst → Nat
  | [] => 0
  | .e i :: r | .o i :: r => seen (u9 r) i
  | _ :: r => u9 r
def wt (l : List Oper) (pl : List Pst) : Bool := lexF l && gN l (u9 pl) pl 0 none l.length
/-- what has come up, as the model keeps it -/
structure LR (n M : Nat) (listed : Array Bool) : Prop where
  size : listed.size = n
  bit : ∀ j, j < n → listed.getD j true = M.testBit j
theorem LR.nil (n : Nat) : LR n 0 (Array.replicate n false) := ⟨by simp, fun j hj => by simp [Array.getD_eq_getD_getElem?, hj]⟩
theorem kg {M i j : Nat} : (seen M i).testBit j = (M.testBit j || decide (i = j)) := by
  unfold seen
  rw [Nat.testBit_or, Nat.shiftLeft_eq, Nat.one_mul, Nat.testBit_two_pow]
theorem LR.set {n M i : Nat} {listed : Array Bool} (h : LR n M listed) : LR n (seen M i) (listed.setIfInBounds i true) := by
  refine ⟨by simp [h.size], fun j hj => ?_⟩
  rw [kg, ← h.bit j hj]
  simp only [Array.getD_eq_getD_getElem?, Array.getElem?_setIfInBounds]
  by_cases hij : i = j
  · subst hij; simp [h.size, hj]
  · simp [hij]
theorem tz {l : List Oper} {M i : Nat} (h : isR l M i = true) : i < l.length := by
  have := ap h
  cases hl : l[i]? with
  | none => rw [hl] at this; cases this
  | some o => exact (List.getElem?_eq_some_iff.1 hl).1
theorem gF {l : List Oper} {M i : Nat} (h : isR l M i = true) : M.testBit i = false ∧ ∃ o, l[i]? = some o ∧ ∀ e ∈ o.after, Region.binds .any e = true → M.testBit e.on = true := by
  refine ⟨by simpa using av h, ?_⟩
  have h2 := ap h
  cases hl : l[i]? with
  | none => rw [hl] at h2; cases h2
  | some o =>
    rw [hl] at h2
    refine ⟨o, rfl, fun e he hb => ?_⟩
    have := List.all_eq_true.1 h2 e (by simpa using he)
    simpa [hb] using this
theorem bM {l : List Oper} (hE : ∀ (i : Nat) (o : Oper), l[i]? = some o → ∀ e ∈ o.after, Region.binds .any e = true → e.on < l.length) {M i : Nat} {listed : Array Bool} (h : LR l.length M listed) : i ∈ Region.ready .any l.toArray listed ↔ isR l M i = true := by
  have hb : ∀ k, k < l.length → listed.getD k false = M.testBit k := fun k hk => by
    rw [← h.bit k hk]
    simp only [Array.getD_eq_getD_getElem?]
    rw [Array.getElem?_eq_getElem (by rw [h.size]; exact hk)]; rfl
  constructor
  · intro hr
    obtain ⟨h1, o, ho, h2⟩ := mem_ready.1 hr
    have hl : l[i]? = some o := by simpa using ho
    have hi : i < l.length := (List.getElem?_eq_some_iff.1 hl).1
    unfold isR
    rw [hl]
    rw [h.bit i hi] at h1
    simp only [h1, Bool.not_false, Bool.true_and, List.all_eq_true]
    intro e he
    cases hbe : Region.binds .any e with
    | false => rfl
    | true =>
      have he' : e ∈ o.after := by simpa using he
      have h3 := h2 e he' hbe
      rw [hb e.on (hE i o hl e he' hbe)] at h3
      simp [h3]
  · intro hr
    obtain ⟨h1, o, ho, h2⟩ := gF hr
    have hi := tz hr
    refine mem_ready.2 ⟨by rw [h.bit i hi]; exact h1, o, by simpa using ho, fun e he hbe => ?_⟩
    rw [hb e.on (hE i o ho e he hbe)]
    exact h2 e he hbe
theorem bv {l : List Oper} (h : lexF l = true) : ∀ (i : Nat) (o : Oper), l[i]? = some o → ∀ e ∈ o.after, Region.binds .any e = true → e.on < l.length := by
  intro i o ho e he hb
  have := dq (dX (ap h) i o ho).1 e (by simpa using he) hb
  have := (List.getElem?_eq_some_iff.1 ho).1
  omega
theorem p9 {l : List Oper} {M i : Nat} {f : Option Nat} (h : ml l M i f = true) {j : Nat} (hj : isR l M j = true) : j = i ∨ f = some j := by
  have := List.all_eq_true.1 h j (List.mem_range.2 (tz hj))
  rw [hj] at this
  simp only [Bool.not_true, Bool.false_or, Bool.or_eq_true] at this
  rcases this with h1 | h1
  · exact .inl (Nat.eq_of_beq_eq_true h1)
  · cases f with
    | none => cases h1
    | some g => exact .inr (by rw [Nat.eq_of_beq_eq_true h1])
/-- who is ready is apart from all that have not come up and do not wait for it -/
theorem oJ {l : List Oper} (h : lexF l = true) {M i j : Nat} {x y : Oper} (hi : isR l M i = true) (hx : l[i]? = some x) (hy : l[j]? = some y) (hji : j ≠ i) (hM : M.testBit j = false)
    (hn : ∀ e ∈ y.after, Region.binds .any e = true → e.on ≠ i) : x.apart l.toArray y = true := by
  have hD := io (av h)
  have hspec := dX (ap h)
  have hsj := hspec j y hy
  have hsi := hspec i x hx
  obtain ⟨hMi, x', hx', haft⟩ := gF hi
  rw [hx] at hx'
  cases hx'
  have hkey : ∀ {i j : Nat} {x y : Oper} {d : Nat}, l[i]? = some x → l[j]? = some y → x.dst = some d → d ∈ y.looksAt l.toArray → gn l.toArray l (0 + j) (e7 l) y.after.toList (y.looksAt l.toArray) = true →
      (∃ e ∈ y.after.toList, Region.binds .any e = true ∧ e.on = i) ∨ (∃ e ∈ x.after.toList, Region.binds .any e = true ∧ e.on = j) := by
    intro i j x y d hx hy dx hm hl
    rcases eO hl d hm (rM hx dx) with h1 | h1
    · obtain ⟨e, he, hb, hd⟩ := ip h1
      obtain ⟨z, hz, hzd⟩ := Option.bind_eq_some_iff.1 hd
      simp only [List.getElem?_toArray] at hz
      exact .inl ⟨e, he, hb, eD hD hz hx hzd dx⟩
    · obtain ⟨q, o, hq, hod, e, he, hb, hon⟩ := l8 h1
      obtain rfl := eD hD hq hx hod dx
      rw [hx] at hq
      obtain rfl := Option.some.inj hq
      exact .inr ⟨e, he, hb, by omega⟩
  have no1 : ∀ e ∈ y.after.toList, Region.binds .any e = true → e.on = i → False := fun e he hb hon => hn e (by simpa using he) hb hon
  have no2 : ∀ e ∈ x.after.toList, Region.binds .any e = true → e.on = j → False := fun e he hb hon => by
    have := haft e (by simpa using he) hb
    rw [hon, hM] at this
    cases this
  have c1 : ∀ d, x.dst = some d → d ∉ y.looksAt l.toArray := by
    intro d hd hm
    rcases hkey hx hy hd hm hsj.2.1 with ⟨e, he, hb, hon⟩ | ⟨e, he, hb, hon⟩
    · exact no1 e he hb hon
    · exact no2 e he hb hon
  have c2 : ∀ d, x.dst = some d → y.dst ≠ some d := fun d hd hd' => hji (eD hD hx hy hd hd').symm
  have c3 : ∀ d, y.dst = some d → d ∉ x.looksAt l.toArray := by
    intro d hd hm
    rcases hkey hy hx hd hm hsi.2.1 with ⟨e, he, hb, hon⟩ | ⟨e, he, hb, hon⟩
    · exact no2 e he hb hon
    · exact no1 e he hb hon
  unfold Oper.apart
  simp only [Bool.and_eq_true]
  constructor
  · cases hd : x.dst with
    | none => rfl
    | some d => simp [c1 d hd, c2 d hd]
  · cases hd : y.dst with
    | none => rfl
    | some d => simp [c3 d hd]
theorem cC {l : List Oper} (h : lexF l = true) (j : Nat) (o : Oper) (cs : Array SelectCase) (b : Bool) (ho : l.toArray[j]? = some o) : o.op ≠ .select cs b := by
  intro he
  have := (dX (ap h) j o (by simpa using ho)).2.2
  rw [he] at this
  cases this
end
end Fw
end Go.Proofs.YtogmioecalmalaaGreat
namespace Go.Proofs.YtogmioecalmalaaGreat
namespace Fw
set_option linter.unusedVariables false
set_option linter.unusedSimpArgs false
set_option linter.unusedSectionVars false
open Go.RowKit Go.MapKept
noncomputable section
section
variable {β γ : Bt} {P : Program} {F : Fm} {Γ : Gh} {L : List Rowb} {w : World} {T : Tb}
/-! ### values that tell all -/
theorem oq {a : AV} {v u : Value} (h : ex0 a = true) (h1 : VR β a v) (h2 : VR β a u) : v = u := by
  cases a <;> first | cases h | skip
  case v x => rw [h1.vinv, h2.vinv]
  case ptr b o =>
    cases h1 with
    | ptr e1 => cases h2 with | ptr e2 => rw [e1] at e2; cases e2; rfl
  case sl b o n c =>
    cases h1 with
    | slc e1 => cases h2 with | slc e2 => rw [e1] at e2; cases e2; rfl
  case slo b o n z =>
    cases h1 with
    | slo e1 _ c1 _ z1 =>
      cases h2 with
      | slo e2 _ c2 _ _ =>
        rw [e1] at e2
        cases e2
        rw [Nat.eq_of_mul_eq_mul_right z1 (Nat.add_left_cancel (c1.trans c2.symm))]
  case es b o n z =>
    cases h1 with
    | es e1 c1 _ z1 =>
      cases h2 with
      | es e2 c2 _ _ =>
        rw [e1] at e2
        cases e2
        rw [Nat.add_left_cancel (Nat.eq_of_mul_eq_mul_right z1 (Nat.add_left_cancel (c1.trans c2.symm)))]
  case map b =>
    cases h1 with
    | map e1 => cases h2 with | map e2 => rw [e1] at e2; cases e2; rfl
theorem lU {f : AV → Bool} (hf : ∀ {a : AV} {v u : Value}, f a = true → VR β a v → VR β a u → v = u) : ∀ {l : List AV} {x y : List Value}, l.all f = true → VRs β l x → VRs β l y → x = y
  | [], _, _, _, .nil, .nil => rfl
  | a :: l, _, _, h, .cons h1 t1, .cons h2 t2 => by
    rw [List.all_cons] at h
    rw [hf (av h) h1 h2, lU hf (ap h) t1 t2]
theorem qW {a : AV} {v u : Value} (h : ex1 a = true) (h1 : VR β a v) (h2 : VR β a u) : v = u := by
  unfold ex1 at h
  split at h
  · cases h1 with
    | ifc e1 => cases h2 with | ifc e2 => rw [oq h e1 e2]
  · cases h1 with
    | fn e1 e2 => cases h2 with | fn e3 e4 => rw [lU oq (av h) e1 e3, lU oq (ap h) e2 e4]
  · exact oq h h1 h2
theorem yg {a : AV} {v u : Value} (h : ex2 a = true) (h1 : VR β a v) (h2 : VR β a u) : v = u := by
  unfold ex2 at h
  split at h
  · cases h1 with
    | agg e1 => cases h2 with | agg e2 => rw [lU qW h e1 e2]
  · cases h1 with
    | tup e1 => cases h2 with | tup e2 => rw [lU qW h e1 e2]
  · exact qW h h1 h2
/-! ### the same value, the same block -/
theorem yJ : ∀ {a b : Value}, eqV a b = true → a = b := by
  intro a b h
  unfold eqV at h
  split at h
  · have := eq_of_beq h; rw [this]
  · rw [of_decide_eq_true (av h), of_decide_eq_true (ap h)]
  · rename_i x y
    have := nZ.1 h
    have : x = y := by cases x; cases y; congr 1; exact Array.ext' this
    rw [this]
  all_goals first
    | rfl
    | (rw [Nat.eq_of_beq_eq_true (av h), Nat.eq_of_beq_eq_true (ap h)])
    | (rename_i x y
       have e1 : x = #[] := by rw [← Array.toArray_toList (xs := x)]; have := av h; cases hl : x.toList with | nil => rfl | cons _ _ => rw [hl] at this; cases this
       have e2 : y = #[] := by rw [← Array.toArray_toList (xs := y)]; have := ap h; cases hl : y.toList with | nil => rfl | cons _ _ => rw [hl] at this; cases this
       rw [e1, e2])
    | cases h
theorem oz {a b : AV} (h : eq0 a b = true) : a = b := by
  unfold eq0 at h
  split at h
  · rw [yJ h]
  · rw [Nat.eq_of_beq_eq_true (av h), Nat.eq_of_beq_eq_true (ap h)]
  · rw [Nat.eq_of_beq_eq_true (av h), Nat.eq_of_beq_eq_true (av (ap h)), Nat.eq_of_beq_eq_true (av (ap (ap h))), Nat.eq_of_beq_eq_true (ap (ap (ap h)))]
  · rw [Nat.eq_of_beq_eq_true (av h), Nat.eq_of_beq_eq_true (av (ap h)), Nat.eq_of_beq_eq_true (av (ap (ap h))), Nat.eq_of_beq_eq_true (ap (ap (ap h)))]
  · rw [Nat.eq_of_beq_eq_true (av h), Nat.eq_of_beq_eq_true (av (ap h)), Nat.eq_of_beq_eq_true (av (ap (ap h))), Nat.eq_of_beq_eq_true (ap (ap (ap h)))]
  · rw [Nat.eq_of_beq_eq_true h]
  · rfl
  · cases h
theorem r7 {f : AV → AV → Bool} (hf : ∀ {a b : AV}, f a b = true → a = b) : ∀ {a b : List AV}, eqL f a b = true → a = b
  | [], [], _ => rfl
  | a :: l, b :: r, h => by unfold eqL at h; rw [hf (av h), r7 hf (ap h)]
  | [], _ :: _, h => by cases h
  | _ :: _, [], h => by cases h
theorem w5 {a b : AV} (h : eq1 a b = true) : a = b := by
  unfold eq1 at h
  split at h
  · rw [Nat.eq_of_beq_eq_true (av h), oz (ap h)]
  · rw [Nat.eq_of_beq_eq_true (av h), r7 oz (av (ap h)), r7 oz (ap (ap h))]
  · exact oz h
theorem vQ : ∀ {a b : List (AV × AV × Nat)}, eqE a b = true → a = b
  | [], [], _ => rfl
  | (a1, a2, a3) :: l, (b1, b2, b3) :: r, h => by
    unfold eqE at h
    have e1 := oz (av h)
    have e2 := w5 (av (ap h))
    have e3 := Nat.eq_of_beq_eq_true (av (ap (ap h)))
    simp only at e1 e2 e3
    rw [e1, e2, e3, vQ (ap (ap (ap h)))]
  | [], _ :: _, h => by cases h
  | _ :: _, [], h => by cases h
theorem xF {a b : AO} (h : eqAO a b = true) : a = b := by
  unfold eqAO at h
  split at h
  · rw [Nat.eq_of_beq_eq_true (av h), r7 w5 (ap h)]
  · rw [Nat.eq_of_beq_eq_true (av h), vQ (ap h)]
  · cases h
theorem zp {a : AO} {b : Option AO} (h : eqO a b = true) : b = some a := by
  unfold eqO at h
  split at h
  · rw [xF h]
  · cases h
/-! ### fewer places -/
mutual
theorem VR.restrict (hs : β.le γ) : ∀ {a : AV} {v u : Value}, VR β a v → VR γ a u → VR β a u
  | _, _, _, .v x, h => by rw [h.vinv]; exact .v x
  | _, _, _, .ptr e, h => by cases h with | ptr e2 => rw [hs _ _ e] at e2; cases e2; exact .ptr e
  | _, _, _, .slc e, h => by cases h with | slc e2 => rw [hs _ _ e] at e2; cases e2; exact .slc e
  | _, _, _, .slo e _ _ _ _, h => by cases h with | slo e2 h1 h2 h3 h4 => rw [hs _ _ e] at e2; cases e2; exact .slo e h1 h2 h3 h4
  | _, _, _, .es e _ _ _, h => by cases h with | es e2 h1 h2 h3 => rw [hs _ _ e] at e2; cases e2; exact .es e h1 h2 h3
  | _, _, _, .map e, h => by cases h with | map e2 => rw [hs _ _ e] at e2; cases e2; exact .map e
  | _, _, _, .fn h1 h2, h => by cases h with | fn h3 h4 => exact .fn (VRs.restrict hs h1 h3) (VRs.restrict hs h2 h4)
  | _, _, _, .ifc h1, h => by cases h with | ifc h2 => exact .ifc (VR.restrict hs h1 h2)
  | _, _, _, .yl l, h => by cases h with | yl m => exact .yl m
  | _, _, _, .agg h1, h => by cases h with | agg h2 => exact .agg (VRs.restrict hs h1 h2)
  | _, _, _, .tup h1, h => by cases h with | tup h2 => exact .tup (VRs.restrict hs h1 h2)
theorem VRs.restrict (hs : β.le γ) : ∀ {a : List AV} {v u : List Value}, VRs β a v → VRs γ a u → VRs β a u
  | _, _, _, .nil, .nil => .nil
  | _, _, _, .cons h1 t1, .cons h2 t2 => .cons (VR.restrict hs h1 h2) (VRs.restrict hs t1 t2)
end
theorem ER.restrict (hs : β.le γ) : ∀ {l : List (AV × AV × Nat)} {r r' : List MapEntry}, ER β l r → ER γ l r' → ER β l r'
  | [], [], [], _, _ => trivial
  | [], _ :: _, _, h, _ => h.elim
  | [], [], _ :: _, _, h => h.elim
  | _ :: _, [], _, h, _ => h.elim
  | _ :: _, _ :: _, [], _, h => h.elim
  | _ :: _, _ :: _, _ :: _, ⟨⟨h1, h2, h3⟩, h4⟩, ⟨⟨g1, g2, g3⟩, g4⟩ => ⟨⟨h1.restrict hs g1, h2.restrict hs g2, g3⟩, ER.restrict hs h4 g4⟩
theorem OR.restrict (hs : β.le γ) {b : Nat} {o : AO} {row row' : Rowb} (h : OR P β (β b) (some o) row) (h' : OR P γ (γ b) (some o) row') : OR P β (β b) (some o) row' := by
  cases o with
  | cells cs e =>
    obtain ⟨q, arr, fz, h1, h2, h3⟩ := h
    obtain ⟨q', arr', fz', g1, g2, g3⟩ := h'
    rw [hs _ _ h1] at g1
    cases g1
    refine ⟨q, arr', fz', h1, g2, g3.size, g3.free, fun j a hj => ?_⟩
    obtain ⟨v, e1, e2, _⟩ := h3.get j a hj
    obtain ⟨u, f1, f2, f3⟩ := g3.get j a hj
    exact ⟨u, f1, e2.restrict hs f2, f3⟩
  | map es c =>
    obtain ⟨g, arr, h1, h2, h3⟩ := h
    obtain ⟨g', arr', g1, g2, g3⟩ := h'
    rw [hs _ _ h1] at g1
    cases g1
    exact ⟨g, arr', h1, g2, h3.restrict hs g3⟩
  | miter m s sn l =>
    cases m with
    | none =>
      obtain ⟨g, h1, h2⟩ := h
      obtain ⟨g', g1, g2⟩ := h'
      rw [hs _ _ h1] at g1
      cases g1
      exact ⟨g, h1, g2⟩
    | some m =>
      obtain ⟨g, q, h1, h2, h3⟩ := h
      obtain ⟨g', q', g1, g2, g3⟩ := h'
      rw [hs _ _ h1] at g1
      rw [hs _ _ h2] at g2
      cases g1; cases g2
      exact ⟨g, q, h1, h2, g3⟩
  | siter s k =>
    obtain ⟨g, h1, h2⟩ := h
    obtain ⟨g', g1, g2⟩ := h'
    rw [hs _ _ h1] at g1
    cases g1
    exact ⟨g, h1, g2⟩
  | dfr =>
    obtain ⟨g, h1, h2⟩ := h
    obtain ⟨g', g1, g2⟩ := h'
    rw [hs _ _ h1] at g1
    cases g1
    exact ⟨g, h1, g2⟩
/-! ### what is read, is read alone -/
theorem qm {h h' : Hf} {E : Tr AV} {op : Op} {r : AV} {rd : Option Nat} (hq : opQ op T h E = some (r, rd)) (hh : ∀ b, rd = some b → h' b = h b) : opQ op T h' E = some (r, rd) := by
  cases op with
  | load t x =>
    have hq' : q7 T h t (rho x E) = some (r, rd) := hq
    show q7 T h' t (rho x E) = some (r, rd)
    unfold q7 at hq' ⊢
    split at hq'
    · rename_i b o hE
      split at hq'
      · rename_i cs e hb
        obtain ⟨y, hy, h2⟩ := ab hq'
        cases h2
        rw [hh b rfl, hb]
        show bd (rdC T t cs o) _ = _
        rw [hy]; rfl
      · cases hq'
    · cases hq'
  | convert src dst x =>
    have hq' : pK T h src dst (rho x E) = some (r, rd) := hq
    show pK T h' src dst (rho x E) = some (r, rd)
    unfold pK at hq' ⊢
    split at hq'
    · exact hq'
    · split at hq'
      · exact hq'
      · rename_i b o n c hu he
        split at hq'
        · rename_i cs e hb
          obtain ⟨y, hy, h2⟩ := ab hq'
          obtain ⟨z, hz, h3⟩ := ab h2
          cases h3
          rw [hh b rfl, hb]
          show bd (cut cs o n) _ = _
          rw [hy]
          show bd (hJ y) _ = _
          rw [hz]; rfl
        · cases hq'
      · rename_i b o n c hu he
        split at hq'
        · rename_i cs e hb
          obtain ⟨y, hy, h2⟩ := ab hq'
          obtain ⟨z, hz, h3⟩ := ab h2
          cases h3
          rw [hh b rfl, hb]
          show bd (cut cs o n) _ = _
          rw [hy]
          show bd (hJ y) _ = _
          rw [hz]; rfl
        · cases hq'
      · cases hq'
    · exact hq'
    · cases hq'
  | lookup t x k ok =>
    have hq' : qv T h t (rho x E) (rho k E) ok = some (r, rd) := hq
    show qv T h' t (rho x E) (rho k E) ok = some (r, rd)
    unfold qv at hq' ⊢
    split at hq'
    · exact hq'
    · rename_i kt et b hu hE
      obtain ⟨h1, h2⟩ := aN hq'
      rw [h1]
      split at h2
      · rename_i es c hb
        obtain ⟨y, hy, h3⟩ := ab h2
        obtain ⟨z, hz, h4⟩ := ab h3
        cases h4
        rw [hh b rfl, hb]
        show bd (oU _ es 0) _ = _
        rw [hy]
        show bd (s4 T et ok _) _ = _
        rw [hz]; rfl
      · cases h2
    · cases hq'
  | call c =>
    obtain ⟨callee, args, argTypes⟩ := c
    cases callee with
    | value f => cases hq
    | invoke r m => cases hq
    | builtin bi =>
      have hq' : opQb bi args argTypes T h E = some (r, rd) := hq
      show opQb bi args argTypes T h' E = some (r, rd)
      unfold opQb at hq' ⊢
      cases bi with
      | len =>
        simp only at hq' ⊢
        split at hq'
        · rename_i x t ha ht
          obtain ⟨⟨n, d⟩, hn, h2⟩ := ab hq'
          cases h2
          have : lenA T h' t (rho x E) = some (n, d) := by
            have mapc : ∀ (b : Nat), (match h b with | some (.map es _) => some (es.length, some b) | _ => none) = some (n, d) → (match h' b with | some (.map es _) => some (es.length, some b) | _ => none) = some (n, d) := by
              intro b hm
              split at hm
              · rename_i es c hb
                cases hm
                rw [hh b rfl, hb]
              · cases hm
            unfold lenA at hn ⊢
            split at hn <;> first | exact hn | exact mapc _ hn | cases hn
          rw [this]; rfl
        · cases hq'
      | _ => exact hq'
  | _ => exact hq
end
end
end Fw
end Go.Proofs.YtogmioecalmalaaGreat
namespace Go.Proofs.YtogmioecalmalaaGreat
namespace Fw
set_option linter.unusedVariables false
set_option linter.unusedSimpArgs false
set_option linter.unusedSectionVars false
open Go.RowKit Go.MapKept
noncomputable section
section
variable {P : Program} {ops : Array Oper} {Q : Exit → Act → World → Prop}
/-- whichever order; behind every operation C holds -/
def WA (P : Program) (ops : Array Oper) (Q : Exit → Act → World → Prop) (C : Array Bool → World → Prop) : Nat → Array Bool → Act → World → Prop
  | 0, listed, a, w => Region.ready .any ops listed = [] ∧ Q .normal a w
  | fuel + 1, listed, a, w =>
    (Region.ready .any ops listed = [] → Q .normal a w) ∧
    ∀ i ∈ Region.ready .any ops listed, wpOp P ops Q i (fun a' w' => C (listed.setIfInBounds i true) w' ∧ WA P ops Q C fuel (listed.setIfInBounds i true) a' w') a w
theorem nj {C : Array Bool → World → Prop} : ∀ (fuel : Nat) (listed : Array Bool) (a : Act) (w : World), WA P ops Q C fuel listed a w → wpAny P .any ops Q fuel listed a w
  | 0, _, _, _, h => h
  | fuel + 1, _, _, _, h => ⟨h.1, fun i hi => wpOp_mono (fun a' w' h' => nj fuel _ a' w' h'.2) (h.2 i hi)⟩
theorem xK {C : Array Bool → World → Prop} {listed : Array Bool} {a : Act} {w : World} (hr : Region.ready .any ops listed = []) (h : Q .normal a w) : ∀ fuel, WA P ops Q C fuel listed a w
  | 0 => ⟨hr, h⟩
  | _ + 1 => ⟨fun _ => h, by rw [hr]; simp⟩
/-- what has come up waits for nothing -/
def Clo (ops : Array Oper) (L : Array Bool) : Prop := ∀ (j : Nat) (o : Oper), ops[j]? = some o → L.getD j false = true → ∀ e ∈ o.after, Region.binds .any e = true → L.getD e.on false = true
theorem Clo.set {L : Array Bool} {i : Nat} (h : Clo ops L) (hi : i ∈ Region.ready .any ops L) : Clo ops (L.setIfInBounds i true) := by
  intro j o ho hj e he hb
  by_cases hji : i = j
  · subst hji
    obtain ⟨_, o', ho', hall⟩ := mem_ready.1 hi
    rw [ho] at ho'
    cases ho'
    exact getD_set_true (hall e he hb)
  · rw [getD_set_ne false hji] at hj
    exact getD_set_true (h j o ho hj e he hb)
theorem tY {L : Array Bool} {i : Nat} (h : L.getD i true = false) : L.getD i false = false := by
  simp only [Array.getD_eq_getD_getElem?] at h ⊢
  cases hq : L[i]? with
  | none => rfl
  | some b => rw [hq] at h; simpa using h
/-- a quiet operation may be taken first, if what it hangs on is kept by all that does not wait for it -/
theorem jU {i : Nat} {oi : Oper} {v : Value} {Si : World → Prop} {D : Nat → Bool} {C : Array Bool → World → Prop} (hi : ops[i]? = some oi) (hsel : ∀ (j : Nat) (o : Oper) cs b, ops[j]? = some o → o.op ≠ .select cs b)
    (hQ : ∀ c a w, Q (.panic c) (a.put oi.dst v) w → Q (.panic c) a w) (hDi : D i = false) (hC : ∀ L w, C (L.setIfInBounds i true) w ↔ C L w)
    (hD : ∀ L, Clo ops L → L.getD i false = false → ∀ j, D j = true → L.getD j false = false) :
    ∀ (fuel : Nat) (listed : Array Bool) (a : Act) (w : World),
      (∀ j oj, ops[j]? = some oj → j ≠ i → listed.getD j true = false → (∀ e ∈ oj.after, Region.binds .any e = true → e.on ≠ i) → oi.apart ops oj = true) →
      i ∈ Region.ready .any ops listed → Clo ops listed → YieldsIf P ops Si oi v a → Si w → C listed w →
      WA P ops Q (fun L w => C L w ∧ ((∀ j, D j = true → L.getD j false = false) → Si w)) fuel (listed.setIfInBounds i true) (a.put oi.dst v) w → WA P ops Q C (fuel + 1) listed a w := by
  have weak : ∀ (fuel : Nat) (L : Array Bool) (a : Act) (w : World), WA P ops Q (fun L w => C L w ∧ ((∀ j, D j = true → L.getD j false = false) → Si w)) fuel L a w → WA P ops Q C fuel L a w := by
    intro fuel
    induction fuel with
    | zero => intro L a w h; exact h
    | succ fuel ih => intro L a w h; exact ⟨h.1, fun j hj => wpOp_mono (fun a' w' h' => ⟨h'.1.1, ih _ _ _ h'.2⟩) (h.2 j hj)⟩
  intro fuel
  induction fuel with
  | zero =>
    intro listed a w _ hr hcl hy hS hCw H
    refine ⟨fun h => (by rw [h] at hr; cases hr), fun j hj => ?_⟩
    by_cases hji : j = i
    · subst hji; exact hy.wpOp hi hS ⟨(hC _ _).2 hCw, weak _ _ _ _ H⟩
    · have := ready_mono hj hji
      rw [H.1] at this
      cases this
  | succ fuel ih =>
    intro listed a w hfree hr hcl hy hS hCw H
    refine ⟨fun h => (by rw [h] at hr; cases hr), fun j hj => ?_⟩
    by_cases hji : j = i
    · subst hji; exact hy.wpOp hi hS ⟨(hC _ _).2 hCw, weak _ _ _ _ H⟩
    · have h1 := H.2 j (ready_mono hj hji)
      obtain ⟨hjun, oj, hoj, hall⟩ := mem_ready.1 hj
      have hnot : ∀ e ∈ oj.after, Region.binds .any e = true → e.on ≠ i := fun e he hb heq => by
        have h1 := hall e he hb
        have h0 := (mem_ready.1 hr).1
        rw [heq] at h1
        rw [tY h0] at h1
        cases h1
      have h2 := wpOp_putIf hoj (hfree j oj hoj hji hjun hnot) (fun cs b => hsel i oi cs b hi) (fun cs b => hsel j oj cs b hoj) hQ hy h1
      have hfree' : ∀ k ok, ops[k]? = some ok → k ≠ i → (listed.setIfInBounds j true).getD k true = false →
          (∀ e ∈ ok.after, Region.binds .any e = true → e.on ≠ i) → oi.apart ops ok = true := fun k ok hk hki hun hno => by
        refine hfree k ok hk hki ?_ hno
        by_cases hjk : j = k
        · subst hjk; exact hjun
        · rw [getD_set_ne true hjk] at hun; exact hun
      have hcl' := hcl.set hj
      have hiu : (listed.setIfInBounds j true).getD i false = false := by rw [getD_set_ne false hji]; exact tY (mem_ready.1 hr).1
      refine wpOp_mono (fun a' w' h3 => ?_) h2
      obtain ⟨hy', ⟨hC', hg⟩, hW⟩ := h3
      rw [Array.setIfInBounds_comm _ _ (Ne.symm hji)] at hC' hg hW
      have hC'' : C (listed.setIfInBounds j true) w' := (hC _ _).1 hC'
      have hSi : Si w' := hg fun k hk => by
        have := hD _ hcl' hiu k hk
        by_cases hik : i = k
        · subst hik; rw [hDi] at hk; cases hk
        · rw [getD_set_ne false hik]; exact this
      exact ⟨hC'', ih (listed.setIfInBounds j true) a' w' hfree' (ready_mono hr (Ne.symm hji)) hcl' hy' hSi hC'' hW⟩
/-- an operation does the same where another's value already lies in its slot -/
theorem q5 {j : Nat} {oi oj : Oper} {v : Value} (hj : ops[j]? = some oj) (hap : oi.apart ops oj = true) (hsj : ∀ cs b, oj.op ≠ .select cs b)
    (hQ : ∀ c a w, ¬ Q (.panic c) a w) {K : Act → World → Prop} {a : Act} {w : World} (h : if Region.wanted oj (yielded ops a.tmps) then oj.wp P a w K Q else K (a.put oj.dst undef) w) :
    wpOp P ops Q j (fun a' w' => ∃ a0, a' = a0.put oi.dst v ∧ K a0 w') (a.put oi.dst v) w := by
  obtain ⟨h1, h2, h3⟩ := Oper.apart_spec hap
  have hcm : ∀ (a : Act) (u : Value), (a.put oi.dst v).put oj.dst u = (a.put oj.dst u).put oi.dst v := fun a u => Act.put_comm a v u h2
  unfold wpOp
  simp only [hj]
  rw [wanted_put oj a oi.dst v h1]
  split
  · rename_i hw
    rw [if_pos hw] at h
    refine .inl ?_
    unfold Oper.wp at *
    rw [execOp_put oj hsj a oi.dst v h1]
    generalize (execOp a.eval oj).run P w = r at *
    cases r with
    | ok n w' =>
      cases n <;> simp only [Oper.upon] at h ⊢
      case value u => exact ⟨_, hcm a u, h⟩
      case skip => exact ⟨_, hcm a _, h⟩
      case defer d => exact ⟨({ a with defers := d :: a.defers } : Act).put oj.dst undef, by rw [← hcm, Act.put_defers], h⟩
      case enter f args =>
        refine Calls.mono h fun e w'' he => ?_
        cases e with
        | returned u => exact ⟨_, hcm a u, he⟩
        | panicked c => exact absurd he (hQ _ _ _)
        | outgrown => exact he
      case row row args => exact Rows.mono h fun u w'' he => ⟨_, hcm a u, he⟩
    | halt x w' =>
      cases x <;> simp only [Oper.upon] at h ⊢
      case panic u => exact absurd h (hQ _ _ _)
  · rename_i hw
    rw [if_neg hw] at h
    exact ⟨_, hcm a _, h⟩
end
end
end Fw
end Go.Proofs.YtogmioecalmalaaGreat
namespace Go.Proofs.YtogmioecalmalaaGreat
namespace Fw
set_option linter.unusedVariables false
set_option linter.unusedSimpArgs false
set_option linter.unusedSectionVars false
open Go.RowKit Go.MapKept
noncomputable section
/-- what a quiet operation hangs on -/
structure RecS where
  β : Bt
  i : Nat
  b : Nat
  ao : AO
def SRec (P : Program) (r : RecS) (w : World) : Prop := ∃ row, OR P r.β (r.β r.b) (some r.ao) row ∧ Lies [row] w
section
variable {P : Program} {F : Fm} {Γ : Gh} {β β0 : Bt} {L : List Rowb} {w : World} {N : Nat} {s s1 : St} {a : Act} {R : Rn} {ops : Array Oper} {l : List Oper}
theorem SR.srec (h : SR P N F Γ β L s a w) {r : RecS} (hb : r.β.le β) (hH : s.H.get r.b = some r.ao) (base : ∃ row, OR P r.β (r.β r.b) (some r.ao) row) : SRec P r w := by
  obtain ⟨row, h1, h2⟩ := h.mh.at_ hH
  obtain ⟨row0, h3⟩ := base
  exact ⟨row, h3.restrict hb h2, ⟨fun r' hr' p hp => by rw [List.mem_singleton.1 hr'] at hp; exact h.cur.at_ h1 hp⟩⟩
theorem mi [TbOK R.P P] {i : Nat} {recs recs1 : List QRec} (hq : kQ i l ops R s recs = some (s1, recs1)) (h : SR P R.N F Γ β L s a w) :
    ∃ o v x, l[i]? = some o ∧ okD o.dst R.N = true ∧ s1 = ⟨putA o.dst s.E x, s.H, s.n, s.ds⟩ ∧ VR β x v ∧
      ((recs1 = recs ∧ YieldsIf P ops (fun _ => True) o v a) ∨ (∃ b ao, recs1 = (i, b, ao) :: recs ∧ s.H.get b = some ao ∧ YieldsIf P ops (SRec P ⟨β, i, b, ao⟩) o v a)) := by
  unfold kQ at hq
  obtain ⟨o, ho, h1⟩ := ab hq
  obtain ⟨hd, h2⟩ := aN h1
  clear hq h1
  have hwt := rY h (o := o) (ops := ops)
  cases hw : m9 o ops s.E with
  | false =>
    rw [hw] at h2 hwt
    cases h2
    exact ⟨o, undef, jH, ho, hd, rfl, .v _, .inl ⟨rfl, .inr ⟨hwt.symm, rfl⟩⟩⟩
  | true =>
    rw [hw] at h2 hwt
    obtain ⟨⟨r, rd⟩, h3, h4⟩ := ab (show bd (opQ o.op R.P s.H.get s.E) _ = some (s1, recs1) from h2)
    cases rd with
    | none =>
      cases h4
      have h5 := qm (h' := fun _ => none) h3 (fun b hb => by cases hb)
      obtain ⟨z, hz, hr⟩ := oG (L := []) (fun _ _ hb => by cases hb) h.eval h5
      exact ⟨o, z, r, ho, hd, rfl, hz, .inl ⟨rfl, .inl ⟨hwt.symm, fun w' _ => hr w' ⟨by simp⟩⟩⟩⟩
    | some b =>
      obtain ⟨hx, h5⟩ := aN h4
      obtain ⟨ao, hb, h6⟩ := ab h5
      cases h6
      obtain ⟨z, hz, _⟩ := oG h.mh.hl h.eval h3
      refine ⟨o, z, r, ho, hd, rfl, hz, .inr ⟨b, ao, rfl, hb, .inl ⟨hwt.symm, ?_⟩⟩⟩
      rintro w' ⟨row, hor, hl⟩
      have h7 := qm (h' := fun k => if k = b then some ao else none) h3 (fun c hc => by cases hc; simp [hb])
      have hHL : HL P β (fun k => if k = b then some ao else none) (List.replicate b [] ++ [row]) := by
        intro k o' hk
        by_cases hkb : k = b
        · subst hkb
          simp only [if_true] at hk
          cases hk
          exact ⟨row, by simp, hor⟩
        · simp [hkb] at hk
      obtain ⟨z', hz', hr'⟩ := oG hHL h.eval h7
      rw [yg hx hz hz']
      refine hr' w' ⟨fun r' hr2 p hp => ?_⟩
      rcases List.mem_append.1 hr2 with h8 | h8
      · rw [List.eq_of_mem_replicate h8] at hp; cases hp
      · exact hl.loc r' h8 p hp
/-! ### who waits for whom -/
theorem oS {i : Nat} {A : List Nat} : ∀ {es : List Edge}, (ancM es A).testBit i = true → ∃ e ∈ es, Region.binds .any e = true ∧ (e.on = i ∨ (A.getD e.on 0).testBit i = true)
  | [], h => by simp [ancM] at h
  | e :: es, h => by
    unfold ancM at h
    cases hb : Region.binds .any e with
    | false =>
      rw [hb] at h
      obtain ⟨e', h1, h2⟩ := oS (es := es) h
      exact ⟨e', by simp [h1], h2⟩
    | true =>
      rw [hb] at h
      simp only [cond_true, Nat.testBit_or, Bool.or_eq_true] at h
      rcases h with h | h | h
      · rw [Nat.shiftLeft_eq, Nat.one_mul, Nat.testBit_two_pow] at h
        exact ⟨e, by simp, hb, .inl (of_decide_eq_true h)⟩
      · exact ⟨e, by simp, hb, .inr h⟩
      · obtain ⟨e', h1, h2⟩ := oS (es := es) h
        exact ⟨e', by simp [h1], h2⟩
theorem kr : ∀ (l : List Oper) (A : List Nat), (ancs l A).take A.length = A ∧ (ancs l A).length = A.length + l.length
  | [], A => by simp [ancs]
  | o :: l, A => by
    obtain ⟨h1, h2⟩ := kr l (A ++ [ancM o.after.toList A])
    unfold ancs
    refine ⟨?_, by rw [h2]; simp; omega⟩
    have := congrArg (List.take A.length) h1
    rw [List.take_take] at this
    simpa using this
theorem uk : ∀ (l : List Oper) (A : List Nat) (j : Nat) (o : Oper), l[j]? = some o → (ancs l A).getD (A.length + j) 0 = ancM o.after.toList ((ancs l A).take (A.length + j))
  | [], A, j, o, h => by simp at h
  | x :: l, A, 0, o, h => by
    simp only [List.getElem?_cons_zero, Option.some.injEq] at h
    subst h
    unfold ancs
    obtain ⟨h1, h2⟩ := kr l (A ++ [ancM x.after.toList A])
    have e1 : (ancs l (A ++ [ancM x.after.toList A])).take A.length = A := by
      have := congrArg (List.take A.length) h1
      rw [List.take_take] at this
      simpa using this
    rw [Nat.add_zero, e1]
    have e2 : (ancs l (A ++ [ancM x.after.toList A]))[A.length]? = some (ancM x.after.toList A) := by
      have := congrArg (fun q => q[A.length]?) h1
      simp only [List.getElem?_take] at this
      simpa using this
    simp [List.getD, e2]
  | x :: l, A, j + 1, o, h => by
    unfold ancs
    have := uk l (A ++ [ancM x.after.toList A]) j o (by simpa using h)
    simpa [Nat.add_assoc, Nat.add_comm 1 j] using this
/-- who has come up has all behind it that it waits for -/
theorem ur (hlex : lexF l = true) {Ls : Array Bool} (hc : Clo l.toArray Ls) : ∀ (j i : Nat), ((ancs l []).getD j 0).testBit i = true → Ls.getD j false = true → Ls.getD i false = true := by
  intro j
  induction j using Nat.strongRecOn with
  | _ j ih =>
    intro i hb hj
    cases hl : l[j]? with
    | none =>
      have hlen : (ancs l []).length ≤ j := by
        rw [(kr l []).2]; simpa using hl
      rw [List.getD_eq_getElem?_getD, List.getElem?_eq_none hlen] at hb
      simp at hb
    | some o =>
      have h1 := uk l [] j o hl
      simp only [List.length_nil, Nat.zero_add] at h1
      rw [h1] at hb
      obtain ⟨e, he, hbd, h2⟩ := oS hb
      have hlt := dq (dX (ap hlex) j o hl).1 e he hbd
      have hlt : e.on < j := by omega
      have hon := hc j o (by simpa using hl) hj e (by simpa using he) hbd
      rcases h2 with h2 | h2
      · rw [← h2]; exact hon
      · refine ih e.on hlt i ?_ hon
        have e3 : ((ancs l []).take j).getD e.on 0 = (ancs l []).getD e.on 0 := by
          simp [List.getD, List.getElem?_take, hlt]
        rw [← e3]; exact h2
end
end
end Fw
end Go.Proofs.YtogmioecalmalaaGreat
namespace Go.Proofs.YtogmioecalmalaaGreat
namespace Fw
set_option linter.unusedVariables false
set_option linter.unusedSimpArgs false
set_option linter.unusedSectionVars false
open Go.RowKit Go.MapKept
noncomputable section
def dH (r : RecS) : QRec := (r.i, r.b, r.ao)
def Base (P : Program) (RS : List RecS) : Prop := ∀ r ∈ RS, ∃ row, OR P r.β (r.β r.b) (some r.ao) row
def Held (H : Hp) (RS : List RecS) : Prop := ∀ r ∈ RS, H.get r.b = some r.ao
/-- the effects that wait for i -/
def dep (l : List Oper) (EM i j : Nat) : Bool := EM.testBit j && ((ancs l []).getD j 0).testBit i
/-- what is asked behind every operation: no more than what the records tell -/
structure Cnd (l : List Oper) (EM : Nat) (P : Program) (M : Nat) (RS : List RecS) (C : Array Bool → World → Prop) : Prop where
  quiet : ∀ i, EM.testBit i = false → ∀ L w, C (L.setIfInBounds i true) w ↔ C L w
  give : ∀ M' L w, LR l.length M' L → (∀ j, M.testBit j = true → M'.testBit j = true) → (∀ r ∈ RS, (∀ j, dep l EM r.i j = true → M'.testBit j = false) → SRec P r w) → C L w
section
variable {P : Program} {F : Fm} {Γ : Gh} {β β0 : Bt} {L : List Rowb} {w : World} {N : Nat} {s s1 s' : St} {a : Act} {R : Rn} {l : List Oper} {EM M : Nat} {RS : List RecS} {C : Array Bool → World → Prop} {Q : Exit → Act → World → Prop} {listed : Array Bool}
theorem eW {M i j : Nat} (h : M.testBit j = true) : (seen M i).testBit j = true := by rw [kg, h]; rfl
theorem Cnd.more {M1 : Nat} (h : Cnd l EM P M RS C) (hM : ∀ j, M.testBit j = true → M1.testBit j = true) : Cnd l EM P M1 RS C :=
  ⟨h.quiet, fun M' L w hL hs hr => h.give M' L w hL (fun j hj => hs j (hM j hj)) hr⟩
theorem zj {i j : Nat} (h : dep l EM i j = true) : j < l.length := by
  rcases Nat.lt_or_ge j l.length with h1 | h1
  · exact h1
  · have h2 := ap h
    have hlen : (ancs l []).length ≤ j := by rw [(kr l []).2]; simpa using h1
    rw [List.getD_eq_getElem?_getD, List.getElem?_eq_none hlen] at h2
    simp at h2
theorem LR.ff {n : Nat} {listed : Array Bool} (h : LR n M listed) {j : Nat} (hj : j < n) : listed.getD j false = M.testBit j := by
  rw [← h.bit j hj]
  simp only [Array.getD_eq_getD_getElem?]
  rw [Array.getElem?_eq_getElem (by rw [h.size]; exact hj)]; rfl
theorem Cnd.add {r : RecS} (h : Cnd l EM P M RS C) : Cnd l EM P M (r :: RS) (fun L w => C L w ∧ ((∀ j, dep l EM r.i j = true → L.getD j false = false) → SRec P r w)) := by
  refine ⟨fun i hi L w => ?_, fun M' L w hL hs hr => ⟨h.give M' L w hL hs fun r' hr' => hr r' (List.mem_cons_of_mem _ hr'), fun hg => hr r (List.mem_cons_self ..) fun j hj => ?_⟩⟩
  · have e1 : ∀ j, dep l EM r.i j = true → (L.setIfInBounds i true).getD j false = L.getD j false := fun j hj => by
      refine getD_set_ne false fun e => ?_
      subst e
      have := av hj
      rw [hi] at this
      cases this
    constructor
    · rintro ⟨h1, h2⟩
      exact ⟨(h.quiet i hi L w).1 h1, fun hg => h2 fun j hj => by rw [e1 j hj]; exact hg j hj⟩
    · rintro ⟨h1, h2⟩
      exact ⟨(h.quiet i hi L w).2 h1, fun hg => h2 fun j hj => by rw [← e1 j hj]; exact hg j hj⟩
  · rw [← hL.ff (zj hj)]; exact hg j hj
theorem Cnd.tt {D : Nat → Bool} (h : Cnd l EM P M RS C) : Cnd l EM P M RS (fun L w => C L w ∧ ((∀ j, D j = true → L.getD j false = false) → True)) :=
  ⟨fun i hi L w => ⟨fun hx => ⟨(h.quiet i hi L w).1 hx.1, fun _ => trivial⟩, fun hx => ⟨(h.quiet i hi L w).2 hx.1, fun _ => trivial⟩⟩, fun M' L w hL hs hr => ⟨h.give M' L w hL hs hr, fun _ => trivial⟩⟩
theorem Cnd.eff {i : Nat} (h : Cnd l EM P M RS C) (hi : EM.testBit i = true) : Cnd l EM P (seen M i) (RS.filter fun r => !((ancs l []).getD i 0).testBit r.i) C := by
  refine ⟨h.quiet, fun M' L w hL hs hr => h.give M' L w hL (fun j hj => hs j (eW hj)) fun r hm hg => ?_⟩
  cases hb : ((ancs l []).getD i 0).testBit r.i with
  | false => exact hr r (List.mem_filter.2 ⟨hm, by simp only [hb]; rfl⟩) hg
  | true =>
    have h1 := hg i (by unfold dep; rw [hi, hb]; rfl)
    rw [hs i (by rw [kg]; simp)] at h1
    cases h1
theorem pb {am : Nat} {recs' : List QRec} {H : Hp} (h : qj am (RS.map dH) H = some recs') : recs' = (RS.filter fun r => !am.testBit r.i).map dH ∧ Held H (RS.filter fun r => !am.testBit r.i) := by
  have e1 : (RS.map dH).filter (fun x => !am.testBit x.1) = (RS.filter fun r => !am.testBit r.i).map dH := by
    rw [List.filter_map]; rfl
  unfold qj at h
  rw [e1] at h
  obtain ⟨h1, h2⟩ := aN h
  cases h2
  refine ⟨rfl, fun r hr => ?_⟩
  exact zp (List.all_eq_true.1 h1 (dH r) (List.mem_map_of_mem hr))
/-- the state, and how old the records are -/
def In0 (P : Program) (N : Nat) (F : Fm) (Γ : Gh) (β0 : Bt) (RS : List RecS) (s : St) (a : Act) (w : World) : Prop := ∃ β L, β0.le β ∧ SR P N F Γ β L s a w ∧ ∀ r ∈ RS, r.β.le β
theorem In0.sx (h : In0 P N F Γ β0 RS s a w) : SX P N F Γ β0 s a w := let ⟨β, L, h1, h2, _⟩ := h; ⟨β, L, h1, h2⟩
theorem In0.cond (h : In0 P N F Γ β0 RS s a w) (hB : Base P RS) (hH : Held s.H RS) (hC : Cnd l EM P M RS C) (hL : LR l.length M listed) : C listed w := by
  obtain ⟨β, L, _, hs, hr⟩ := h
  exact hC.give M listed w hL (fun _ h => h) fun r hm _ => hs.srec (hr r hm) (hH r hm) (hB r hm)
theorem iI (hlex : lexF l = true) {i : Nat} {o : Oper} (hi : isR l M i = true) (ho : l[i]? = some o) (hL : LR l.length M listed) :
    ∀ (j : Nat) (oj : Oper), l.toArray[j]? = some oj → j ≠ i → listed.getD j true = false → (∀ e ∈ oj.after, Region.binds .any e = true → e.on ≠ i) → o.apart l.toArray oj = true := by
  intro j oj hj hji hun hno
  have hj' : l[j]? = some oj := by simpa using hj
  exact oJ hlex hi ho hj' hji (by rw [← hL.bit j (List.getElem?_eq_some_iff.1 hj').1]; exact hun) hno
/-- a quiet step -/
theorem wM [TbOK R.P P] (hlex : lexF l = true) (hQ : ∀ c a w, ¬ Q (.panic c) a w) {i k : Nat} {recs1 : List QRec} (hi : isR l M i = true) (hE : EM.testBit i = false) (hL : LR l.length M listed) (hcl : Clo l.toArray listed)
    (hq : kQ i l l.toArray R s (RS.map dH) = some (s1, recs1)) (hB : Base P RS) (hH : Held s.H RS) (hC : Cnd l EM P M RS C) (hI : In0 P R.N F Γ β0 RS s a w)
    (hk : ∀ RS1 C1 a1, recs1 = RS1.map dH → Base P RS1 → Held s1.H RS1 → Cnd l EM P (seen M i) RS1 C1 → In0 P R.N F Γ β0 RS1 s1 a1 w → WA P l.toArray Q C1 k (listed.setIfInBounds i true) a1 w) : WA P l.toArray Q C (k + 1) listed a w := by
  have hCw := hI.cond hB hH hC hL
  obtain ⟨β, L, hb, hs, hr⟩ := hI
  obtain ⟨o, v, x, ho, hd, rfl, hv, hy⟩ := mi (ops := l.toArray) hq hs
  have ho' : l.toArray[i]? = some o := by simpa using ho
  have hrd := (bM (bv hlex) hL).2 hi
  have hput := hs.put hd (Bt.le.refl _) hv hs.mh hs.cur
  rcases hy with ⟨rfl, hy⟩ | ⟨b, ao, rfl, hg, hy⟩
  · refine jU (D := fun _ => false) ho' (cC hlex) (fun c a w h => absurd h (hQ _ _ _)) rfl (hC.quiet i hE) (fun _ _ _ j h => by cases h) k listed a w (iI hlex hi ho hL) hrd hcl hy trivial hCw ?_
    exact hk RS _ _ rfl hB hH (hC.tt.more fun j => eW) ⟨β, L, hb, hput, hr⟩
  · have hS : SRec P ⟨β, i, b, ao⟩ w := hs.srec (r := ⟨β, i, b, ao⟩) (Bt.le.refl _) hg (let ⟨row, _, h2⟩ := hs.mh.at_ hg; ⟨row, h2⟩)
    refine jU (D := dep l EM i) ho' (cC hlex) (fun c a w h => absurd h (hQ _ _ _)) (by unfold dep; rw [hE]; rfl) (hC.quiet i hE) (fun Ls hc hu j hj => ?_) k listed a w (iI hlex hi ho hL) hrd hcl hy hS hCw ?_
    · cases hjl : Ls.getD j false with
      | false => rfl
      | true =>
        have := ur hlex hc j i (ap hj) hjl
        rw [hu] at this
        cases this
    · refine hk (⟨β, i, b, ao⟩ :: RS) _ _ rfl ?_ ?_ ((hC.add (r := ⟨β, i, b, ao⟩)).more fun j => eW) ⟨β, L, hb, hput, ?_⟩
      · intro r hr'
        rcases List.mem_cons.1 hr' with rfl | hr'
        · exact let ⟨row, _, h2⟩ := hs.mh.at_ hg; ⟨row, h2⟩
        · exact hB r hr'
      · intro r hr'
        rcases List.mem_cons.1 hr' with rfl | hr'
        · exact hg
        · exact hH r hr'
      · intro r hr'
        rcases List.mem_cons.1 hr' with rfl | hr'
        · exact Bt.le.refl _
        · exact hr r hr'
/-- an operation with an effect, wherever it stands -/
theorem do_e [TbOK R.P P] (hcl0 : ClOK P Γ R.cl) (hex : ExOK P Γ R.ex) (hlex : lexF l = true) {i k : Nat} {o : Oper} {recs1 : List QRec} (hi : isR l M i = true) (ho : l[i]? = some o) (hE : EM.testBit i = true) (hL : LR l.length M listed) (hcl : Clo l.toArray listed)
    (hq : jX o l.toArray R s = some s1) (hkp : qj ((ancs l []).getD i 0) (RS.map dH) s1.H = some recs1) (hB : Base P RS) (hC : Cnd l EM P M RS C) (hI : In0 P R.N F Γ β0 RS s a w)
    (hk : ∀ RS1 a1 w1, recs1 = RS1.map dH → Base P RS1 → Held s1.H RS1 → Cnd l EM P (seen M i) RS1 C → In0 P R.N F Γ β0 RS1 s1 a1 w1 → WA P l.toArray Q C k (listed.setIfInBounds i true) a1 w1) :
    wpOp P l.toArray Q i (fun a' w' => C (listed.setIfInBounds i true) w' ∧ WA P l.toArray Q C k (listed.setIfInBounds i true) a' w') a w := by
  obtain ⟨β, L, hb, hs, hr⟩ := hI
  have ho' : l.toArray[i]? = some o := by simpa using ho
  obtain ⟨h1, h2⟩ := pb hkp
  have hB1 : Base P (RS.filter fun r => !((ancs l []).getD i 0).testBit r.i) := fun r hm => hB r (List.mem_filter.1 hm).1
  have hC1 := hC.eff hE
  have := mn (P := P) (F := F) (Γ := Γ) (β0 := β) (Q := Q) hcl0 hex hq ⟨β, L, Bt.le.refl _, hs⟩ (K := fun a' w' => C (listed.setIfInBounds i true) w' ∧ WA P l.toArray Q C k (listed.setIfInBounds i true) a' w') (fun a1 w1 hx => by
    obtain ⟨β1, L1, g1, g2⟩ := hx
    have hI1 : In0 P R.N F Γ β0 (RS.filter fun r => !((ancs l []).getD i 0).testBit r.i) s1 a1 w1 := ⟨β1, L1, hb.trans g1, g2, fun r hm => (hr r (List.mem_filter.1 hm).1).trans g1⟩
    exact ⟨hI1.cond hB1 h2 hC1 hL.set, hk _ a1 w1 h1 hB1 h2 hC1 hI1⟩)
  unfold wpOp
  simp only [ho']
  split
  · rename_i hw; rw [if_pos hw] at this; exact .inl this
  · rename_i hw; rw [if_neg hw] at this; exact this
/-- all have come up -/
theorem vG {a : Act} (hlex : lexF l = true) (hL : LR l.length M listed) (h : ((List.range l.length).all fun j => M.testBit j) = true) : Region.ready .any l.toArray listed = [] := by
  rw [List.eq_nil_iff_forall_not_mem]
  intro j hj
  have h1 := (bM (bv hlex) hL).1 hj
  have h2 := List.all_eq_true.1 h j (List.mem_range.2 (tz h1))
  rw [(gF h1).1] at h2
  cases h2
end
end
end Fw
end Go.Proofs.YtogmioecalmalaaGreat
namespace Go.Proofs.YtogmioecalmalaaGreat
namespace Fw
set_option linter.unusedVariables false
set_option linter.unusedSimpArgs false
set_option linter.unusedSectionVars false
open Go.RowKit Go.MapKept
noncomputable section
section
variable {P : Program} {F : Fm} {Γ : Gh} {β β0 : Bt} {L : List Rowb} {w : World} {N : Nat} {s s1 s' : St} {a : Act} {R : Rn} {l : List Oper} {EM M : Nat} {RS : List RecS} {C : Array Bool → World → Prop} {Q : Exit → Act → World → Prop} {listed : Array Bool}
/-- an operation that stands alone -/
theorem yT {i k : Nat} {o : Oper} (hlex : lexF l = true) (hi : isR l M i = true) (hln : ml l M i none = true) (hL : LR l.length M listed)
    (h : wpOp P l.toArray Q i (fun a' w' => C (listed.setIfInBounds i true) w' ∧ WA P l.toArray Q C k (listed.setIfInBounds i true) a' w') a w) : WA P l.toArray Q C (k + 1) listed a w := by
  refine ⟨fun h0 => ?_, fun j hj => ?_⟩
  · have := (bM (bv hlex) hL).2 hi
    rw [h0] at this
    cases this
  · rcases p9 hln ((bM (bv hlex) hL).1 hj) with rfl | h1
    · exact h
    · cases h1
theorem Clo.nil (n : Nat) (ops : Array Oper) : Clo ops (Array.replicate n false) := by
  intro j o _ hj
  exfalso
  simp only [Array.getD_eq_getD_getElem?, Array.getElem?_replicate] at hj
  split at hj <;> simp at hj
end
end
end Fw
end Go.Proofs.YtogmioecalmalaaGreat
namespace Go.Proofs.YtogmioecalmalaaGreat
namespace Fw
set_option linter.unusedVariables false
set_option linter.unusedSimpArgs false
set_option linter.unusedSectionVars false
open Go.RowKit Go.MapKept
noncomputable section
section
variable {P : Program} {β : Bt} {T : Tb} [TbOK T P] {ρ : Operand → Value} {E : Tr AV}
/-- one block, and a value that leads to it, whatever its number will be -/
def FlR (P : Program) (β : Bt) (fk : FK) (blk : AO) (v : Value) (g : Nat) (obj : Obj) : Prop :=
  ∃ m, ∀ id β', β.le β' → β' id = some (g, 0, m) → VR β' (mkF fk id) v ∧ OR P β' (some (g, 0, m)) (some blk) [(g, obj)]
theorem FlR.mono {γ : Bt} {fk : FK} {blk : AO} {v : Value} {g : Nat} {obj : Obj} (h : FlR P β fk blk v g obj) (hs : β.le γ) : FlR P γ fk blk v g obj := by
  obtain ⟨m, h⟩ := h
  exact ⟨m, fun id β' hb hi => h id β' (hs.trans hb) hi⟩
theorem x8 {cs : List AV} {arr : Array Value} {e : TypeId} {g : Nat} (h : CR β cs arr.toList) {β' : Bt} (hb : β.le β') : OR P β' (some (g, 0, arr.size)) (some (.cells cs e)) [(g, .cells arr e (0, 0))] := by
  have := OC.of_cr (g := g) (h.mono hb)
  exact ⟨_, arr, (0, 0), rfl, rfl, by simpa using this⟩
theorem zu (hρ : ∀ x, VR β (rho x E) (ρ x)) {o : Oper} {fk : FK} {blk : AO} (h : flA T o.op E = some (fk, blk)) (w : World) :
    ∃ v obj, (execOp ρ o).run P w = .ok (.value v) (w.alloc obj) ∧ FlR P β fk blk v w.heap.size obj := by
  obtain ⟨dst, op, ty, pos, after, guard⟩ := o
  simp only at h
  have hρ' : ∀ x, VR β (rhoE E x) (ρ x) := hρ
  unfold flA at h
  split at h
  · rename_i t
    obtain ⟨z0, hz0, h1⟩ := ab h
    obtain ⟨z, hz, h2⟩ := ab h1
    cases h2
    obtain ⟨x, i, g1, g2, g3, g4, g5⟩ := li (T := T) (P := P) (β := β) hz0
    have hc := je g3 hz
    refine ⟨.pointer (some ⟨w.heap.size, 0 + 0, none⟩), .cells x.cells t (0, 0), by simp [execOp, Instr.alloc, g5, gG], x.cells.size, fun id β' hb hi => ⟨.ptr hi, x8 hc hb⟩⟩
  · rename_i t x
    obtain ⟨z, hz, h2⟩ := ab h
    cases h2
    have hc := je (hρ x) hz
    refine ⟨.pointer (some ⟨w.heap.size, 0 + 0, none⟩), .cells (ρ x).cells t (0, 0), by simp [execOp, Instr.box, gG], (ρ x).cells.size, fun id β' hb hi => ⟨.ptr hi, x8 hc hb⟩⟩
  · rename_i t k ps
    split at h
    · rename_i e hu
      obtain ⟨z, hz, h1⟩ := ab h
      obtain ⟨hk, h2⟩ := aN h1
      obtain ⟨cs, hfl, h3⟩ := ab h2
      cases h3
      have hk := Nat.le_of_ble_eq_true hk
      obtain ⟨i, v, hi, hzv, hc, hvs, hzl, hpos⟩ := qC (β := β) hz
      have hrep := oh hc k
      obtain ⟨ys, g1, g2, g3⟩ := lF hρ' ps.toList hrep hfl
      have hn : ¬ (k * i.size > 2 ^ 24) := by rw [← hzl]; omega
      have hsz : ∀ w, (sizeOf e).run P w = .ok i.size w := fun w => by simp [sizeOf, typeInfo, hi]
      have hzr : ∀ w, (zeroValue e).run P w = .ok v w := fun w => by simp [zeroValue, typeInfo, hi, hzv]
      have hr := mS v.cells (by omega) k
      rw [hvs] at hr
      rw [hzl] at g1
      have run : (Instr.buildSlice t k (ps.map fun (i, x) => (i, ρ x))).run P w = .ok (.slice (some ⟨w.heap.size, 0 + 0, none⟩) k k) (w.alloc (.cells ys.toArray e (0, 0))) := by
        unfold Instr.buildSlice
        simp only [Sem.run_bind, aA hu, Result.andThen_ok, hsz, if_neg hn, Sem.run_pure]
        by_cases h0 : k * i.size = 0
        · have hk0 : k = 0 := by rcases Nat.mul_eq_zero.1 h0 with h | h <;> omega
          subst hk0
          simp only [Nat.zero_mul, if_true, Sem.run_bind, Sem.run_pure, Result.andThen_ok, gz]
          have e1 : (Array.map (fun x => (#[] : Array Value)[x % (#[] : Array Value).size]!) (Array.range 0)) = (repL 0 v.cells.toList).toArray := by simp [repL]
          rw [e1, g1]
          rfl
        · rw [if_neg h0]
          simp only [Sem.run_bind, hzr, Result.andThen_ok, Sem.run_pure, gz]
          rw [hvs, hr, g1]
          rfl
      refine ⟨.slice (some ⟨w.heap.size, 0 + 0, none⟩) k k, .cells ys.toArray e (0, 0), by simp only [execOp]; rw [Sem.run_bind, run]; rfl, ys.toArray.size, fun id β' hb hi => ⟨.slc hi, x8 (by simpa using g2) hb⟩⟩
    · cases h
  · rename_i t
    split at h
    · rename_i kt et hu
      cases h
      refine ⟨.map (some w.heap.size), .map #[] 0, by simp [execOp, Instr.makeMap, newObj, Sem.run], 0, fun id β' hb hi => ⟨.map hi, ⟨_, #[], rfl, rfl, trivial⟩⟩⟩
    · cases h
  · cases h
end
end
end Fw
end Go.Proofs.YtogmioecalmalaaGreat
namespace Go.Proofs.YtogmioecalmalaaGreat
namespace Fw
set_option linter.unusedVariables false
set_option linter.unusedSimpArgs false
set_option linter.unusedSectionVars false
open Go.RowKit Go.MapKept
noncomputable section
section
variable {P : Program} {F : Fm} {Γ : Gh} {β β0 : Bt} {L : List Rowb} {w : World} {N : Nat} {s s1 s' : St} {a : Act} {R : Rn} {l : List Oper} {EM M : Nat} {RS : List RecS} {C : Array Bool → World → Prop} {Q : Exit → Act → World → Prop} {listed : Array Bool} {T : Tb}
theorem tO {dst : Option Nat} {E : Tr AV} {v : AV} {x : Operand} (h : ∀ d, dst = some d → x ≠ .tmp d) : rho x (putA dst E v) = rho x E := by
  cases dst with
  | none => rfl
  | some d =>
    cases x with
    | tmp t =>
      show rho (.tmp t) (E.set d (some v)) = _
      rw [o5, if_neg fun e => h d rfl (by rw [e])]
    | _ => rfl
theorem xy {ops : Array Oper} {o : Oper} {dst : Option Nat} {E : Tr AV} {v : AV} (h : ∀ d, dst = some d → d ∉ o.looksAt ops) : flA T o.op (putA dst E v) = flA T o.op E := by
  have key : ∀ x ∈ o.op.operands, rho x (putA dst E v) = rho x E := fun x hx => tO fun d hd hxd => h d hd (by
    subst hxd
    exact List.mem_append_left _ (List.mem_filterMap.2 ⟨.tmp d, by simpa using hx, rfl⟩))
  obtain ⟨d', op, ty, pos, after, guard⟩ := o
  simp only at key ⊢
  cases op with
  | box t x => unfold flA; simp only; rw [key x (by simp [Op.operands])]
  | buildSlice t n ps =>
    have : eF (rhoE (putA dst E v)) ps = eF (rhoE E) ps := by
      unfold eF
      refine List.map_congr_left fun p hp => ?_
      have := key p.2 (by simp only [Op.operands]; simp; exact ⟨p.1, by simpa using hp⟩)
      unfold rhoE
      rw [this]
    unfold flA; simp only; rw [this]
  | makeMap t r => cases r <;> rfl
  | _ => rfl
theorem qA {o : Oper} {ops : Array Oper} (h : jX o ops R s = some s1) : ∃ x, s1.E = putA o.dst s.E x := by
  obtain ⟨E, H, n, ds⟩ := s
  unfold jX at h
  simp only at h
  cases hd : okD o.dst R.N with
  | false => rw [hd] at h; cases h
  | true =>
    rw [hd] at h
    simp only at h
    cases hw : m9 o ops E with
    | false => rw [hw] at h; cases h; exact ⟨_, rfl⟩
    | true =>
      rw [hw] at h
      simp only at h
      cases hi : oc o.op with
      | some c =>
        rw [hi] at h
        obtain ⟨d, h1, h2⟩ := ab (show bd (ox c E) _ = some s1 from h)
        cases h2
        exact ⟨_, rfl⟩
      | none =>
        rw [hi] at h
        simp only at h
        cases hq : opA o.op R H n n (n + 1) E with
        | none => rw [hq] at h; cases h
        | some r =>
          obtain ⟨v, H', n'⟩ := r
          rw [hq] at h
          cases h
          exact ⟨_, rfl⟩
/-- the floating operation has come -/
def In2 (P : Program) (N : Nat) (F : Fm) (Γ : Gh) (β0 : Bt) (RS : List RecS) (o : Oper) (x : FK × AO) (s : St) (a : Act) (w : World) : Prop :=
  ∃ β L a0 xv g obj, β0.le β ∧ a = a0.put o.dst xv ∧ SR P N F Γ β L s a0 w ∧ FlR P β x.1 x.2 xv g obj ∧ Cur F Γ (L ++ [[(g, obj)]]) w ∧ ∀ r ∈ RS, r.β.le β
/-- it comes -/
theorem do_f [TbOK R.P P] {g k : Nat} {o : Oper} {x : FK × AO} (ho : l[g]? = some o) (hfk : oR o = true) (hfl : flA R.P o.op s.E = some x) (hI : In0 P R.N F Γ β0 RS s a w) {K : Act → World → Prop}
    (hk : ∀ a1 w1, In2 P R.N F Γ β0 RS o x s a1 w1 → K a1 w1) : wpOp P l.toArray Q g K a w := by
  obtain ⟨β, L, hb, hs, hr⟩ := hI
  have ho' : l.toArray[g]? = some o := by simpa using ho
  obtain ⟨v, obj, h1, h2⟩ := zu (T := R.P) (P := P) hs.eval (fk := x.1) (blk := x.2) hfl w
  have hgd : o.guard = none := by
    unfold oR at hfk
    split at hfk <;> first | assumption | cases hfk
  unfold wpOp
  simp only [ho', Region.wanted, hgd, if_true]
  refine .inl ?_
  unfold Oper.wp
  rw [h1]
  have hc : Cur F Γ (L ++ [[(w.heap.size, obj)]]) (w.alloc obj) := (hs.cur.new obj).permL (List.perm_append_comm (l₁ := L) (l₂ := [[(w.heap.size, obj)]]))
  exact hk _ _ ⟨β, L, a, v, w.heap.size, obj, hb, rfl, ⟨hs.size, hs.env, hs.mh, hc.sub (List.sublist_append_left _ _), hs.ds⟩, h2, hc, hr⟩
/-- it has come, and here is its place -/
theorem In2.close {g : Nat} {o : Oper} {x : FK × AO} {RS' : List RecS} (hd : okD o.dst N = true) (h : In2 P N F Γ β0 RS o x s a w) (hsub : ∀ r ∈ RS', r ∈ RS) : In0 P N F Γ β0 RS' ⟨putA o.dst s.E (mkF x.1 s.n), s.H.set s.n (some x.2), s.n + 1, s.ds⟩ a w := by
  obtain ⟨β, L, a0, xv, g, obj, hb, rfl, hs, ⟨m, hf⟩, hc, hr⟩ := h
  have hnew : β s.n = none := hs.mh.new _ (Nat.le_refl _)
  have hle : β.le (bup β s.n (g, 0, m)) := db hnew
  obtain ⟨h1, h2⟩ := hf s.n _ hle ep
  have hm := hs.mh.ext.setNew (id := s.n) (p := (g, 0, m)) (Nat.lt_succ_self _) hnew h2
  have el : (L ++ [[]]).set s.n [(g, obj)] = L ++ [[(g, obj)]] := by rw [← hs.mh.len]; simp
  rw [el] at hm
  exact ⟨_, _, hb.trans hle, hs.put hd hle h1 hm hc, fun r hm' => (hr r (hsub r hm')).trans hle⟩
theorem In2.cond {o : Oper} {x : FK × AO} {M1 : Nat} (h : In2 P N F Γ β0 RS o x s a w) (hB : Base P RS) (hH : Held s.H RS) (hC : Cnd l EM P M RS C) (hM : ∀ j, M.testBit j = true → M1.testBit j = true) (hL : LR l.length M1 listed) : C listed w := by
  obtain ⟨β, L, a0, xv, g, obj, hb, rfl, hs, hf, hc, hr⟩ := h
  exact hC.give M1 listed w hL hM fun r hm _ => hs.srec (hr r hm) (hH r hm) (hB r hm)
end
end
end Fw
end Go.Proofs.YtogmioecalmalaaGreat
namespace Go.Proofs.YtogmioecalmalaaGreat
namespace Fw
set_option linter.unusedVariables false
set_option linter.unusedSimpArgs false
set_option linter.unusedSectionVars false
open Go.RowKit Go.MapKept
noncomputable section
section
variable {P : Program} {F : Fm} {Γ : Gh} {β β0 : Bt} {L : List Rowb} {w : World} {N : Nat} {s s1 s' : St} {a : Act} {R : Rn} {l : List Oper} {EM M : Nat} {RS : List RecS} {C : Array Bool → World → Prop} {Q : Exit → Act → World → Prop} {listed : Array Bool} {T : Tb}
/-- two that are ready side by side are apart -/
theorem kC (hlex : lexF l = true) {g i : Nat} {og oi : Oper} (hg : isR l M g = true) (hog : l[g]? = some og) (hi : isR l M i = true) (hoi : l[i]? = some oi) (hne : i ≠ g) : og.apart l.toArray oi = true :=
  oJ hlex hg hog hoi hne (gF hi).1 fun e he hb hon => by
    obtain ⟨_, o', ho', hall⟩ := gF hi
    rw [hoi] at ho'
    cases ho'
    have := hall e he hb
    rw [hon, (gF hg).1] at this
    cases this
theorem jS {g i : Nat} (hi : isR l M i = true) (hne : i ≠ g) : isR l (seen M g) i = true := by
  obtain ⟨h1, o, ho, hall⟩ := gF hi
  unfold isR
  rw [ho, kg, h1]
  simp only [Bool.false_or, Bool.and_eq_true, Bool.not_eq_true', decide_eq_false_iff_not, List.all_eq_true]
  refine ⟨fun e => hne e.symm, fun e he => ?_⟩
  cases hb : Region.binds .any e with
  | false => rfl
  | true => simp only [Bool.not_true, Bool.false_or]; exact eW (hall e (by simpa using he) hb)
/-- an effect while it floats -/
theorem Aw [TbOK R.P P] (hcl0 : ClOK P Γ R.cl) (hex : ExOK P Γ R.ex) (hlex : lexF l = true) (hQ : ∀ c a w, ¬ Q (.panic c) a w) {g i k : Nat} {og o : Oper} {x : FK × AO} {recs1 : List QRec} (hap : og.apart l.toArray o = true) (ho : l[i]? = some o) (hE : EM.testBit i = true) (hL : LR l.length (seen M g) listed)
    (hq : jX o l.toArray R s = some s1) (hkp : qj ((ancs l []).getD i 0) (RS.map dH) s1.H = some recs1) (hB : Base P RS) (hC : Cnd l EM P M RS C) (hI : In2 P R.N F Γ β0 RS og x s a w)
    (hk : ∀ RS1 a1 w1, recs1 = RS1.map dH → Base P RS1 → Held s1.H RS1 → Cnd l EM P (seen M i) RS1 C → In2 P R.N F Γ β0 RS1 og x s1 a1 w1 → WA P l.toArray Q C k (listed.setIfInBounds i true) a1 w1) :
    wpOp P l.toArray Q i (fun a' w' => C (listed.setIfInBounds i true) w' ∧ WA P l.toArray Q C k (listed.setIfInBounds i true) a' w') a w := by
  obtain ⟨β, L, a0, xv, gb, obj, hb, rfl, hs, hf, hc, hr⟩ := hI
  have ho' : l.toArray[i]? = some o := by simpa using ho
  obtain ⟨h1, h2⟩ := pb hkp
  have hB1 : Base P (RS.filter fun r => !((ancs l []).getD i 0).testBit r.i) := fun r hm => hB r (List.mem_filter.1 hm).1
  have hC1 := hC.eff hE
  obtain ⟨F2, hF2⟩ : ∃ F2 : Fm, F2 = ⟨ids L, w, Γ⟩ := ⟨_, rfl⟩
  have hs2 : SR P R.N F2 Γ β L s a0 w := ⟨hs.size, hs.env, hs.mh, hF2 ▸ hs.cur.pre.start, hs.ds⟩
  have hst := mn (P := P) (F := F2) (Γ := Γ) (β0 := β) (Q := Q) (K := SX P R.N F2 Γ β s1) hcl0 hex hq ⟨β, L, Bt.le.refl _, hs2⟩ (ops := l.toArray) (fun _ _ h => h)
  refine wpOp_mono (fun a' w' h => ?_) (q5 (v := xv) ho' hap (fun cs b => cC hlex i o cs b ho') hQ hst)
  obtain ⟨a1, rfl, β1, L1, g1, g2⟩ := h
  have he : Eff Γ Γ L L1 w w' := (hF2 ▸ g2.cur : Cur ⟨ids L, w, Γ⟩ Γ L1 w').toEff
  have hc1 : Cur F Γ (L1 ++ [[(gb, obj)]]) w' := Cur.eff hc he
  have hI1 : In2 P R.N F Γ β0 (RS.filter fun r => !((ancs l []).getD i 0).testBit r.i) og x s1 (a1.put og.dst xv) w' :=
    ⟨β1, L1, a1, xv, gb, obj, hb.trans g1, rfl, ⟨g2.size, g2.env, g2.mh, hc1.sub (List.sublist_append_left _ _), g2.ds⟩, hf.mono g1, hc1, fun r hm => (hr r (List.mem_filter.1 hm).1).trans g1⟩
  refine ⟨hI1.cond hB1 h2 hC1 (fun j hj => ?_) hL.set, hk _ _ _ h1 hB1 h2 hC1 hI1⟩
  rw [kg] at hj ⊢
  rcases Bool.or_eq_true .. ▸ hj with h | h
  · rw [eW h]; rfl
  · rw [h]; simp
end
end
end Fw
end Go.Proofs.YtogmioecalmalaaGreat
namespace Go.Proofs.YtogmioecalmalaaGreat
namespace Fw
set_option linter.unusedVariables false
set_option linter.unusedSimpArgs false
set_option linter.unusedSectionVars false
open Go.RowKit Go.MapKept
noncomputable section
section
variable {P : Program} {F : Fm} {Γ : Gh} {β β0 : Bt} {L : List Rowb} {w : World} {N : Nat} {s s1 s' : St} {a : Act} {R : Rn} {l : List Oper} {EM M : Nat} {RS : List RecS} {C : Array Bool → World → Prop} {Q : Exit → Act → World → Prop} {listed : Array Bool} {T : Tb}
theorem xq [TbOK R.P P] (hlex : lexF l = true) (hQ : ∀ c a w, ¬ Q (.panic c) a w) {g i k : Nat} {og : Oper} {x : FK × AO} {recs1 : List QRec} (hi : isR l (seen M g) i = true) (hap : ∀ o, l[i]? = some o → og.apart l.toArray o = true) (hE : EM.testBit i = false) (hL : LR l.length (seen M g) listed) (hcl : Clo l.toArray listed)
    (hq : kQ i l l.toArray R s (RS.map dH) = some (s1, recs1)) (hB : Base P RS) (hH : Held s.H RS) (hC : Cnd l EM P M RS C) (hI : In2 P R.N F Γ β0 RS og x s a w)
    (hk : ∀ RS1 C1 a1, recs1 = RS1.map dH → Base P RS1 → Held s1.H RS1 → Cnd l EM P (seen M i) RS1 C1 → In2 P R.N F Γ β0 RS1 og x s1 a1 w → WA P l.toArray Q C1 k (listed.setIfInBounds i true) a1 w) : WA P l.toArray Q C (k + 1) listed a w := by
  have hCw := hI.cond (EM := EM) hB hH hC (fun j => eW) hL
  obtain ⟨β, L, a0, xv, gb, obj, hb, rfl, hs, hf, hc, hr⟩ := hI
  obtain ⟨o, v, y, ho, hd, rfl, hv, hy⟩ := mi (ops := l.toArray) hq hs
  have ho' : l.toArray[i]? = some o := by simpa using ho
  have hrd := (bM (bv hlex) hL).2 hi
  obtain ⟨p1, p2, p3⟩ := Oper.apart_spec (hap o ho)
  have hput := hs.put hd (Bt.le.refl _) hv hs.mh hs.cur
  have hcm : (a0.put og.dst xv).put o.dst v = (a0.put o.dst v).put og.dst xv := Act.put_comm a0 xv v p2
  have same : ∀ {S : World → Prop}, YieldsIf P l.toArray S o v a0 → YieldsIf P l.toArray S o v (a0.put og.dst xv) := fun h =>
    h.of_same (execOp_put o (fun cs b => cC hlex i o cs b ho') a0 og.dst xv p1) (wanted_put o a0 og.dst xv p1)
  have inv : ∀ {RS1 : List RecS}, (∀ r ∈ RS1, r.β.le β) → In2 P R.N F Γ β0 RS1 og x ⟨putA o.dst s.E y, s.H, s.n, s.ds⟩ ((a0.put og.dst xv).put o.dst v) w := fun h => ⟨β, L, a0.put o.dst v, xv, gb, obj, hb, hcm, hput, hf, hc, h⟩
  rcases hy with ⟨rfl, hy⟩ | ⟨b, ao, rfl, hg, hy⟩
  · refine jU (D := fun _ => false) ho' (cC hlex) (fun c a w h => absurd h (hQ _ _ _)) rfl (hC.quiet i hE) (fun _ _ _ j h => by cases h) k listed _ w (iI hlex hi ho hL) hrd hcl (same hy) trivial hCw ?_
    exact hk RS _ _ rfl hB hH (hC.tt.more fun j => eW) (inv hr)
  · have hS : SRec P ⟨β, i, b, ao⟩ w := hs.srec (r := ⟨β, i, b, ao⟩) (Bt.le.refl _) hg (let ⟨row, _, h2⟩ := hs.mh.at_ hg; ⟨row, h2⟩)
    refine jU (D := dep l EM i) ho' (cC hlex) (fun c a w h => absurd h (hQ _ _ _)) (by unfold dep; rw [hE]; rfl) (hC.quiet i hE) (fun Ls hc hu j hj => ?_) k listed _ w (iI hlex hi ho hL) hrd hcl (same hy) hS hCw ?_
    · cases hjl : Ls.getD j false with
      | false => rfl
      | true =>
        have := ur hlex hc j i (ap hj) hjl
        rw [hu] at this
        cases this
    · refine hk (⟨β, i, b, ao⟩ :: RS) _ _ rfl ?_ ?_ ((hC.add (r := ⟨β, i, b, ao⟩)).more fun j => eW) (inv ?_)
      · intro r hr'
        rcases List.mem_cons.1 hr' with rfl | hr'
        · exact let ⟨row, _, h2⟩ := hs.mh.at_ hg; ⟨row, h2⟩
        · exact hB r hr'
      · intro r hr'
        rcases List.mem_cons.1 hr' with rfl | hr'
        · exact hg
        · exact hH r hr'
      · intro r hr'
        rcases List.mem_cons.1 hr' with rfl | hr'
        · exact Bt.le.refl _
        · exact hr r hr'
end
end
end Fw
end Go.Proofs.YtogmioecalmalaaGreat
namespace Go.Proofs.YtogmioecalmalaaGreat
namespace Fw
set_option linter.unusedVariables false
set_option linter.unusedSimpArgs false
set_option linter.unusedSectionVars false
open Go.RowKit Go.MapKept
noncomputable section
section
variable {P : Program} {F : Fm} {Γ : Gh} {β0 : Bt} {s' : St} {R : Rn} {l : List Oper} {EM : Nat} {Q : Exit → Act → World → Prop}
theorem lV {M i k : Nat} {f : Option Nat} {C : Array Bool → World → Prop} {listed : Array Bool} {a : Act} {w : World} (hlex : lexF l = true) (hi : isR l M i = true) (hln : ml l M i f = true) (hL : LR l.length M listed)
    (h : ∀ j, j = i ∨ f = some j → isR l M j = true → wpOp P l.toArray Q j (fun a' w' => C (listed.setIfInBounds j true) w' ∧ WA P l.toArray Q C k (listed.setIfInBounds j true) a' w') a w) : WA P l.toArray Q C (k + 1) listed a w := by
  refine ⟨fun h0 => ?_, fun j hj => ?_⟩
  · have := (bM (bv hlex) hL).2 hi
    rw [h0] at this
    cases this
  · have hjr := (bM (bv hlex) hL).1 hj
    exact h j (p9 hln hjr) hjr
/-- the way on from the place of what floats -/
theorem rO {M g : Nat} {RS : List RecS} {C : Array Bool → World → Prop} {s : St} {o : Oper} {x : FK × AO} {L : List Rowb} {β : Bt} {N : Nat} {a : Act} {w : World} (hs : SR P N F Γ β L s a w) (hH : Held s.H RS) (hB : Base P RS) (hC : Cnd l EM P M RS C) (hE : EM.testBit g = true) :
    let RS1 := RS.filter fun r => !((ancs l []).getD g 0).testBit r.i
    (RS.map dH).filter (fun y => !((ancs l []).getD g 0).testBit y.1) = RS1.map dH ∧ Base P RS1 ∧ Held (s.H.set s.n (some x.2)) RS1 ∧ Cnd l EM P (seen M g) RS1 C := by
  refine ⟨by rw [List.filter_map]; rfl, fun r hm => hB r (List.mem_filter.1 hm).1, fun r hm => ?_, hC.eff hE⟩
  have h1 := hH r (List.mem_filter.1 hm).1
  rw [Tr.get_set, if_neg]
  · exact h1
  · intro e
    rw [e, hs.mh.out _ (Nat.le_refl _)] at h1
    cases h1
end
end
end Fw
end Go.Proofs.YtogmioecalmalaaGreat
namespace Go.Proofs.YtogmioecalmalaaGreat
namespace Fw
set_option linter.unusedVariables false
set_option linter.unusedSimpArgs false
set_option linter.unusedSectionVars false
open Go.RowKit Go.MapKept
noncomputable section
section
variable {P : Program} {F : Fm} {Γ : Gh} {β0 : Bt} {s' : St} {R : Rn} {l : List Oper} {EM : Nat} {Q : Exit → Act → World → Prop}
/-- nothing floats -/
def G0 (P : Program) (F : Fm) (Γ : Gh) (β0 : Bt) (s' : St) (R : Rn) (l : List Oper) (EM : Nat) (Q : Exit → Act → World → Prop) (pl : List Pst) : Prop :=
  ∀ (M k : Nat) (s : St) (RS : List RecS) (C : Array Bool → World → Prop) (listed : Array Bool) (a : Act) (w : World),
    gN l EM pl M none k = true → runP l l.toArray (ancs l []) R pl none s (RS.map dH) = some s' → Base P RS → Held s.H RS → Cnd l EM P M RS C → LR l.length M listed → Clo l.toArray listed → In0 P R.N F Γ β0 RS s a w → WA P l.toArray Q C k listed a w
structure Flo (R : Rn) (l : List Oper) (EM M g : Nat) (o : Oper) (x : FK × AO) (s : St) : Prop where
  rdy : isR l M g = true
  at_ : l[g]? = some o
  knd : oR o = true
  dst : okD o.dst R.N = true
  em : EM.testBit g = true
  val : flA R.P o.op s.E = some x
def G2 (P : Program) (F : Fm) (Γ : Gh) (β0 : Bt) (s' : St) (R : Rn) (l : List Oper) (EM : Nat) (Q : Exit → Act → World → Prop) (pl : List Pst) : Prop :=
  ∀ (M k g : Nat) (o : Oper) (x : FK × AO) (s : St) (RS : List RecS) (C : Array Bool → World → Prop) (listed : Array Bool) (a : Act) (w : World),
    gN l EM pl M (some g) (k + 1) = true → runP l l.toArray (ancs l []) R pl (some (g, x)) s (RS.map dH) = some s' → Flo R l EM M g o x s → Base P RS → Held s.H RS → Cnd l EM P M RS C → LR l.length (seen M g) listed → Clo l.toArray listed → In2 P R.N F Γ β0 RS o x s a w → WA P l.toArray Q C k listed a w
theorem Flo.step {M g i : Nat} {o oi : Oper} {x : FK × AO} {s s1 : St} {y : AV} (hlex : lexF l = true) (h : Flo R l EM M g o x s) (hi : isR l M i = true) (hoi : l[i]? = some oi) (hne : i ≠ g) (he : s1.E = putA oi.dst s.E y) : Flo R l EM (seen M i) g o x s1 := by
  have hap := kC hlex h.rdy h.at_ hi hoi hne
  obtain ⟨p1, p2, p3⟩ := Oper.apart_spec hap
  exact ⟨jS h.rdy (Ne.symm hne), h.at_, h.knd, h.dst, h.em, by rw [he, xy p3]; exact h.val⟩
theorem ky {M i j : Nat} : seen (seen M i) j = seen (seen M j) i := by
  unfold seen
  rw [Nat.or_assoc, Nat.or_comm (1 <<< i), ← Nat.or_assoc]
theorem jN {pl : List Pst} {M g k : Nat} (h : gN l EM pl M (some g) k = true) : ∃ k', k = k' + 1 := by
  cases k with
  | succ k => exact ⟨k, rfl⟩
  | zero => cases pl with
    | nil => cases h
    | cons p r => cases p <;> cases h
/-- an operation does the same where another's value already lies in its slot (as it is told) -/
theorem uF {ops : Array Oper} {oi oj : Oper} {v : Value} (hap : oi.apart ops oj = true) (hsj : ∀ cs b, oj.op ≠ .select cs b)
    (hQ : ∀ c a w, ¬ Q (.panic c) a w) {K : Act → World → Prop} {a : Act} {w : World} (h : if Region.wanted oj (yielded ops a.tmps) then oj.wp P a w K Q else K (a.put oj.dst undef) w) :
    if Region.wanted oj (yielded ops (a.put oi.dst v).tmps) then oj.wp P (a.put oi.dst v) w (fun a' w' => ∃ a0, a' = a0.put oi.dst v ∧ K a0 w') Q else (∃ a0, (a.put oi.dst v).put oj.dst undef = a0.put oi.dst v ∧ K a0 w) := by
  obtain ⟨h1, h2, h3⟩ := Oper.apart_spec hap
  have hcm : ∀ (a : Act) (u : Value), (a.put oi.dst v).put oj.dst u = (a.put oj.dst u).put oi.dst v := fun a u => Act.put_comm a v u h2
  rw [wanted_put oj a oi.dst v h1]
  split
  · rename_i hw
    rw [if_pos hw] at h
    unfold Oper.wp at *
    rw [execOp_put oj hsj a oi.dst v h1]
    generalize (execOp a.eval oj).run P w = r at *
    cases r with
    | ok n w' =>
      cases n <;> simp only [Oper.upon] at h ⊢
      case value u => exact ⟨_, hcm a u, h⟩
      case skip => exact ⟨_, hcm a _, h⟩
      case defer d => exact ⟨({ a with defers := d :: a.defers } : Act).put oj.dst undef, by rw [← hcm, Act.put_defers], h⟩
      case enter f args =>
        refine Calls.mono h fun e w'' he => ?_
        cases e with
        | returned u => exact ⟨_, hcm a u, he⟩
        | panicked c => exact absurd he (hQ _ _ _)
        | outgrown => exact he
      case row row args => exact Rows.mono h fun u w'' he => ⟨_, hcm a u, he⟩
    | halt x w' =>
      cases x <;> simp only [Oper.upon] at h ⊢
      case panic u => exact absurd h (hQ _ _ _)
  · rename_i hw
    rw [if_neg hw] at h
    exact ⟨_, hcm a _, h⟩
theorem zK {β : Bt} {E : Tr AV} {a : Act} (h : ∀ t, VR β (rho (.tmp t) E) (a.tmps.getD t undef)) : ∀ x, VR β (rho x E) (a.eval x) := by
  intro x
  cases x with
  | tmp t => exact h t
  | const v => exact tn v
  | global g => exact .v _
  | func f => exact .fn .nil .nil
theorem te {t : TypeId} {ps : Array (Nat × Operand)} {E E' : Tr AV} (h : ∀ x ∈ (Op.build t ps).operands, rho x E = rho x E') : eF (rhoE E) ps = eF (rhoE E') ps := by
  unfold eF
  refine List.map_congr_left fun p hp => ?_
  have := h p.2 (by simp only [Op.operands]; simp; exact ⟨p.1, by simpa using hp⟩)
  unfold rhoE
  rw [this]
theorem vI {β γ : Bt} {i : Nat} {p : Pl} (h : β.le γ) : (bup β i p).le (bup γ i p) := by
  intro j q hq
  unfold bup at hq ⊢
  split at hq
  · rename_i hj; rw [if_pos hj]; exact hq
  · rename_i hj; rw [if_neg hj]; exact h j q hq
theorem zB [TbOK R.P P] (hcl0 : ClOK P Γ R.cl) (hex : ExOK P Γ R.ex) (hlex : lexF l = true) (hQ : ∀ c a w, ¬ Q (.panic c) a w) {p : Nat} {r' : List Pst} (h0 : G0 P F Γ β0 s' R l EM Q r') {M k g i : Nat} {o oi : Oper} {x : FK × AO} {s s1 : St} {RS : List RecS} {recs1 : List QRec} {C : Array Bool → World → Prop} {listed : Array Bool} {a : Act} {w : World}
    (hi : isR l M i = true) (hE : EM.testBit i = true) (hne : i ≠ g) (halt : altR l EM M g i (.c :: .q p :: r') = true) (hpr : gN l EM (.c :: .q p :: r') (seen M i) (some g) k = true) (hoi : l[i]? = some oi) (hst : jX oi l.toArray R s = some s1) (hnn : Nat.ble s.n s1.n = true)
    (hkp : qj ((ancs l []).getD i 0) (RS.map dH) s1.H = some recs1) (hr4 : runP l l.toArray (ancs l []) R (.c :: .q p :: r') (some (g, x)) s1 recs1 = some s') (hfl : Flo R l EM M g o x s)
    (hB : Base P RS) (hH : Held s.H RS) (hC : Cnd l EM P M RS C) (hL : LR l.length (seen M g) listed) (hcl : Clo l.toArray listed) (hI : In2 P R.N F Γ β0 RS o x s a w) : WA P l.toArray Q C k listed a w := by
  have hCw := hI.cond (EM := EM) hB hH hC (fun j => eW) hL
  -- the plan's conditions
  have hrp : isR l (seen M g) p = true := av halt
  have hpi : p ≠ i := fun e => by have := av (ap halt); rw [e, Nat.beq_refl] at this; cases this
  have hbk := av (ap (ap halt))
  have hln3 := ap (ap (ap (ap halt)))
  obtain ⟨k1, rfl⟩ : ∃ k1, k = k1 + 1 := by cases k with | zero => cases hpr | succ k => exact ⟨k, rfl⟩
  have hpr2 : gN l EM (.q p :: r') (seen (seen M i) g) none k1 = true := ap (ap hpr)
  obtain ⟨k2, rfl⟩ : ∃ k2, k1 = k2 + 1 := by cases k1 with | zero => cases hpr2 | succ k => exact ⟨k, rfl⟩
  have hEp : EM.testBit p = false := by simpa using av (ap hpr2)
  have hpr3 : gN l EM r' (seen (seen (seen M i) g) p) none k2 = true := ap (ap hpr2)
  -- the run
  obtain ⟨o2, ho2, hr5⟩ := ab (show bd (l[g]?) _ = some s' from hr4)
  rw [hfl.at_] at ho2
  cases ho2
  obtain ⟨⟨s3, recs3⟩, hq, hr6⟩ := ab (show bd (kQ p l l.toArray R ⟨putA o.dst s1.E (mkF x.1 s1.n), s1.H.set s1.n (some x.2), s1.n + 1, s1.ds⟩ (recs1.filter fun y => !((ancs l []).getD g 0).testBit y.1)) _ = some s' from hr5)
  unfold kQ at hq
  obtain ⟨op, hop, hq1⟩ := ab hq
  obtain ⟨hdp, hq2⟩ := aN hq1
  rw [hop] at hbk
  simp only at hbk
  obtain ⟨t, ps, hpo, hpg⟩ : ∃ t ps, op.op = .build t ps ∧ op.guard = none := by
    unfold wE at hbk
    split at hbk
    · rename_i t ps h1 h2; exact ⟨t, ps, h1, h2⟩
    · cases hbk
  have hwa : m9 op l.toArray (putA o.dst s1.E (mkF x.1 s1.n)) = true := by unfold m9; rw [hpg]
  simp only at hq2
  rw [hwa] at hq2
  obtain ⟨⟨y, rd⟩, hbq, hq3⟩ := ab (show bd (opQ op.op R.P (s1.H.set s1.n (some x.2)).get (putA o.dst s1.E (mkF x.1 s1.n))) _ = some (s3, recs3) from hq2)
  rw [hpo] at hbq
  obtain ⟨y', hy', hy2⟩ := ab (show bd (pr R.P t (eF (rhoE (putA o.dst s1.E (mkF x.1 s1.n))) ps)) _ = some (y, rd) from hbq)
  cases hy2
  cases hq3
  -- where it floats
  obtain ⟨β, L, a0, xv, gb, obj, hb, rfl, hs, ⟨m, hf⟩, hc, hr⟩ := hI
  have hi2 := jS (g := g) hi hne
  have hap1 : oi.apart l.toArray op = true := kC hlex hi2 hoi hrp hop hpi
  have hap2 : op.apart l.toArray oi = true := kC hlex hrp hop hi2 hoi (Ne.symm hpi)
  have hap3 : o.apart l.toArray oi = true := kC hlex hfl.rdy hfl.at_ hi hoi hne
  obtain ⟨vi, hvi⟩ := qA hst
  have hnew : β s1.n = none := hs.mh.new _ (Nat.le_of_ble_eq_true hnn)
  have hle : β.le (bup β s1.n (gb, 0, m)) := db hnew
  obtain ⟨hx1, _⟩ := hf s1.n _ hle ep
  have henv := (qL hs.size (fun t => (hs.env t).mono hle) hfl.dst hx1).2.1
  have hcong : ∀ z ∈ (Op.build t ps).operands, rho z (putA o.dst s1.E (mkF x.1 s1.n)) = rho z (putA o.dst s.E (mkF x.1 s1.n)) := by
    intro z hz
    cases z with
    | tmp d =>
      have hd : ∀ di, oi.dst = some di → d ≠ di := fun di hdi e => by
        subst e
        exact (Oper.apart_spec hap1).1 d hdi (List.mem_append_left _ (List.mem_filterMap.2 ⟨.tmp d, by rw [hpo]; simpa using hz, rfl⟩))
      have e1 : rho (.tmp d) s1.E = rho (.tmp d) s.E := by rw [hvi]; exact tO fun di hdi e => hd di hdi (by injection e)
      cases hod : o.dst with
      | none => exact e1
      | some dg =>
        show rho (.tmp d) (s1.E.set dg _) = rho (.tmp d) (s.E.set dg _)
        rw [o5, o5, e1]
    | _ => rfl
  rw [te hcong] at hy'
  have hoq : opQ op.op R.P (fun _ => none) (putA o.dst s.E (mkF x.1 s1.n)) = some (y, none) := by
    rw [hpo]
    show q0 (pr R.P t (eF (rhoE (putA o.dst s.E (mkF x.1 s1.n))) ps)) = _
    rw [hy']; rfl
  obtain ⟨z, hz, hzr⟩ := oG (P := P) (L := []) (fun _ _ hb => by cases hb) (zK henv) hoq
  have hwt : Region.wanted op (yielded l.toArray (a0.put o.dst xv).tmps) = true := by unfold Region.wanted; rw [hpg]
  have hop' : l.toArray[p]? = some op := by simpa using hop
  have hoi' : l.toArray[i]? = some oi := by simpa using hoi
  have hrdp := (bM (bv hlex) hL).2 hrp
  refine jU (i := p) (v := z) (Si := fun _ => True) (D := fun _ => false) hop' (cC hlex) (fun c a w h => absurd h (hQ _ _ _)) rfl (hC.quiet p hEp) (fun _ _ _ j h => by cases h) (k2 + 1) listed _ w (iI hlex hrp hop hL) hrdp hcl (.inl ⟨hwt, fun w' _ => hzr w' ⟨by simp⟩⟩) trivial hCw ?_
  have hC' := hC.tt (D := fun _ => false)
  have hi3 := jS (g := p) hi2 (Ne.symm hpi)
  have hL3 := hL.set (i := p)
  have hcl3 := hcl.set hrdp
  have hrdi := (bM (bv hlex) hL3).2 hi3
  refine lV hlex hi3 hln3 hL3 fun j hj _ => ?_
  obtain rfl : j = i := hj.elim id fun h => by cases h
  obtain ⟨h1, h2⟩ := pb hkp
  have hB1 : Base P (RS.filter fun r => !((ancs l []).getD j 0).testBit r.i) := fun r hm => hB r (List.mem_filter.1 hm).1
  have hC1 := hC'.eff hE
  obtain ⟨F2, hF2⟩ : ∃ F2 : Fm, F2 = ⟨ids L, w, Γ⟩ := ⟨_, rfl⟩
  have hs2 : SR P R.N F2 Γ β L s a0 w := ⟨hs.size, hs.env, hs.mh, hF2 ▸ hs.cur.pre.start, hs.ds⟩
  have hstp := mn (P := P) (F := F2) (Γ := Γ) (β0 := β) (Q := Q) (K := SX P R.N F2 Γ β s1) hcl0 hex hst ⟨β, L, Bt.le.refl _, hs2⟩ (ops := l.toArray) (fun _ _ h => h)
  have hns := fun cs b => cC hlex j oi cs b hoi'
  refine wpOp_mono (fun a' w' h => ?_) (q5 (v := z) hoi' hap2 hns hQ (uF (v := xv) hap3 hns hQ hstp))
  obtain ⟨a2, rfl, a1, rfl, β1, L1, g1, g2⟩ := h
  have he : Eff Γ Γ L L1 w w' := (hF2 ▸ g2.cur : Cur ⟨ids L, w, Γ⟩ Γ L1 w').toEff
  have hc1 : Cur F Γ (L1 ++ [[(gb, obj)]]) w' := Cur.eff hc he
  have hs1 : SR P R.N F Γ β1 L1 s1 a1 w' := ⟨g2.size, g2.env, g2.mh, hc1.sub (List.sublist_append_left _ _), g2.ds⟩
  obtain ⟨e1, e2, e3, e4⟩ := rO (o := o) (x := x) hs1 h2 hB1 hC1 hfl.em
  have hnew1 : β1 s1.n = none := g2.mh.new _ (Nat.le_refl _)
  have hle1 : β1.le (bup β1 s1.n (gb, 0, m)) := db hnew1
  obtain ⟨q1, q2⟩ := hf s1.n _ (g1.trans hle1) ep
  have hm := hs1.mh.ext.setNew (id := s1.n) (p := (gb, 0, m)) (Nat.lt_succ_self _) hnew1 q2
  have el : (L1 ++ [[]]).set s1.n [(gb, obj)] = L1 ++ [[(gb, obj)]] := by rw [← hs1.mh.len]; simp
  rw [el] at hm
  have S2 := hs1.put hfl.dst hle1 q1 hm hc1
  have S3 := S2.put hdp (Bt.le.refl _) (hz.mono (vI g1)) S2.mh S2.cur
  have hM : seen (seen (seen M g) p) j = seen (seen (seen M j) g) p := by rw [ky, ky (M := M)]
  have hL4 := hM ▸ hL3.set (i := j)
  have hC4 := e4.more (M1 := seen (seen (seen M j) g) p) fun j => eW
  rw [h1] at hr6
  rw [e1] at hr6
  have I0 : In0 P R.N F Γ β0 ((RS.filter fun r => !((ancs l []).getD j 0).testBit r.i).filter fun r => !((ancs l []).getD g 0).testBit r.i) ⟨putA op.dst (putA o.dst s1.E (mkF x.1 s1.n)) y, s1.H.set s1.n (some x.2), s1.n + 1, s1.ds⟩ ((a1.put o.dst xv).put op.dst z) w' :=
    ⟨_, _, (hb.trans g1).trans hle1, S3, fun r hm => ((hr r (List.mem_filter.1 (List.mem_filter.1 hm).1).1).trans g1).trans hle1⟩
  refine ⟨I0.cond e2 e3 hC4 hL4, ?_⟩
  exact h0 _ k2 _ _ _ _ _ w' hpr3 hr6 e2 e3 hC4 hL4 (hcl3.set hrdi) I0
theorem zN [TbOK R.P P] (hcl0 : ClOK P Γ R.cl) (hex : ExOK P Γ R.ex) (hlex : lexF l = true) (hQ : ∀ c a w, ¬ Q (.panic c) a w) (p : Pst) (r : List Pst) (h0 : G0 P F Γ β0 s' R l EM Q r) (h2 : G2 P F Γ β0 s' R l EM Q r) (h0c : ∀ q r', r = .c :: .q q :: r' → G0 P F Γ β0 s' R l EM Q r') : G2 P F Γ β0 s' R l EM Q (p :: r) := by
  intro M k g o x s RS C listed a w hp hr hfl hB hH hC hL hcl hI
  cases p with
  | q i =>
    have hi := av hp
    have hE : EM.testBit i = false := by simpa using av (ap hp)
    have hne : i ≠ g := fun e => by rw [e, hfl.em] at hE; cases hE
    obtain ⟨⟨s1, recs1⟩, hq, hr2⟩ := ab (show bd (kQ i l l.toArray R s (RS.map dH)) _ = some s' from hr)
    obtain ⟨k', rfl⟩ := jN (ap (ap hp))
    have hi2 := jS (g := g) hi hne
    refine xq hlex hQ hi2 (fun oi hoi => kC hlex hfl.rdy hfl.at_ hi hoi hne) hE hL hcl hq hB hH hC hI fun RS1 C1 a1 g1 g2 g3 g4 g5 => ?_
    subst g1
    obtain ⟨oi, hoi, h5⟩ := ab (show bd (l[i]?) _ = some (s1, RS1.map dH) from hq)
    have hE1 : ∃ y, s1.E = putA oi.dst s.E y := by
      obtain ⟨β, L, a0, xv, gb, obj, _, _, hs, _⟩ := hI
      obtain ⟨o2, v, y, ho2, _, e1, _⟩ := mi (ops := l.toArray) hq hs
      rw [hoi] at ho2
      cases ho2
      exact ⟨y, by rw [e1]⟩
    obtain ⟨y, hy⟩ := hE1
    exact h2 (seen M i) k' g o x s1 RS1 C1 _ a1 w (ap (ap hp)) hr2 (hfl.step hlex hi hoi hne hy) g2 g3 g4 (by rw [ky]; exact hL.set) (hcl.set ((bM (bv hlex) hL).2 hi2)) g5
  | e i =>
    have hi := av hp
    have hE := av (ap hp)
    have hne : i ≠ g := fun e => by have := av (ap (ap hp)); rw [e, Nat.beq_refl] at this; cases this
    have hln := av (ap (ap (ap (ap hp))))
    have hpr := ap (ap (ap (ap (ap hp))))
    obtain ⟨oi, hoi, hr2⟩ := ab (show bd (l[i]?) _ = some s' from hr)
    obtain ⟨s1, hst, hr3⟩ := ab hr2
    obtain ⟨hnn, hr3⟩ := aN hr3
    obtain ⟨recs1, hkp, hr4⟩ := ab hr3
    obtain ⟨k', rfl⟩ := jN hpr
    have hi2 := jS (g := g) hi hne
    rcases (Bool.or_eq_true_iff.1 hln).symm with hln | hln
    · match r, hln, hr4, hpr, h0c with
      | .c :: .q q :: r', hln, hr4, hpr, h0c => exact zB hcl0 hex hlex hQ (h0c q r' rfl) hi hE hne hln hpr hoi hst hnn hkp hr4 hfl hB hH hC hL hcl hI
    refine lV hlex hi2 hln hL fun j hj _ => ?_
    rcases hj with rfl | hj
    · refine Aw hcl0 hex hlex hQ (kC hlex hfl.rdy hfl.at_ hi hoi hne) hoi hE hL hst hkp hB hC hI fun RS1 a1 w1 g1 g2 g3 g4 g5 => ?_
      subst g1
      obtain ⟨y, hy⟩ := qA hst
      exact h2 (seen M j) k' g o x s1 RS1 C _ a1 w1 hpr hr4 (hfl.step hlex hi hoi hne hy) g2 g3 g4 (by rw [ky]; exact hL.set) (hcl.set ((bM (bv hlex) hL).2 hi2)) g5
    · cases hj
  | o f => cases hp
  | c =>
    have hpr := ap (ap hp)
    obtain ⟨o2, ho2, hr2⟩ := ab (show bd (l[g]?) _ = some s' from hr)
    rw [hfl.at_] at ho2
    cases ho2
    obtain ⟨β, L, a0, xv, gb, obj, q1, q2, hs, q3⟩ := hI
    have hI : In2 P R.N F Γ β0 RS o x s a w := ⟨β, L, a0, xv, gb, obj, q1, q2, hs, q3⟩
    obtain ⟨e1, e2, e3, e4⟩ := rO (o := o) (x := x) hs hH hB hC hfl.em
    rw [e1] at hr2
    exact h0 (seen M g) k _ _ C listed a w hpr hr2 e2 e3 e4 hL hcl (hI.close (g := 0) hfl.dst fun r hm => (List.mem_filter.1 hm).1)
end
end
end Fw
end Go.Proofs.YtogmioecalmalaaGreat
namespace Go.Proofs.YtogmioecalmalaaGreat
namespace Fw
set_option linter.unusedVariables false
set_option linter.unusedSimpArgs false
set_option linter.unusedSectionVars false
open Go.RowKit Go.MapKept
noncomputable section
section
variable {P : Program} {F : Fm} {Γ : Gh} {β0 : Bt} {s' : St} {R : Rn} {l : List Oper} {EM : Nat} {Q : Exit → Act → World → Prop}
def G1 (P : Program) (F : Fm) (Γ : Gh) (β0 : Bt) (s' : St) (R : Rn) (l : List Oper) (EM : Nat) (Q : Exit → Act → World → Prop) (pl : List Pst) : Prop :=
  ∀ (M k g : Nat) (o : Oper) (x : FK × AO) (s : St) (RS : List RecS) (C : Array Bool → World → Prop) (listed : Array Bool) (a : Act) (w : World),
    gN l EM pl M (some g) (k + 1) = true → runP l l.toArray (ancs l []) R pl (some (g, x)) s (RS.map dH) = some s' → Flo R l EM M g o x s → Base P RS → Held s.H RS → Cnd l EM P M RS C → LR l.length M listed → Clo l.toArray listed → In0 P R.N F Γ β0 RS s a w → WA P l.toArray Q C (k + 1) listed a w
theorem come [TbOK R.P P] (hlex : lexF l = true) {pl : List Pst} (h2 : G2 P F Γ β0 s' R l EM Q pl) {M k g : Nat} {o : Oper} {x : FK × AO} {s : St} {RS : List RecS} {C : Array Bool → World → Prop} {listed : Array Bool} {a : Act} {w : World}
    (hp : gN l EM pl M (some g) (k + 1) = true) (hr : runP l l.toArray (ancs l []) R pl (some (g, x)) s (RS.map dH) = some s') (hfl : Flo R l EM M g o x s) (hB : Base P RS) (hH : Held s.H RS) (hC : Cnd l EM P M RS C) (hL : LR l.length M listed) (hcl : Clo l.toArray listed) (hI : In0 P R.N F Γ β0 RS s a w) :
    wpOp P l.toArray Q g (fun a' w' => C (listed.setIfInBounds g true) w' ∧ WA P l.toArray Q C k (listed.setIfInBounds g true) a' w') a w :=
  do_f (k := 0) hfl.at_ hfl.knd hfl.val hI fun a1 w1 h => ⟨h.cond hB hH hC (fun j => eW) hL.set, h2 M k g o x s RS C _ a1 w1 hp hr hfl hB hH hC hL.set (hcl.set ((bM (bv hlex) hL).2 hfl.rdy)) h⟩
theorem zR [TbOK R.P P] (hcl0 : ClOK P Γ R.cl) (hex : ExOK P Γ R.ex) (hlex : lexF l = true) (hQ : ∀ c a w, ¬ Q (.panic c) a w) (p : Pst) (r : List Pst) (h1 : G1 P F Γ β0 s' R l EM Q r) (h2 : G2 P F Γ β0 s' R l EM Q (p :: r)) : G1 P F Γ β0 s' R l EM Q (p :: r) := by
  intro M k g o x s RS C listed a w hp hr hfl hB hH hC hL hcl hI
  cases p with
  | q i =>
    have hi := av hp
    have hE : EM.testBit i = false := by simpa using av (ap hp)
    have hne : i ≠ g := fun e => by rw [e, hfl.em] at hE; cases hE
    obtain ⟨⟨s1, recs1⟩, hq, hr2⟩ := ab (show bd (kQ i l l.toArray R s (RS.map dH)) _ = some s' from hr)
    obtain ⟨k', rfl⟩ := jN (ap (ap hp))
    refine wM hlex hQ hi hE hL hcl hq hB hH hC hI fun RS1 C1 a1 g1 g2 g3 g4 g5 => ?_
    subst g1
    have hE1 : ∃ oi y, l[i]? = some oi ∧ s1.E = putA oi.dst s.E y := by
      obtain ⟨β, L, _, hs, _⟩ := hI
      obtain ⟨o2, v, y, ho2, _, e1, _⟩ := mi (ops := l.toArray) hq hs
      exact ⟨o2, y, ho2, by rw [e1]⟩
    obtain ⟨oi, y, hoi, hy⟩ := hE1
    exact h1 (seen M i) k' g o x s1 RS1 C1 _ a1 w (ap (ap hp)) hr2 (hfl.step hlex hi hoi hne hy) g2 g3 g4 hL.set (hcl.set ((bM (bv hlex) hL).2 hi)) g5
  | e i =>
    have hi := av hp
    have hE := av (ap hp)
    have hne : i ≠ g := fun e => by have := av (ap (ap hp)); rw [e, Nat.beq_refl] at this; cases this
    have hln := av (ap (ap (ap hp)))
    have hpr := ap (ap (ap (ap (ap hp))))
    obtain ⟨oi, hoi, hr2⟩ := ab (show bd (l[i]?) _ = some s' from hr)
    obtain ⟨s1, hst, hr3⟩ := ab hr2
    obtain ⟨hnn, hr3⟩ := aN hr3
    obtain ⟨recs1, hkp, hr4⟩ := ab hr3
    refine lV hlex hi hln hL fun j hj _ => ?_
    rcases hj with rfl | hj
    · obtain ⟨k', rfl⟩ := jN hpr
      refine do_e hcl0 hex hlex hi hoi hE hL hcl hst hkp hB hC hI fun RS1 a1 w1 g1 g2 g3 g4 g5 => ?_
      subst g1
      obtain ⟨y, hy⟩ := qA hst
      exact h1 (seen M j) k' g o x s1 RS1 C _ a1 w1 hpr hr4 (hfl.step hlex hi hoi hne hy) g2 g3 g4 hL.set (hcl.set ((bM (bv hlex) hL).2 hi)) g5
    · cases hj
      exact come hlex h2 hp hr hfl hB hH hC hL hcl hI
  | o f => cases hp
  | c =>
    refine lV hlex hfl.rdy (av (ap hp)) hL fun j hj _ => ?_
    rcases hj with rfl | hj
    · exact come hlex h2 hp hr hfl hB hH hC hL hcl hI
    · cases hj
end
end
end Fw
end Go.Proofs.YtogmioecalmalaaGreat
namespace Go.Proofs.YtogmioecalmalaaGreat
namespace Fw
set_option linter.unusedVariables false
set_option linter.unusedSimpArgs false
set_option linter.unusedSectionVars false
open Go.RowKit Go.MapKept
noncomputable section
section
variable {P : Program} {F : Fm} {Γ : Gh} {β0 : Bt} {s s' : St} {R : Rn} {l : List Oper} {EM : Nat} {Q : Exit → Act → World → Prop} {a : Act} {w : World}
theorem yd [TbOK R.P P] (hcl0 : ClOK P Γ R.cl) (hex : ExOK P Γ R.ex) (hlex : lexF l = true) (hQ : ∀ c a w, ¬ Q (.panic c) a w) (hk : ∀ a w, SX P R.N F Γ β0 s' a w → Q .normal a w) :
    ∀ pl, G0 P F Γ β0 s' R l EM Q pl ∧ G2 P F Γ β0 s' R l EM Q pl ∧ G1 P F Γ β0 s' R l EM Q pl := by
  intro pl
  have key : ∀ n, ∀ pl : List Pst, pl.length ≤ n → G0 P F Γ β0 s' R l EM Q pl ∧ G2 P F Γ β0 s' R l EM Q pl ∧ G1 P F Γ β0 s' R l EM Q pl := by
   intro n
   induction n with
   | zero =>
    intro pl hn
    obtain rfl : pl = [] := by cases pl with | nil => rfl | cons x l => simp at hn
    have n2 : G2 P F Γ β0 s' R l EM Q [] := by intro M k g o x s RS C listed a w hp; cases hp
    have n1 : G1 P F Γ β0 s' R l EM Q [] := by intro M k g o x s RS C listed a w hp; cases hp
    refine ⟨?_, n2, n1⟩
    intro M k s RS C listed a w hp hr hB hH hC hL hcl hI
    cases hr
    exact xK (vG (a := a) hlex hL hp) (hk _ _ hI.sx) k
   | succ n ih0 =>
    intro pl hn
    cases pl with
    | nil => exact ih0 [] (Nat.zero_le _)
    | cons p r =>
    obtain ⟨h0, h2, h1⟩ := ih0 r (by simpa using hn)
    have h0c : ∀ q r', r = .c :: .q q :: r' → G0 P F Γ β0 s' R l EM Q r' := fun q r' e => (ih0 r' (by subst e; simp at hn; omega)).1
    have h2' := zN hcl0 hex hlex hQ p r h0 h2 h0c
    refine ⟨?_, h2', zR hcl0 hex hlex hQ p r h1 h2'⟩
    intro M k s RS C listed a w hp hr hB hH hC hL hcl hI
    cases p with
    | q i =>
      cases k with
      | zero => cases hp
      | succ k =>
        have hi := av hp
        have hE : EM.testBit i = false := by simpa using av (ap hp)
        obtain ⟨⟨s1, recs1⟩, hq, hr2⟩ := ab (show bd (kQ i l l.toArray R s (RS.map dH)) _ = some s' from hr)
        refine wM hlex hQ hi hE hL hcl hq hB hH hC hI fun RS1 C1 a1 g1 g2 g3 g4 g5 => ?_
        subst g1
        exact h0 (seen M i) k s1 RS1 C1 _ a1 w (ap (ap hp)) hr2 g2 g3 g4 hL.set (hcl.set ((bM (bv hlex) hL).2 hi)) g5
    | e i =>
      cases k with
      | zero => cases hp
      | succ k =>
        have hi := av hp
        have hE : EM.testBit i = true := av (ap hp)
        obtain ⟨o, ho, hr2⟩ := ab (show bd (l[i]?) _ = some s' from hr)
        obtain ⟨s1, hst, hr3⟩ := ab hr2
        obtain ⟨hnn, hr3⟩ := aN hr3
        obtain ⟨recs1, hkp, hr4⟩ := ab hr3
        refine yT (o := o) hlex hi (av (ap (ap hp))) hL (do_e hcl0 hex hlex hi ho hE hL hcl hst hkp hB hC hI fun RS1 a1 w1 g1 g2 g3 g4 g5 => ?_)
        subst g1
        exact h0 (seen M i) k s1 RS1 C _ a1 w1 (ap (ap (ap hp))) hr4 g2 g3 g4 hL.set (hcl.set ((bM (bv hlex) hL).2 hi)) g5
    | c => cases k <;> cases hp
    | o g =>
      have hp' : (isR l M g && ((match l[g]? with | some o => oR o | none => false) && (EM.testBit g && gN l EM r M (some g) k))) = true := by cases k <;> exact hp
      obtain ⟨o, ho, hr2⟩ := ab (show bd (l[g]?) _ = some s' from hr)
      obtain ⟨hd, hr3⟩ := aN hr2
      obtain ⟨x, hx, hr4⟩ := ab hr3
      have hfk := av (ap hp')
      rw [ho] at hfk
      obtain ⟨k', rfl⟩ := jN (ap (ap (ap hp')))
      exact h1 M k' g o x s RS C listed a w (ap (ap (ap hp'))) hr4 ⟨av hp', ho, hfk, hd, av (ap (ap hp')), hx⟩ hB hH hC hL hcl hI
  exact key _ pl (Nat.le_refl _)
theorem Aj [TbOK R.P P] (hm : P.follows .mixedOrders = true) (hcl0 : ClOK P Γ R.cl) (hex : ExOK P Γ R.ex) {pl : List Pst} {id : Nat} (hp : wt l pl = true) (hr : runP l l.toArray (ancs l []) R pl none s [] = some s') (h : SX P R.N F Γ β0 s a w) :
    (Code.region id l.toArray true).wp P (PX P R.N F Γ β0 (.nor, s')) a w := by
  obtain ⟨β, L, hb, hs⟩ := h
  refine wp_region_any hm (nj (C := fun _ _ => True) _ _ _ _ ?_)
  have hs' : SR P R.N F Γ β L s a { w with drawn := w.drawn + 1 } := ⟨hs.size, hs.env, hs.mh, hs.cur.drawn 1, hs.ds⟩
  have := (yd (F := F) (Γ := Γ) (β0 := β0) (EM := u9 pl) (Q := PX P R.N F Γ β0 (.nor, s')) hcl0 hex (av hp) (fun c a w hx => by cases hx.1) (fun a w hx => ⟨rfl, hx⟩) pl).1 0 l.length s [] (fun _ _ => True) (Array.replicate l.length false) a { w with drawn := w.drawn + 1 }
    (ap hp) hr (fun _ h => by cases h) (fun _ h => by cases h) ⟨fun _ _ _ _ => Iff.rfl, fun _ _ _ _ _ _ => trivial⟩ (LR.nil _) (Clo.nil _ _) ⟨β, L, hb, hs', fun _ h => by cases h⟩
  simpa using this
end
end
end Fw
end Go.Proofs.YtogmioecalmalaaGreat
