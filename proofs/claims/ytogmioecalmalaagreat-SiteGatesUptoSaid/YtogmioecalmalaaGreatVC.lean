/- An evaluator of closed runs, and that a call does as it tells. No condition. -/
import Derived.Test.YtogmioecalmalaaGreatVB
import Derived.Laws.Externs
import Derived.Lib.Bytealg
import Derived.Shelf.SlMaps.Clone
namespace Go.Proofs.YtogmioecalmalaaGreat
namespace Fw
set_option linter.unusedVariables false
set_option linter.unusedSimpArgs false
set_option linter.unusedSectionVars false
set_option linter.unusedSectionVars false
open Go.RowKit Go.MapKept
noncomputable section
theorem qh (c : UInt8) : ∀ (l : List UInt8) (n : Nat), pe c.toNat l n = if Lib.indexByte l c == -1 then -1 else Lib.indexByte l c + n
  | [], n => rfl
  | b :: l, n => by
    have hbc : Nat.beq b.toNat c.toNat = (b == c) := by
      by_cases h : b = c
      · subst h; simp
      · have h2 : b.toNat ≠ c.toNat := fun e => h (UInt8.toNat_inj.1 e)
        rw [Tr.beq_ff h2]; simp [h]
    unfold pe Lib.indexByte
    rw [hbc]
    by_cases h : (b == c) = true
    · simp [h]
    · have h0 : (b == c) = false := by simpa using h
      rw [h0, qh c l (n + 1)]
      simp only [cond_false, Bool.false_eq_true, if_false]
      by_cases h2 : (Lib.indexByte l c == -1) = true
      · simp [h2]
      · have h3 : 0 ≤ Lib.indexByte l c := by
          have key : ∀ l : List UInt8, Lib.indexByte l c = -1 ∨ 0 ≤ Lib.indexByte l c := by
            intro l
            induction l with
            | nil => exact .inl rfl
            | cons b l ih =>
              unfold Lib.indexByte
              split
              · exact .inr (by decide)
              · split
                · exact .inl rfl
                · rename_i hne; rcases ih with ih | ih
                  · rw [ih] at hne; simp at hne
                  · exact .inr (by omega)
          rcases key l with h4 | h4
          · rw [h4] at h2; simp at h2
          · exact h4
        have h4 : (Lib.indexByte l c == -1) = false := by simpa using h2
        have h5 : (Lib.indexByte l c + 1 == -1) = false := by simp; omega
        rw [h4]
        simp only [Bool.false_eq_true, if_false, h5]
        push_cast; omega
theorem tA (s : List UInt8) (c : Nat) : pe (c % 256) s 0 = Lib.indexByte s c.toUInt8 := by
  have h1 : c % 256 = c.toUInt8.toNat := by simp [Nat.toUInt8]
  rw [h1, qh]
  split
  · rename_i h; exact (by simpa using h : Lib.indexByte _ _ = -1).symm
  · simp
def exT (fi fc : FuncId) : Xf := fun f args H id => bif Nat.beq f fi then exIx args H else bif Nat.beq f fc then uo args H id else none
theorem yB {P : Program} {Γ : Gh} {fi fc : FuncId} {ni nc : Func} (hi : P.funcs[fi]? = some ni) (hi1 : (ni.name == "runtime.NumGoroutine") = false) (hi2 : ni.body.isNone = true) (hi3 : Extern.findNext ni = none) (hi4 : Extern.find ni = some Extern.BytealgIndexByte.indexByte)
    (hc : P.funcs[fc]? = some nc) (hc1 : (nc.name == "runtime.NumGoroutine") = false) (hc2 : nc.body.isNone = true) (hc3 : Extern.findNext nc = none) (hc4 : Extern.find nc = some Extern.MapsClone.clone) : ExOK P Γ (exT fi fc) := by
  intro f args H id v H' h F β L vs w m hv hM hf hw o a next Q hk
  unfold exT at h
  cases h1 : Nat.beq f fi with
  | true =>
    rw [h1] at h
    obtain rfl := Nat.eq_of_beq_eq_true h1
    unfold exIx at h
    simp only [cond_true] at h
    split at h
    · rename_i s c
      cases h
      cases hv with
      | cons ha ht =>
      cases ha
      cases ht with
      | cons hb ht2 =>
      cases hb
      cases ht2
      have h2 := run_callFunc_extern (P := P) hi hi1 hi2 hi3 hi4 #[.string s, .int .u8 c] w
      rw [Lib.run_indexByteString] at h2
      simp only [Result.andThen] at h2
      have e0 : ([Value.string s, Value.int .u8 c].toArray) = #[.string s, .int .u8 c] := rfl
      rw [e0, h2]
      exact hk β L _ w (Bt.le.refl _) (by rw [tA]; exact .v _) hM hw
    · cases h
  | false =>
    rw [h1] at h
    simp only [cond_false] at h
    cases h2 : Nat.beq f fc with
    | false => rw [h2] at h; cases h
    | true =>
      rw [h2] at h
      obtain rfl := Nat.eq_of_beq_eq_true h2
      unfold uo at h
      simp only [cond_true] at h
      split at h
      · rename_i t b
        split at h
        · rename_i es c hb
          cases h
          obtain ⟨row, hrow, g, arr, h3, rfl, h4⟩ := hM.at_ hb
          cases hv with
          | cons ha ht =>
          cases ht
          cases ha with
          | ifc hx =>
          cases hx with
          | map hx =>
          rename_i g' k' m'
          rw [h3] at hx
          cases hx
          have hg : w.heap[g]? = some (.map arr c) := hw.at_ hrow (p := (g, .map arr c)) (by simp)
          have h5 := run_callFunc_extern (P := P) hc hc1 hc2 hc3 hc4 #[.iface t (.map (some g))] w
          rw [run_maps_clone_sl w t hg] at h5
          simp only [Result.andThen] at h5
          have e0 : ([Value.iface t (.map (some g))].toArray) = #[.iface t (.map (some g))] := rfl
          rw [e0, h5]
          have key := lW (o := .map es c) (x := .map arr c) hM hf hw ⟨_, arr, rfl, rfl, h4.mono (db hf.pl)⟩
          exact hk _ _ _ _ (db hf.pl) (.ifc (.map ep)) key.1 key.2
        · cases h
      · cases h
end
end Fw
end Go.Proofs.YtogmioecalmalaaGreat
namespace Go.Proofs.YtogmioecalmalaaGreat
namespace Fw
set_option linter.unusedVariables false
set_option linter.unusedSimpArgs false
set_option linter.unusedSectionVars false
open Go.RowKit Go.MapKept
noncomputable section
/-- all that lies in a tree, with its numbers -/
def Tr.toR {α : Type} (t : Tr α) : (Nat → Nat) → List (Nat × α) :=
  @Tr.rec α (fun _ => (Nat → Nat) → List (Nat × α)) (fun _ => []) (fun _ x _ hl hr k => @Option.rec α (fun _ => List (Nat × α)) (hl (fun n => k (2 * n + 1)) ++ hr (fun n => k (2 * n + 2))) (fun a => (k 0, a) :: (hl (fun n => k (2 * n + 1)) ++ hr (fun n => k (2 * n + 2)))) x) t
def Tr.toL {α : Type} (t : Tr α) : List (Nat × α) := t.toR fun n => n
theorem Tr.mem_toR {α : Type} : ∀ (t : Tr α) (k : Nat → Nat) (n : Nat) (a : α), t.get n = some a → (k n, a) ∈ t.toR k
  | .lf, k, n, a, h => by rw [Tr.get_lf] at h; cases h
  | .nd l x r, k, n, a, h => by
    have e : (Tr.nd l x r).toR k = @Option.rec α (fun _ => List (Nat × α)) (l.toR (fun n => k (2 * n + 1)) ++ r.toR (fun n => k (2 * n + 2))) (fun a => (k 0, a) :: (l.toR (fun n => k (2 * n + 1)) ++ r.toR (fun n => k (2 * n + 2)))) x := rfl
    rw [Tr.get_nd] at h
    have hin : (k n, a) ∈ l.toR (fun n => k (2 * n + 1)) ++ r.toR (fun n => k (2 * n + 2)) → (k n, a) ∈ (Tr.nd l x r).toR k := by
      intro hm; rw [e]; cases x with
      | none => exact hm
      | some y => exact List.mem_cons_of_mem _ hm
    split at h
    · rename_i hn; subst hn; subst h; rw [e]; exact List.mem_cons_self
    · split at h
      · rename_i hn h1
        have := Tr.mem_toR l (fun n => k (2 * n + 1)) _ _ h
        simp only [show 2 * (n / 2) + 1 = n by omega] at this
        exact hin (List.mem_append_left _ this)
      · rename_i hn h1
        have := Tr.mem_toR r (fun n => k (2 * n + 2)) _ _ h
        simp only [show 2 * (n / 2 - 1) + 2 = n by omega] at this
        exact hin (List.mem_append_right _ this)
theorem Tr.mem_toL {α : Type} {t : Tr α} {n : Nat} {a : α} (h : t.get n = some a) : (n, a) ∈ t.toL := Tr.mem_toR t (fun n => n) n a h
/-- something stands of all in a list -/
def PAll {α : Type} (p : Nat → α → Prop) (l : List (Nat × α)) : Prop := ∀ q ∈ l, p q.1 q.2
theorem PAll.n {α : Type} {p : Nat → α → Prop} : PAll p [] := fun _ h => nomatch h
theorem PAll.c {α : Type} {p : Nat → α → Prop} {n : Nat} {a : α} {l : List (Nat × α)} (h : p n a) (t : PAll p l) : PAll p ((n, a) :: l) := fun q hq => (List.mem_cons.1 hq).elim (fun e => e ▸ h) (t q)
theorem PAll.app {α : Type} {p : Nat → α → Prop} {l r : List (Nat × α)} (h : PAll p l) (t : PAll p r) : PAll p (l ++ r) := fun q hq => (List.mem_append.1 hq).elim (h q) (t q)
theorem PAll.get {α : Type} {p : Nat → α → Prop} {t : Tr α} {l : List (Nat × α)} (h : PAll p l) (e : t.toL = l) {n : Nat} {a : α} (hn : t.get n = some a) : p n a := h (n, a) (e ▸ Tr.mem_toL hn)
/-- the plans of a function's drawn regions serve -/
def plB (T : Tb) (f : FuncId) (c : Code) : Bool := (regs c).all fun p => match (T.pl.get f).bind fun t => t.get p.1 with
  | some pl => wt p.2.toList pl
  | none => true
def plF (T : Tb) (f : FuncId) (fn : Func) : Bool := @Option.rec Code (fun _ => Bool) true (fun c => plB T f c) fn.body
theorem zb {T : Tb} (h : T.fs.toL.all (fun q => plF T q.1 q.2) = true) : ∀ f fn c, T.fs.get f = some fn → fn.body = some c → plB T f c = true := by
  intro f fn c hf hc
  have := List.all_eq_true.1 h _ (Tr.mem_toL hf)
  unfold plF at this
  simp only at this
  rw [hc] at this
  exact this
theorem y4 {P : Program} {F : Tr Func} {T : Tr TypeInfo} {L : Tr (Tr (List Pst))} (h1 : ∀ f fn, F.get f = some fn → P.funcs[f]? = some fn) (h2 : ∀ t i, T.get t = some i → P.types[t]? = some i) (h3 : ∀ f fn, F.get f = some fn → ∀ args w, (callFunc f args).run P w = .ok (.enter f args) w) : TbOK ⟨P, F, T, L⟩ P := by
  refine ⟨rfl, h1, fun t i h => ?_, h3⟩
  have h4 := h2 t i h
  unfold Tables.info?
  rw [if_pos (Array.getElem?_eq_some_iff.1 h4).1]
  exact h4
theorem zh {P : Program} {Γ : Gh} {T : Tb} {ex : Xf} [TbOK T P] (hm : P.follows .mixedOrders = true) (hex : ExOK P Γ ex) (hpl : ∀ f fn c, T.fs.get f = some fn → fn.body = some c → plB T f c = true) :
    ∀ f fn c cl, T.fs.get f = some fn → fn.body = some c → ClOK P Γ cl → ∀ p ∈ regs c, DrOK P Γ fn.ntmps (drP T ex f cl fn.ntmps) p.1 p.2 := by
  intro f fn c cl hf hc hcl p hp s s' h F β0 a w hs
  have h0 := List.all_eq_true.1 (hpl f fn c hf hc) p hp
  obtain ⟨id, ops⟩ := p
  unfold drP at h
  obtain ⟨t, ht, h⟩ := ab h
  obtain ⟨pl, hpl, h⟩ := ab h
  simp only at h0 h hpl
  rw [ht] at h0
  simp only [Option.bind_some, hpl] at h0
  let R : Rn := ⟨T, ex, cl, fun _ _ _ => none, fn.ntmps⟩
  haveI : TbOK R.P P := (inferInstance : TbOK T P)
  have e0 : ops.toList.toArray = ops := Array.toArray_toList
  have h2 : runP ops.toList ops.toList.toArray (ancs ops.toList []) R pl none s [] = some s' := by rw [e0]; exact h
  have := Aj (R := R) (F := F) (Γ := Γ) (β0 := β0) (id := id) hm hcl hex h0 h2 hs
  rw [e0] at this
  exact this
/-- a closed call: no argument, a plain value, nothing known of the world -/
theorem vJ {P : Program} {Γ : Gh} {T : Tb} {ex : Xf} [TbOK T P] (hm : P.follows .mixedOrders = true) (hex : ExOK P Γ ex) (hpl : ∀ f fn c, T.fs.get f = some fn → fn.body = some c → plB T f c = true) {d : Nat} {f : FuncId} {x : Value}
    (h : (@Option.rec (AV × Hp × Nat) (fun _ => Option AV) none (fun r => some r.1) (ry T ex (drP T ex) d f [] .lf 0)) = some (.v x)) {w0 : World} (hs : Sat Γ w0) : Calls P f #[] w0 fun e w' => e = .returned x ∧ Fr no w0 w' := by
  cases hc : ry T ex (drP T ex) d f [] .lf 0 with
  | none => rw [hc] at h; cases h
  | some r =>
    obtain ⟨v, H', n'⟩ := r
    rw [hc] at h
    cases h
    have hM : MH P (fun _ => none) (Tr.lf : Hp).get 0 [] := ⟨rfl, fun _ _ => rfl, fun i row h => by simp at h, fun i _ => Tr.get_lf i⟩
    have := (rZ (dr := drP T ex) hex (zh hm hex hpl) d f [] .lf 0 _ _ _ hc (fun _ => none) [] [] w0 .nil hM ⟨hs, fun _ h => (nomatch h), fun _ h => (nomatch h), List.nodup_nil⟩).2
    refine this.mono ?_
    rintro e w' ⟨β', L', y, _, rfl, hy, _, he⟩
    cases hy
    exact ⟨rfl, he.fr.mono fun j hj => by obtain ⟨r, hr, _⟩ := hj; cases hr⟩
end
end Fw
end Go.Proofs.YtogmioecalmalaaGreat
