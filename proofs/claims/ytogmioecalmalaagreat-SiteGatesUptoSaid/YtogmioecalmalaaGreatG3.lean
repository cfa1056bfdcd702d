/- Tokens: the code opens as the document does. No condition. -/
import Derived.Test.YtogmioecalmalaaGreatG2
namespace Go.Proofs.YtogmioecalmalaaGreat
namespace Fw
set_option linter.unusedVariables false
set_option linter.unusedSimpArgs false
set_option linter.unusedSectionVars false
theorem wx (t : List UInt8) : numF 0 0 (1 :: t) = (1, 1, 0) := rfl
theorem vn {b : List UInt8} (hb : b.length ≤ lim) : ∃ l e, eL sec 0 b = some (l, e) ∧ dN sec 0 b = some (l, e) ∧ (e = 0 → ∀ x ∈ l, SpOk x) := by
 have may1 : lk sec 0 = some true := by kernel_rfl
 have may2 : df sec 0 = some true := by kernel_rfl
 have hlim : lim ≤ 2147483648 := by rw [b9]; omega
 unfold eL dN
 rw [may1, may2, Option.bind_some, Option.bind_some, show (!true) = false from rfl, aP rfl, aP rfl]
 by_cases h0 : b.length = 0
 ·rw [show (((b.length : Int)) == 0) = true by rw [h0]; rfl, bW rfl, bW rfl]
  exact ⟨[], 0, rfl, rfl, fun _ _ h => by cases h⟩
 rw [show (((b.length : Int)) == 0) = false by rw [beq_eq_false_iff_ne]; omega, aP rfl, aP rfl]
 have hw : w64 ((b.length : Int) - 8) = (b.length : Int) - 8 := bA (by unfold I64; omega)
 rw [hw]
 by_cases h9 : b.length < 9
 ·rw [show decide ((b.length : Int) < 9) = true by rw [decide_eq_true_eq]; omega]
  refine ⟨[], 130, rfl, ?_, fun h => absurd h (by decide)⟩
  by_cases h8 : b.length < 8
  ·rw [show decide (((b.length : Int) - 8) < 0) = true by rw [decide_eq_true_eq]; omega, bW rfl]
  ·rw [show decide (((b.length : Int) - 8) < 0) = false by rw [decide_eq_false_iff_not]; omega, aP rfl]
   have hi : inle ((b.length : Int) - 8) b.length = true := by unfold inle; rw [Bool.and_eq_true, decide_eq_true_eq, decide_eq_true_eq]; omega
   rw [bb hi, show ((b.length : Int) - 8).toNat = 0 by omega, List.take_zero, show bD [] 0 = some (0, 0, 4) from by kernel_rfl, Option.bind_some]
   rfl
 rw [show decide ((b.length : Int) < 9) = false by rw [decide_eq_false_iff_not]; omega, show decide (((b.length : Int) - 8) < 0) = false by rw [decide_eq_false_iff_not]; omega, aP rfl]
 have hi : inle ((b.length : Int) - 8) b.length = true := by unfold inle; rw [Bool.and_eq_true, decide_eq_true_eq, decide_eq_true_eq]; omega
 rw [bb (show imp (!false) (decide (0 < b.length)) = true by show decide (0 < b.length) = true; rw [decide_eq_true_eq]; omega), bb hi, bb hi]
 obtain ⟨k, hk, hkl⟩ : ∃ k : Nat, ((b.length : Int) - 8).toNat = k + 1 ∧ k + 9 = b.length := ⟨b.length - 9, by omega, by omega⟩
 rw [hk]
 obtain ⟨c, t, rfl⟩ : ∃ c t, b = c :: t := by cases b with | nil => exact absurd rfl h0 | cons c t => exact ⟨c, t, rfl⟩
 have hgt : gt (c :: t) 0 = c := rfl
 rw [hgt]
 have hIl : (List.take (k + 1) (c :: t)).length = k + 1 := by rw [List.length_take]; omega
 have hI0 : List.take (k + 1) (c :: t) = c :: List.take k t := rfl
 generalize hI : List.take (k + 1) (c :: t) = I at hIl hI0 ⊢
 generalize List.drop (k + 1) (c :: t) = D
 have hIb : I.length ≤ lim := by omega
 have A0 : At I 0 I := ⟨0, rfl, Nat.zero_le _, rfl⟩
 have A1 : At I 1 (I.drop 1) := ⟨1, rfl, by omega, rfl⟩
 by_cases hc : c = 1
 ·subst hc
  have hN0 : cT I 0 = some (1, 1, 0) := by
   have := um (b := I) (at_ := 0) hIb (Nat.zero_le _)
   rw [List.drop_zero, hI0, wx] at this
   rw [hI0]; exact this
  rw [k5 hIb A0, hN0, Option.bind_some]
  simp only
  rw [show (((((1 : UInt8).toNat : Nat) : Int)) != 1) = false from rfl, show (false || false) = false from rfl, aP rfl, show ((0 : Int) != 0 || (1 : Int) != 1) = false from rfl, aP rfl, bb (show i64b 1 = true by decide), k5 hIb A1]
  rcases tL hIb A1 with ⟨x, y, e, he, hN⟩ | ⟨g, q, rest, hN, g0, g1, _, _, hq⟩
  ·rw [hN, Option.bind_some, Option.bind_some]
   simp only
   rw [show (e != 0) = true by rw [bne_iff_ne]; exact he, bW rfl, bW rfl]
   exact ⟨[], 130, rfl, rfl, fun h => absurd h (by decide)⟩
  ·rw [hN, Option.bind_some, Option.bind_some]
   simp only
   rw [show ((0 : Int) != 0) = false from rfl, aP rfl, aP rfl]
   have hqi : inle (q : Int) I.length = true := by unfold inle; rw [Bool.and_eq_true, decide_eq_true_eq, decide_eq_true_eq]; omega
   rw [bb hqi, bb (by rw [decide_eq_true_eq]; omega), bb (by rw [decide_eq_true_eq]; omega), Int.toNat_natCast]
   obtain ⟨l, e, s1, s2, s3⟩ := wj (b := I.drop q) (by rw [List.length_drop]; omega)
   rw [s1, s2, Option.bind_some, Option.bind_some]
   simp only
   cases he : (e != 0) with
   | true =>
    rw [bW rfl, bW rfl]
    exact ⟨[], 130, rfl, rfl, fun h => absurd h (by decide)⟩
   | false =>
    rw [aP rfl, aP rfl]
    cases hg : (g != 0) with
    | true =>
     rw [bW rfl, bW rfl]
     exact ⟨[], 131, rfl, rfl, fun h => absurd h (by decide)⟩
    | false =>
     rw [aP rfl, aP rfl]
     obtain ⟨m, _, m1, m2⟩ := q8 (b := I) (by omega)
     rw [m1, m2, Option.bind_some]
     cases ((⟨D.toArray⟩ : ByteArray) != (⟨m.toArray⟩ : ByteArray)) with
     | true => exact ⟨[], 132, rfl, rfl, fun h => absurd h (by decide)⟩
     | false => exact ⟨l, 0, rfl, rfl, fun _ => s3 (by simpa using he)⟩
 ·have hcn : (((c.toNat : Int)) != 1) = true := by
   rw [bne_iff_ne]
   intro h
   exact hc (UInt8.toNat_inj.1 (by show c.toNat = 1; omega))
  rw [hcn, show (false || true) = true from rfl, bW rfl]
  refine ⟨[], 130, rfl, ?_, fun h => absurd h (by decide)⟩
  rw [k5 hIb A0]
  rcases tL hIb A0 with ⟨x, y, e, he, hN⟩ | ⟨g, q, rest, hN, g0, g1, hA, _, hq⟩
  ·rw [hN, Option.bind_some]
   simp only
   rw [show (e != 0) = true by rw [bne_iff_ne]; exact he]
   rfl
  ·rw [hN, Option.bind_some]
   simp only
   have hg : g ≠ 1 := by
    rintro rfl
    have h1 := At.eq A0 hA
    have h2 : pz 1 = [1] := kV (n := 1) (by decide)
    rw [h2, hI0] at h1
    injection h1 with h1
    exact hc h1
   rw [show (g != 1) = true by rw [bne_iff_ne]; exact hg, show (((0 : Int) != 0) || true) = true from rfl]
   rfl
theorem wL {x : Span} (h : SpOk x) : ∃ v, dD [4, 4] ⟨x.s, x.t⟩ = some v ∧ d8 [4, 4] ⟨x.s, x.t⟩ = some v := by
 obtain ⟨s, f, t⟩ := x
 unfold SpOk at h
 simp only at h ⊢
 have ht : (decide (1 ≤ t)) = (decide (0 < t)) := by rw [Bool.eq_iff_iff, decide_eq_true_eq, decide_eq_true_eq]; omega
 rcases (by omega : s = 1 ∨ s = 2 ∨ 3 ≤ s) with rfl | rfl | hs
 ·refine ⟨decide (0 < t) && decide (t ≤ 4), ?_, rfl⟩
  unfold dD
  simp only
  rw [ht]
  cases decide (0 < t) <;> rfl
 ·refine ⟨decide (0 < t) && decide (t ≤ 4), ?_, rfl⟩
  unfold dD
  simp only
  rw [ht]
  cases decide (0 < t) <;> rfl
 ·refine ⟨false, ?_, ?_⟩
  ·unfold dD
   simp only
   rw [show decide (s ≤ ((([4, 4] : List Int).length : Nat) : Int)) = false by rw [decide_eq_false_iff_not]; show ¬ s ≤ 2; omega, Bool.and_false, Bool.false_and, Bool.false_and]
   rfl
  ·unfold d8
   simp only [forI]
   unfold eS
   simp only
   rw [bA (x := s - 1) (by unfold I64; omega), show ((((0 : Nat) : Nat) : Int) == s - 1) = false by rw [beq_eq_false_iff_ne]; omega, aP rfl, show (((0 + 1 : Nat) : Int) == s - 1) = false by rw [beq_eq_false_iff_ne]; omega, aP rfl]
theorem tm {l : List Span} (h : ∀ x ∈ l, SpOk x) : ∃ v, ec [4, 4] l = some v ∧ cL [4, 4] l = some v := by
 unfold ec cL
 have key : ∀ (l : List Span) (i : Nat), (∀ x ∈ l, SpOk x) → ∃ v, forI (dC [4, 4]) (fun _ => some true) i l () = some v ∧ forI (bQ [4, 4]) (fun _ => some true) i l () = some v := by
  intro l
  induction l with
  | nil => intro i _; exact ⟨true, rfl, rfl⟩
  | cons x l ih =>
   intro i hx
   obtain ⟨v, v1, v2⟩ := ih (i + 1) fun y hy => hx y (List.mem_cons_of_mem _ hy)
   obtain ⟨u, u1, u2⟩ := wL (hx x List.mem_cons_self)
   refine ⟨bif !u then false else v, ?_, ?_⟩
   ·show dC [4, 4] (forI (dC [4, 4]) (fun _ => some true) (i + 1) l) i x () = _
    unfold dC
    rw [u1, Option.bind_some]
    cases u with
    | false => rfl
    | true => exact v1
   ·show bQ [4, 4] (forI (bQ [4, 4]) (fun _ => some true) (i + 1) l) i x () = _
    unfold bQ
    rw [u2, Option.bind_some]
    cases u with
    | false => rfl
    | true => exact v2
 exact key l 0 h
end Fw
end Go.Proofs.YtogmioecalmalaaGreat
