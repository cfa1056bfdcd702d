/- Sets of spans, marks and tokens: the code's reading is the document's. No condition. -/
import Derived.Test.YtogmioecalmalaaGreatG1
namespace Go.Proofs.YtogmioecalmalaaGreat
namespace Fw
set_option linter.unusedVariables false
set_option linter.unusedSimpArgs false
set_option linter.unusedSectionVars false
theorem o9 {l : List Span} (h : fe l = true) : l.length ≤ 1024 ∧ ∀ x ∈ l, SpOk x := by
 obtain ⟨b, h1, h2⟩ := Ap l
 rw [pd] at h1
 injection h1 with h1
 exact h2 (by rw [← h1]; exact h)
theorem uh {b : List UInt8} {l : List Span} (hb : b.length ≤ lim) (he : b = spsB l) (hr : fe l = true) : dQ b = some (l, 0) ∧ bG b = some (l, 0) := by
 obtain ⟨hl, hx⟩ := o9 hr
 have hA : At b 0 (spsB l ++ []) := ⟨0, rfl, Nat.zero_le _, by rw [List.drop_zero, List.append_nil]; exact he⟩
 constructor
 ·obtain ⟨q, h1, h2⟩ := Ah hb hx hl hA
  have hq : q = (b.length : Int) := by have := h2.len.1; simp only [List.length_nil] at this; omega
  unfold dQ cP cg gw optm
  rw [h1, Option.bind_some]
  simp only
  rw [Option.bind_some]
  simp only
  rw [pd, kp, Option.bind_some, show (q != (b.length : Int)) = false by rw [bne_eq_false_iff_eq]; exact hq, hr]
  rfl
 ·obtain ⟨q, h1, h2⟩ := y8 hb hx hl hA
  have hq : q = (b.length : Int) := by have := h2.len.1; simp only [List.length_nil] at this; omega
  unfold bG
  rw [h1, Option.bind_some]
  simp only
  rw [mO (by rw [b9]; omega) (fun x hx2 => by have := hx x hx2; unfold SpOk at this; unfold I64; omega), ← l0, kp, Option.bind_some, show (q != (b.length : Int)) = false by rw [bne_eq_false_iff_eq]; exact hq, hr]
  rfl
theorem rD {b : List UInt8} {p : Int} {w : List UInt8} (h : ∃ rest, At b 0 (w ++ rest) ∧ At b p rest) (hp : p = (b.length : Int)) : b = w := by
 obtain ⟨rest, a1, a2⟩ := h
 have hl := a2.len
 have hr0 : rest = [] := List.eq_nil_of_length_eq_zero (by omega)
 subst hr0
 obtain ⟨q, e1, e2, e3⟩ := a1
 have : q = 0 := by omega
 subst this
 rw [List.drop_zero, List.append_nil] at e3
 exact e3
theorem vL {b : List UInt8} (hb : b.length ≤ lim) : (∃ l, b = spsB l ∧ fe l = true ∧ dQ b = some (l, 0)) ∨ dQ b = some ([], 2) := by
 unfold dQ cP cg gw optm
 rcases zX hb (s := ⟨b, 0⟩) ⟨rfl, b, 0, rfl, Nat.zero_le _, rfl⟩ with e | ⟨s1, l, w, e, h1, p1, p2, rfl⟩
 ·rw [e]; exact .inr rfl
 rw [e, Option.bind_some]
 simp only
 rw [Option.bind_some]
 simp only
 rw [pd, kp, Option.bind_some]
 by_cases hat : s1.at_ = (b.length : Int)
 ·rw [show (s1.at_ != (b.length : Int)) = false by rw [bne_eq_false_iff_eq]; exact hat]
  cases hr : fe l with
  | false => exact .inr rfl
  | true => exact .inl ⟨l, rD h1.2 hat, hr, rfl⟩
 ·rw [show (s1.at_ != (b.length : Int)) = true by rw [bne_iff_ne]; exact hat]
  exact .inr rfl
theorem y7 {b : List UInt8} (hb : b.length ≤ lim) : (∃ l, b = spsB l ∧ fe l = true ∧ bG b = some (l, 0)) ∨ bG b = some ([], 2) := by
 unfold bG
 obtain ⟨s1, l, e, h1, p1, p2⟩ := xD hb (r := ⟨b, 0, false⟩) ⟨rfl, b, 0, rfl, Nat.zero_le _, rfl⟩
 rw [e, Option.bind_some]
 simp only
 rw [mO p1 p2, ← l0, kp, Option.bind_some]
 cases hbd : s1.bad with
 | true => exact .inr rfl
 | false =>
  by_cases hat : s1.at_ = (b.length : Int)
  ·rw [show (s1.at_ != (b.length : Int)) = false by rw [bne_eq_false_iff_eq]; exact hat]
   cases hr : fe l with
   | false => exact .inr rfl
   | true => exact .inl ⟨l, rD ((h1.ok hbd).2 fun x hx => ((o9 hr).2 x hx).2.2.2.1) hat, hr, rfl⟩
  ·rw [show (s1.at_ != (b.length : Int)) = true by rw [bne_iff_ne]; exact hat]
   exact .inr rfl
theorem wj {b : List UInt8} (hb : b.length ≤ lim) : ∃ l e, dQ b = some (l, e) ∧ bG b = some (l, e) ∧ (e = 0 → ∀ x ∈ l, SpOk x) := by
 rcases vL hb with ⟨l, h1, h2, h3⟩ | h3
 ·exact ⟨l, 0, h3, (uh hb h1 h2).2, fun _ => (o9 h2).2⟩
 ·rcases y7 hb with ⟨l, h1, h2, h4⟩ | h4
  ·have := (uh hb h1 h2).1
   rw [h3] at this
   injection this with this
   injection this with _ this
   exact absurd this (by decide)
  ·exact ⟨[], 2, h3, h4, fun h => absurd h (by decide)⟩
def sec : ByteArray := ⟨#[115]⟩
theorem Au {x y : List UInt8} (h : x.length + y.length ≤ lim) : dT [x, y] = some (jP (x ++ y)) := by
 have key : dT [x, y] = chk (decide (([] : List UInt8).length + x.length ≤ lim)) (chk (decide (([] ++ x).length + y.length ≤ lim)) (Option.bind (fA (([] ++ x) ++ y)) fun z => some z)) := rfl
 rw [key, bb (by rw [decide_eq_true_eq]; simp only [List.length_nil]; omega), List.nil_append, bb (by rw [decide_eq_true_eq]; exact h), wb]
 rfl
theorem Ax {x y z u : List UInt8} (h : x.length + y.length + z.length + u.length ≤ lim) : dT [x, y, z, u] = some (jP (((x ++ y) ++ z) ++ u)) := by
 have key : dT [x, y, z, u] = chk (decide (([] : List UInt8).length + x.length ≤ lim)) (chk (decide (([] ++ x).length + y.length ≤ lim)) (chk (decide ((([] ++ x) ++ y).length + z.length ≤ lim)) (chk (decide (((([] ++ x) ++ y) ++ z).length + u.length ≤ lim)) (Option.bind (fA (((([] ++ x) ++ y) ++ z) ++ u)) fun z => some z)))) := rfl
 rw [key, bb (by rw [decide_eq_true_eq]; simp only [List.length_nil]; omega), List.nil_append, bb (by rw [decide_eq_true_eq]; omega), bb (by rw [decide_eq_true_eq, List.length_append]; omega), bb (by rw [decide_eq_true_eq, List.length_append, List.length_append]; omega), wb]
 rfl
theorem ux {h : Int} (k : Nat) (hk : k ≤ 64) : ishr .u64 h (k : Int) = h / 2 ^ k := by
 unfold ishr
 rw [show min (k : Int).toNat IntKind.u64.bits = k by rw [Int.toNat_natCast]; exact Nat.min_eq_left hk]
theorem hi32 {h : Int} (h0 : 0 ≤ h) (h1 : h < 18446744073709551616) : w64 (ishr .u64 h 32) = h / 4294967296 ∧ w64 (wu64 (h.tdiv 4294967296)) = h / 4294967296 := by
 have e1 : ishr .u64 h 32 = h / 4294967296 := ux 32 (by decide)
 have e2 : h.tdiv 4294967296 = h / 4294967296 := Int.tdiv_eq_ediv_of_nonneg h0
 rw [e1, e2]
 have e3 : wu64 (h / 4294967296) = h / 4294967296 := by unfold wu64; omega
 rw [e3]
 exact ⟨bA (by unfold I64; omega), bA (by unfold I64; omega)⟩
theorem lo32 {h : Int} (h0 : 0 ≤ h) (h1 : h < 18446744073709551616) : w64 (iand .u64 h 4294967295) = h % 4294967296 ∧ w64 (h.tmod 4294967296) = h % 4294967296 := by
 have e2 : h.tmod 4294967296 = h % 4294967296 := Int.tmod_eq_emod_of_nonneg h0
 have e1 : iand .u64 h 4294967295 = h % 4294967296 := by
  obtain ⟨n, rfl⟩ := Int.eq_ofNat_of_zero_le h0
  have hn : n < 2 ^ 64 := by omega
  have e3 : (BitVec.ofInt IntKind.u64.bits (n : Int) &&& BitVec.ofInt IntKind.u64.bits 4294967295).toNat = n % 4294967296 := by
   show (BitVec.ofInt 64 (n : Int) &&& BitVec.ofInt 64 4294967295).toNat = _
   rw [BitVec.toNat_and]
   have a1 : (BitVec.ofInt 64 (n : Int)).toNat = n := by
    rw [BitVec.toNat_ofInt]
    omega
   have a2 : (BitVec.ofInt 64 4294967295).toNat = 2 ^ 32 - 1 := by decide
   rw [a1, a2, Nat.and_two_pow_sub_one_eq_mod]
  unfold iand
  rw [e3]
  show wu64 _ = _
  unfold wu64
  omega
 rw [e1, e2]
 exact ⟨bA (by unfold I64; omega), bA (by unfold I64; omega)⟩
theorem m1 (z : Int) : forU (jR z) (fun x => some x) 8 0 (List.replicate 8 (b8 0)) = some [b8 (wu8 (ishr .u64 z 56)), b8 (wu8 (ishr .u64 z 48)), b8 (wu8 (ishr .u64 z 40)), b8 (wu8 (ishr .u64 z 32)), b8 (wu8 (ishr .u64 z 24)), b8 (wu8 (ishr .u64 z 16)), b8 (wu8 (ishr .u64 z 8)), b8 (wu8 (ishr .u64 z 0))] := by kernel_rfl
def nx (z : Int) : Int := wu64 (z * 256)
def tp (z : Int) : UInt8 := b8 (wu8 (wu64 (z.tdiv 72057594037927936)))
theorem m2 (z : Int) : forU fP (fun (h_64, m_65) => some m_65) 8 0 (z, []) = some [tp z, tp (nx z), tp (nx (nx z)), tp (nx (nx (nx z))), tp (nx (nx (nx (nx z)))), tp (nx (nx (nx (nx (nx z))))), tp (nx (nx (nx (nx (nx (nx z)))))), tp (nx (nx (nx (nx (nx (nx (nx z))))))) ] := by kernel_rfl
theorem d5 (x : Int) : nx (x % 18446744073709551616) = x * 256 % 18446744073709551616 := by unfold nx wu64; omega
theorem zQ {z : Int} (h0 : 0 ≤ z) (h1 : z < 18446744073709551616) : tp z = b8 ((z / 72057594037927936) % 256) := by
 unfold tp wu8 wu64
 rw [Int.tdiv_eq_ediv_of_nonneg h0]
 have : z / 72057594037927936 % 18446744073709551616 % 256 = (z / 72057594037927936) % 256 := by omega
 rw [this]
theorem jF {x z : Int} (k : Nat) (hk : k ≤ 64) (h : x % 18446744073709551616 / 72057594037927936 % 256 = z / 2 ^ k % 256) : tp (x % 18446744073709551616) = b8 (wu8 (ishr .u64 z (k : Int))) := by
 rw [zQ (Int.emod_nonneg _ (by decide)) (Int.emod_lt_of_pos _ (by decide)), h, ux k hk]
 rfl
theorem tx {z : Int} (h0 : 0 ≤ z) (h1 : z < 18446744073709551616) : [tp z, tp (nx z), tp (nx (nx z)), tp (nx (nx (nx z))), tp (nx (nx (nx (nx z)))), tp (nx (nx (nx (nx (nx z))))), tp (nx (nx (nx (nx (nx (nx z)))))), tp (nx (nx (nx (nx (nx (nx (nx z)))))))]
  = [b8 (wu8 (ishr .u64 z 56)), b8 (wu8 (ishr .u64 z 48)), b8 (wu8 (ishr .u64 z 40)), b8 (wu8 (ishr .u64 z 32)), b8 (wu8 (ishr .u64 z 24)), b8 (wu8 (ishr .u64 z 16)), b8 (wu8 (ishr .u64 z 8)), b8 (wu8 (ishr .u64 z 0))] := by
 have e0 : z = z % 18446744073709551616 := by omega
 have e1 : nx z = z * 256 % 18446744073709551616 := rfl
 have t0 : tp z = b8 (wu8 (ishr .u64 z 56)) := by rw [e0]; exact jF 56 (by decide) (by omega)
 have t1 : tp (nx z) = b8 (wu8 (ishr .u64 z 48)) := by rw [e1]; exact jF 48 (by decide) (by omega)
 have t2 : tp (nx (nx z)) = b8 (wu8 (ishr .u64 z 40)) := by rw [e1, d5]; exact jF 40 (by decide) (by omega)
 have t3 : tp (nx (nx (nx z))) = b8 (wu8 (ishr .u64 z 32)) := by rw [e1, d5, d5]; exact jF 32 (by decide) (by omega)
 have t4 : tp (nx (nx (nx (nx z)))) = b8 (wu8 (ishr .u64 z 24)) := by rw [e1, d5, d5, d5]; exact jF 24 (by decide) (by omega)
 have t5 : tp (nx (nx (nx (nx (nx z))))) = b8 (wu8 (ishr .u64 z 16)) := by rw [e1, d5, d5, d5, d5]; exact jF 16 (by decide) (by omega)
 have t6 : tp (nx (nx (nx (nx (nx (nx z)))))) = b8 (wu8 (ishr .u64 z 8)) := by rw [e1, d5, d5, d5, d5, d5]; exact jF 8 (by decide) (by omega)
 have t7 : tp (nx (nx (nx (nx (nx (nx (nx z))))))) = b8 (wu8 (ishr .u64 z 0)) := by rw [e1, d5, d5, d5, d5, d5, d5]; exact jF 0 (by decide) (by omega)
 rw [t0, t1, t2, t3, t4, t5, t6, t7]
theorem vX : ik sec = some [1, 115] ∧ dZ sec = some [1, 115] := ⟨by kernel_rfl, by kernel_rfl⟩
theorem yu {n : Int} (h0 : 0 ≤ n) (h1 : n < 4294967296) : ∃ l : List UInt8, l.length ≤ 5 ∧ dn n = some l ∧ aG n = some l := by
 obtain ⟨k, rfl⟩ := Int.eq_ofNat_of_zero_le h0
 exact ⟨pn k, wR 4 k (by omega), wv (by omega), qb (by omega)⟩
theorem q8 {b : List UInt8} (hb : b.length + 2 ≤ lim) : ∃ m : List UInt8, m.length = 8 ∧ ij sec b = some m ∧ cu sec b = some m := by
 obtain ⟨r0, r1⟩ := qf ([1, 115] ++ b)
 have hs := Au (x := [1, 115]) (y := b) (by simp only [List.length_cons, List.length_nil]; omega)
 have hr := uj ([1, 115] ++ b)
 generalize jP ([1, 115] ++ b) = h at r0 r1 hs hr
 obtain ⟨a1, a2⟩ := hi32 r0 r1
 obtain ⟨c1, c2⟩ := lo32 r0 r1
 obtain ⟨u, u1, u2, u3⟩ := yu (n := h / 4294967296) (by omega) (by omega)
 obtain ⟨v, v1, v2, v3⟩ := yu (n := h % 4294967296) (by omega) (by omega)
 have h4 := Ax (x := [1, 115]) (y := u) (z := v) (u := [1, 115]) (by simp only [List.length_cons, List.length_nil]; rw [b9]; omega)
 have hr4 := uj ((([1, 115] ++ u) ++ v) ++ [1, 115])
 obtain ⟨s0, s1⟩ := qf ((([1, 115] ++ u) ++ v) ++ [1, 115])
 generalize jP ((([1, 115] ++ u) ++ v) ++ [1, 115]) = z at h4 hr4 s0 s1
 refine ⟨[b8 (wu8 (ishr .u64 z 56)), b8 (wu8 (ishr .u64 z 48)), b8 (wu8 (ishr .u64 z 40)), b8 (wu8 (ishr .u64 z 32)), b8 (wu8 (ishr .u64 z 24)), b8 (wu8 (ishr .u64 z 16)), b8 (wu8 (ishr .u64 z 8)), b8 (wu8 (ishr .u64 z 0))], rfl, ?_, ?_⟩
 ·unfold ij
  rw [vX.1, Option.bind_some, hs, Option.bind_some, a1, u2, Option.bind_some, c1, v2, Option.bind_some, h4, Option.bind_some]
  exact m1 z
 ·unfold cu
  rw [vX.2, Option.bind_some, bb (by rw [decide_eq_true_eq, b9]; decide), bb (by rw [decide_eq_true_eq]; simp only [List.length_cons, List.length_nil]; omega), hr, Option.bind_some, a2, u3, Option.bind_some,
   bb (by rw [decide_eq_true_eq, b9]; simp only [List.length_cons, List.length_nil]; omega), c2, v3, Option.bind_some, bb (by rw [decide_eq_true_eq, b9]; simp only [List.length_append, List.length_cons, List.length_nil]; omega),
   bb (by rw [decide_eq_true_eq, b9]; simp only [List.length_append, List.length_cons, List.length_nil]; omega), hr4, Option.bind_some, m2, tx s0 s1]
end Fw
end Go.Proofs.YtogmioecalmalaaGreat
