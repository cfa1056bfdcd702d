/- Reading and writing bytes, the mark's hash, right sets: the code and the document. No condition. -/
import Derived.Test.YtogmioecalmalaaGreatM
namespace Go.Proofs.YtogmioecalmalaaGreat
namespace Fw
set_option linter.unusedVariables false
set_option linter.unusedSimpArgs false
set_option linter.unusedSectionVars false
section
variable {α S R : Type} [Inhabited α]
theorem oP {body : (S → Option R) → Nat → α → S → Option R} {k : S → Option R} {l : List α} (T : Nat → S → Option R) (I : Nat → S → Prop) (hend : ∀ s, I l.length s → k s = T l.length s)
  (hstep : ∀ f i s, i < l.length → I i s → (∀ s', I (i + 1) s' → f s' = T (i + 1) s') → body f i (gt l i) s = T i s) {s : S} (h0 : I 0 s) : forI body k 0 l s = T 0 s := by
 have key : ∀ m i s, l.length - i = m → i ≤ l.length → I i s → forI body k i (l.drop i) s = T i s := by
  intro m
  induction m with
  | zero =>
   intro i s hm hi hI
   have : i = l.length := by omega
   subst this
   rw [List.drop_of_length_le (Nat.le_refl _)]
   exact hend s hI
  | succ m ih =>
   intro i s hm hi hI
   rw [fE (by omega)]
   exact hstep _ i s (by omega) hI fun s' h' => ih (i + 1) s' (by omega) (by omega) h'
 exact key _ 0 s rfl (Nat.zero_le _) h0
end
theorem kp {R : Type} [Inhabited R] (g : Bool) (v : R) : kS g (some v) = some (bif g then v else default) := by cases g <;> rfl
theorem bb {R : Type} {c : Bool} {k : Option R} (h : c = true) : chk c k = k := by rw [h]; rfl
theorem bW {R : Type} {c : Bool} {x y : R} (h : c = true) : (bif c then x else y) = x := by rw [h]; rfl
theorem aP {R : Type} {c : Bool} {x y : R} (h : c = false) : (bif c then x else y) = y := by rw [h]; rfl
instance : LawfulBEq ByteArray where
 eq_of_beq {a b} h := by rw [iz] at h; exact of_decide_eq_true h
 rfl {a} := by rw [iz]; exact decide_eq_true rfl
section
variable {κ α : Type} [DecidableEq κ] {x y : κ} {v : α} {es : List (κ × α)}
end
section
variable {x : ByteArray} {v : List UInt8} {es : List (ByteArray × List UInt8)}
end
theorem fF {S R : Type} {b : (S → Option R) → S → Option R} {n : Nat} {s : S} : loopN b (n + 1) s = b (loopN b n) s := rfl
def pn (n : Nat) : List UInt8 := if n < 128 then [UInt8.ofNat n] else UInt8.ofNat (n % 128 + 128) :: pn (n / 128)
theorem kV {n : Nat} (h : n < 128) : pn n = [UInt8.ofNat n] := by unfold pn; rw [if_pos h]
theorem qw {n : Nat} (h : ¬ n < 128) : pn n = UInt8.ofNat (n % 128 + 128) :: pn (n / 128) := by rw [pn, if_neg h]
theorem wR : ∀ (k n : Nat), n < 128 ^ (k + 1) → (pn n).length ≤ k + 1 := by
 intro k
 induction k with
 | zero => intro n h; rw [kV (by omega)]; simp
 | succ k ih =>
  intro n h
  by_cases h1 : n < 128
  ·rw [kV h1]; simp
  ·rw [qw h1]
   have := ih (n / 128) (by rw [Nat.pow_succ] at h; omega)
   simp; omega
theorem wP (n : Nat) : 0 < (pn n).length := by
 by_cases h1 : n < 128
 ·rw [kV h1]; simp
 ·rw [qw h1]; simp
theorem ior8 : ∀ k : Fin 256, ior .u8 (k.val : Int) 128 = (k.val % 128 + 128 : Nat) := by decide +kernel
theorem zL : ∀ k : Fin 256, iand .u8 (k.val : Int) 127 = (k.val % 128 : Nat) := by decide +kernel
theorem wo : ∀ (k u F : Nat) (b : List UInt8), u < 128 ^ (k + 1) → b.length + k + 1 ≤ lim → loopN cR (F + k + 1) (b, (u : Int)) = some (b ++ pn u) := by
 intro k
 induction k with
 | zero =>
  intro u F b h hb
  rw [fF]
  generalize loopN cR (F + 0) = f
  unfold cR
  simp only
  rw [aP (by rw [decide_eq_false_iff_not]; omega), bb (by simp; omega), kV (by omega), sE (by unfold U8; omega)]
  rfl
 | succ k ih =>
  intro u F b h hb
  rw [show F + (k + 1) + 1 = (F + k + 1) + 1 by omega, fF]
  generalize hf : loopN cR (F + k + 1) = f
  unfold cR
  simp only
  by_cases h1 : u < 128
  ·rw [aP (by rw [decide_eq_false_iff_not]; omega), bb (by simp; omega), kV h1, sE (by unfold U8; omega)]; rfl
  ·have e1 : wu8 (u : Int) = (((⟨u % 256, by omega⟩ : Fin 256).val : Nat) : Int) := by unfold wu8; simp
   rw [bW (by rw [decide_eq_true_eq]; omega), e1, ior8]
   have e2 : (u % 256 % 128 + 128 : Nat) = u % 128 + 128 := by omega
   simp only [e2]
   rw [bb (by unfold u8b; simp; omega), bb (by simp; omega)]
   have e3 : ishr .u64 (u : Int) 7 = ((u / 128 : Nat) : Int) := by unfold ishr; rfl
   rw [e3, ← hf, ih (u / 128) F _ (by rw [Nat.pow_succ] at h; omega) (by simp; omega), qw h1]
   unfold b8
   rw [Int.toNat_natCast, List.append_assoc]; rfl
theorem wv {n : Nat} (h : n < 9223372036854775808) : dn (n : Int) = some (pn n) := by
 unfold dn
 rw [show wu64 (max (n : Int) 0) = (n : Int) by rw [qF (by unfold U64; omega)]; omega]
 obtain ⟨F, hF⟩ : ∃ F, FU = F + 8 + 1 := ⟨FU - 9, by unfold FU; omega⟩
 rw [hF]
 exact wo 8 n F [] (by omega) (by rw [b9]; simp)
def numF : Nat → Nat → List UInt8 → Nat × Nat × Int
 | _, _, [] => (0, 0, 4)
 | i, n, c :: l => if (i = 8 ∧ 127 < c.toNat) ∨ (0 < i ∧ c.toNat = 0) then (0, 0, 2) else if c.toNat < 128 then (n + c.toNat * 128 ^ i, i + 1, 0) else numF (i + 1) (n + (c.toNat - 128) * 128 ^ i) l
theorem p128 (i : Nat) : (128 : Nat) ^ i = 2 ^ (7 * i) := by rw [Nat.pow_mul]
theorem p8 {i : Nat} (h : i ≤ 8) : (128 : Nat) ^ i ≤ 72057594037927936 := Nat.le_trans (Nat.pow_le_pow_right (by decide) h) (by decide)
theorem ku {i n c : Nat} (hn : n < 128 ^ i) (hc : c < 128) : n + c * 128 ^ i < 128 ^ (i + 1) := by
 have : (c + 1) * 128 ^ i ≤ 128 * 128 ^ i := Nat.mul_le_mul_right _ hc
 rw [Nat.add_mul] at this
 rw [Nat.pow_succ, Nat.mul_comm (128 ^ i)]
 omega
theorem rU {i n c : Nat} (hi : i ≤ 8) (hn : n < 128 ^ i) (hc : c < 128) : ior .u64 (n : Int) (ishl .u64 (wu64 (c : Int)) (w64 (7 * (i : Int)))) = ((n + c * 128 ^ i : Nat) : Int) := by
 have hp := p8 hi
 have hs := ku hn hc
 have hp9 : (128 : Nat) ^ (i + 1) = 128 * 128 ^ i := by rw [Nat.pow_succ, Nat.mul_comm]
 have e1 : w64 (7 * (i : Int)) = ((7 * i : Nat) : Int) := by rw [bA (by unfold I64; omega)]; simp
 have e2 : ishl .u64 (wu64 (c : Int)) ((7 * i : Nat) : Int) = ((c * 128 ^ i : Nat) : Int) := by
  unfold ishl
  rw [qF (x := (c : Int)) (by unfold U64; omega), Int.toNat_natCast, show min (7 * i) (IntKind.u64).bits = 7 * i from by show min (7 * i) 64 = _; omega]
  have : (c : Int) * 2 ^ (7 * i) = ((c * 128 ^ i : Nat) : Int) := by rw [p128]; push_cast; rfl
  rw [this]
  show wu64 _ = _
  exact qF (by unfold U64; omega)
 rw [e1, e2]
 unfold ior
 show wu64 _ = _
 have e3 : (BitVec.ofInt 64 (n : Int) ||| BitVec.ofInt 64 ((c * 128 ^ i : Nat) : Int)).toNat = n + c * 128 ^ i := by
  rw [BitVec.toNat_or, BitVec.ofInt_natCast, BitVec.ofInt_natCast, BitVec.toNat_ofNat, BitVec.toNat_ofNat, Nat.mod_eq_of_lt (by omega), Nat.mod_eq_of_lt (by omega)]
  have := Nat.shiftLeft_add_eq_or_of_lt (a := c) (b := n) (i := 7 * i) (by rw [← p128]; exact hn)
  rw [Nat.shiftLeft_eq, ← p128] at this
  rw [Nat.or_comm, ← this]; omega
 show wu64 (((BitVec.ofInt 64 (n : Int) ||| BitVec.ofInt 64 ((c * 128 ^ i : Nat) : Int)).toNat : Nat) : Int) = _
 rw [e3]
 exact qF (by unfold U64; omega)
def numR (at_ : Nat) (r : Nat × Nat × Int) : Int × Int × Int := ((r.1 : Int), (if r.2.2 = 0 then ((at_ + r.2.1 : Nat) : Int) else 0), r.2.2)
theorem vP {b : List UInt8} {at_ : Nat} {K : Int → Option (Int × Int × Int)} (hb : b.length ≤ lim) (ha : at_ ≤ b.length) (hK : ∀ n, K n = some (0, 0, 4)) : ∀ (l : List UInt8) (i n : Nat), (b.drop at_).drop i = l → i ≤ 8 → n < 128 ^ i →
  forI (fH b (at_ : Int)) K i l (n : Int) = some (numR at_ (numF i n l)) := by
 intro l
 induction l with
 | nil => intro i n _ _ _; unfold forI; rw [hK]; rfl
 | cons c l ih =>
  intro i n hd hi hn
  have hg : gt (List.drop at_ b) i = c := by
   have hlt : i < (b.drop at_).length := by
    rcases Nat.lt_or_ge i (b.drop at_).length with h | h
    ·exact h
    ·rw [List.drop_of_length_le h] at hd; cases hd
   rw [fE hlt] at hd
   injection hd
  have hd2 : (b.drop at_).drop (i + 1) = l := by
   have := congrArg List.tail hd
   rw [List.tail_drop] at this
   exact this
  have hlen : i + 1 ≤ (b.drop at_).length := by
   have := congrArg List.length hd
   simp at this ⊢; omega
  rw [List.length_drop] at hlen
  rw [b9] at hb
  have hc := c.toNat_lt
  rw [forI]
  generalize hf : forI (fH b (at_ : Int)) K (i + 1) l = f
  unfold fH fC gj numF
  rw [Int.toNat_natCast, hg]
  by_cases h8 : i = 8 ∧ 127 < c.toNat
  ·have q : (((i : Int) == 8) && (decide (127 < (c.toNat : Int)))) = true := by simp; omega
   rw [q, if_pos (.inl h8)]; rfl
  ·have q : (((i : Int) == 8) && (decide (127 < (c.toNat : Int)))) = false := by
    rw [Bool.eq_false_iff]; intro h; simp at h; exact h8 ⟨by omega, by omega⟩
   rw [q, aP rfl]
   by_cases h0 : 0 < i ∧ c.toNat = 0
   ·have q2 : ((decide (0 < (i : Int))) && ((c.toNat : Int) == 0)) = true := by simp; omega
    rw [q2, bW rfl, if_pos (.inr h0)]; rfl
   ·have q2 : ((decide (0 < (i : Int))) && ((c.toNat : Int) == 0)) = false := by
     rw [Bool.eq_false_iff]; intro h; simp only [Bool.and_eq_true, decide_eq_true_eq, beq_iff_eq] at h; exact h0 ⟨by omega, by omega⟩
    rw [q2, aP rfl, if_neg (by rintro (h | h); exact h8 h; exact h0 h)]
    have hp := p8 hi
    have hp9 : (128 : Nat) ^ (i + 1) = 128 * 128 ^ i := by rw [Nat.pow_succ, Nat.mul_comm]
    by_cases h128 : c.toNat < 128
    ·have hs := ku hn h128
     rw [bW (by simp; omega), if_pos h128, rU hi hn h128, bb (by rw [bA (by unfold I64; omega)]; simp; omega)]
     unfold numR
     rw [if_pos rfl]
     rw [bA (x := (at_ : Int) + (i : Int)) (by unfold I64; omega), bA (x := (at_ : Int) + (i : Int) + 1) (by unfold I64; omega), bA (by unfold I64; omega)]
     congr 3 <;> push_cast <;> omega
    ·have e1 := zL ⟨c.toNat, hc⟩
     have hm : c.toNat % 128 = c.toNat - 128 := by omega
     simp only [hm] at e1
     have hs := ku (i := i) (n := n) (c := c.toNat - 128) hn (by omega)
     rw [aP (by simp; omega), if_neg h128, bb (by rw [bA (by unfold I64; omega)]; simp; omega), e1, rU hi hn (by omega)]
     rw [← hf]
     exact ih (i + 1) _ hd2 (by omega) hs
theorem um {b : List UInt8} {at_ : Nat} (hb : b.length ≤ lim) (ha : at_ ≤ b.length) : cT b (at_ : Int) = some (numR at_ (numF 0 0 (b.drop at_))) := by
 unfold cT
 rw [aP (by simp; omega), bb (by simp [inle]; omega), Int.toNat_natCast]
 exact vP hb ha (fun n => rfl) _ 0 0 rfl (by omega) (by simp)
theorem yH : ∀ (m i n : Nat) (rest : List UInt8), (0 < i → 0 < m) → i + (pn m).length ≤ 9 → numF i n (pn m ++ rest) = (n + m * 128 ^ i, i + (pn m).length, 0) := by
 intro m
 induction m using Nat.strongRecOn with
 | _ m ih =>
  intro i n rest h0 h9
  by_cases h1 : m < 128
  ·rw [kV h1] at *
   have e : (UInt8.ofNat m).toNat = m := by rw [UInt8.toNat_ofNat_of_lt']; show m < 256; omega
   simp only [List.cons_append, List.nil_append, List.length_cons, List.length_nil]
   unfold numF
   rw [e, if_neg (by rintro (h | h); omega; exact absurd (h0 h.1) (by omega)), if_pos h1]
  ·have hp := wP (m / 128)
   rw [qw h1] at h9 ⊢
   simp only [List.length_cons] at h9
   have e : (UInt8.ofNat (m % 128 + 128)).toNat = m % 128 + 128 := by rw [UInt8.toNat_ofNat_of_lt']; show m % 128 + 128 < 256; omega
   simp only [List.cons_append, List.length_cons]
   unfold numF
   rw [e, if_neg (by rintro (h | h); omega; omega), if_neg (by omega), ih (m / 128) (by omega) (i + 1) _ rest (by omega) (by omega)]
   have hm : m = 128 * (m / 128) + m % 128 := by omega
   have : n + (m % 128 + 128 - 128) * 128 ^ i + m / 128 * 128 ^ (i + 1) = n + m * 128 ^ i := by
    rw [Nat.add_sub_cancel, Nat.pow_succ, Nat.mul_comm (128 ^ i) 128, ← Nat.mul_assoc, Nat.add_assoc, ← Nat.add_mul]
    congr 2; omega
   rw [this]; congr 2; omega
theorem yo : ∀ (l : List UInt8) (i n : Nat), i ≤ 8 → n < 128 ^ i → ((numF i n l).2.2 = 0 ∧ i < (numF i n l).2.1 ∧ (numF i n l).2.1 ≤ i + l.length ∧ (numF i n l).1 < 9223372036854775808) ∨ (numF i n l).2.2 = 2 ∨ (numF i n l).2.2 = 4 := by
 intro l
 induction l with
 | nil => intro i n _ _; exact .inr (.inr rfl)
 | cons c l ih =>
  intro i n hi hn
  have hc := c.toNat_lt
  unfold numF
  split
  ·exact .inr (.inl rfl)
  ·rename_i hx
   split
   ·rename_i h128
    have hs := ku hn h128
    have hp := p8 hi
    have hp9 : (128 : Nat) ^ (i + 1) = 128 * 128 ^ i := by rw [Nat.pow_succ, Nat.mul_comm]
    exact .inl ⟨rfl, by simp, by simp, by simp; omega⟩
   ·rename_i h128
    have hi8 : i ≠ 8 := fun h => hx (.inl ⟨h, by omega⟩)
    rcases ih (i + 1) (n + (c.toNat - 128) * 128 ^ i) (by omega) (ku hn (by omega)) with h | h
    ·exact .inl ⟨h.1, by omega, by simp only [List.length_cons]; omega, h.2.2.2⟩
    ·exact .inr h
abbrev Dk := aa
section
variable {R N : Nat} {d : Dk}
end
theorem xm {α S R : Type} [Inhabited α] {body : (S → Option R) → Nat → α → S → Option R} {K : S → Option R} {P : R → Prop} {l : List α} (I : Nat → S → Prop) (hend : ∀ s, I l.length s → ∃ r, K s = some r ∧ P r)
  (hstep : ∀ f i s, i < l.length → I i s → (∀ s', I (i + 1) s' → ∃ r, f s' = some r ∧ P r) → ∃ r, body f i (gt l i) s = some r ∧ P r) {s : S} (h0 : I 0 s) : ∃ r, forI body K 0 l s = some r ∧ P r := by
 have key : ∀ m i s, l.length - i = m → i ≤ l.length → I i s → ∃ r, forI body K i (l.drop i) s = some r ∧ P r := by
  intro m
  induction m with
  | zero =>
   intro i s hm hi hI
   have : i = l.length := by omega
   subst this
   rw [List.drop_of_length_le (Nat.le_refl _)]
   exact hend s hI
  | succ m ih =>
   intro i s hm hi hI
   rw [fE (by omega)]
   exact hstep _ i s (by omega) hI fun s' h' => ih (i + 1) s' (by omega) (by omega) h'
 exact key _ 0 s rfl (Nat.zero_le _) h0
section
variable {R N : Nat} {d : Dk}
end
def SpOk (x : Span) : Prop := 1 ≤ x.s ∧ x.s ≤ 16 ∧ 1 ≤ x.f ∧ x.f ≤ x.t ∧ x.t ≤ 4611686018427387904
theorem yQ {α : Type} [Inhabited α] {l : List α} {p : α → Prop} (h : ∀ j, j < l.length → p (gt l j)) : ∀ x ∈ l, p x := fun x hx => by
 obtain ⟨j, hj, rfl⟩ := List.getElem_of_mem hx
 have := h j hj
 rwa [cm hj] at this
theorem Ap (l : List Span) : ∃ b, ee l = some b ∧ (b = true → l.length ≤ 1024 ∧ ∀ x ∈ l, SpOk x) := by
 unfold ee
 refine xm (fun i _ => ∀ j, j < i → SpOk (gt l j)) (fun s hI => ⟨_, rfl, fun hb => ⟨by have := of_decide_eq_true hb; omega, yQ hI⟩⟩) (fun f i s hi hI hf => ?_) (fun j hj => absurd hj (Nat.not_lt_zero _))
 ·unfold eB
  cases hc : (((((((decide ((gt l i).s < 1)) || (decide (16 < (gt l i).s))) || (decide ((gt l i).f < 1))) || (decide ((gt l i).t < (gt l i).f))) || (decide (4611686018427387904 < (gt l i).t))) || (decide ((gt l i).s < s.s))) || (((gt l i).s == s.s) && (decide ((gt l i).f ≤ (w64 (s.t + 1)))))) with
  | true => exact ⟨false, rfl, fun h => by cases h⟩
  | false =>
   refine hf _ fun j hj => ?_
   rcases Nat.lt_or_ge j i with h | h
   ·exact hI j h
   ·obtain rfl : j = i := by omega
    simp only [Bool.or_eq_false_iff, decide_eq_false_iff_not] at hc
    obtain ⟨⟨⟨⟨⟨⟨h1, h2⟩, h3⟩, h4⟩, h5⟩, h6⟩, h7⟩ := hc
    clear h6 h7
    unfold SpOk
    omega
def pz (n : Int) : List UInt8 := pn n.toNat
def spB (x : Span) : List UInt8 := pz x.s ++ (pz x.f ++ pz (x.t - x.f))
def spsB (l : List Span) : List UInt8 := pz l.length ++ (l.map spB).flatten
theorem pk {n : Int} (h : n ≤ 4611686018427387904) : (pz n).length ≤ 9 := wR 8 _ (by omega)
theorem zg (n : Int) : 0 < (pz n).length := wP _
theorem re {α : Type} {e : α → List UInt8} : ∀ {l : List α}, (∀ x ∈ l, 0 < (e x).length) → l.length ≤ ((l.map e).flatten).length
 | [], _ => Nat.le_refl _
 | x :: l, h => by
  have h1 := h x List.mem_cons_self
  have h2 := re (l := l) fun y hy => h y (List.mem_cons_of_mem _ hy)
  rw [List.map_cons, List.flatten_cons, List.length_append, List.length_cons]; omega
theorem xS {x : Span} (h : SpOk x) : (spB x).length ≤ 27 := by
 obtain ⟨h1, h2, h3, h4, h5⟩ := h
 have a := pk (n := x.s) (by omega)
 have b := pk (n := x.f) (by omega)
 have c := pk (n := x.t - x.f) (by omega)
 unfold spB; simp only [List.length_append]; omega
theorem uu (x : Span) : 0 < (spB x).length := by
 have := zg x.s
 unfold spB; simp only [List.length_append]; omega
def At (B : List UInt8) (p : Int) (rest : List UInt8) : Prop := ∃ q : Nat, p = (q : Int) ∧ q ≤ B.length ∧ B.drop q = rest
theorem At.go {B a rest : List UInt8} {q : Nat} (hq : q ≤ B.length) (h : B.drop q = a ++ rest) : At B ((q + a.length : Nat) : Int) rest ∧ q + a.length ≤ B.length := by
 have h1 := congrArg List.length h
 rw [List.length_drop, List.length_append] at h1
 refine ⟨⟨q + a.length, rfl, by omega, ?_⟩, by omega⟩
 rw [← List.drop_drop, h, List.drop_left]
theorem At.len {B rest : List UInt8} {p : Int} (h : At B p rest) : (B.length : Int) - p = (rest.length : Int) ∧ 0 ≤ p := by
 obtain ⟨q, rfl, h1, rfl⟩ := h
 rw [List.length_drop]; omega
section
variable {B : List UInt8} (hB : B.length ≤ lim)
include hB
theorem yr {p n : Int} {rest : List UInt8} (h0 : 0 ≤ n) (h1 : n ≤ 4611686018427387904) (h : At B p (pz n ++ rest)) : ∃ q : Nat, cT B p = some (n, (q : Int), 0) ∧ At B q rest ∧ q ≤ B.length := by
 obtain ⟨q, rfl, hq, hd⟩ := h
 have hg := At.go hq hd
 have hl := pk h1
 refine ⟨q + (pz n).length, ?_, hg.1, hg.2⟩
 rw [um hB hq, hd]
 unfold pz at hl ⊢
 rw [yH n.toNat 0 0 rest (fun h => absurd h (Nat.lt_irrefl 0)) (by omega)]
 unfold numR
 have e1 : (((0 + n.toNat * 128 ^ 0 : Nat) : Nat) : Int) = n := by rw [Nat.pow_zero, Nat.mul_one, Nat.zero_add]; omega
 simp only [if_pos]
 rw [e1, Nat.zero_add]
theorem u4 {p n : Int} {rest : List UInt8} (h0 : 0 ≤ n) (h1 : n ≤ 4611686018427387904) (h : At B p (pz n ++ rest)) : ∃ q, b7 ⟨B, p⟩ = some (some (⟨B, q⟩, n)) ∧ At B q rest := by
 obtain ⟨q, e, hA, hq⟩ := yr hB h0 h1 h
 rw [b9] at hB
 refine ⟨(q : Int), ?_, hA⟩
 unfold b7 cY
 simp only
 rw [e, Option.bind_some]
 simp only
 rw [aP (by decide), bb (by unfold i64b; rw [Bool.and_eq_true, decide_eq_true_eq, decide_eq_true_eq]; omega), bb (by unfold i64b; rw [Bool.and_eq_true, decide_eq_true_eq, decide_eq_true_eq]; omega)]
theorem zZ {p n : Int} {rest : List UInt8} (h0 : 0 ≤ n) (h1 : n ≤ 4611686018427387904) (h : At B p (pz n ++ rest)) : ∃ q, cq ⟨B, p⟩ = some (some (⟨B, q⟩, n)) ∧ At B q rest := by
 obtain ⟨q, e, hA⟩ := u4 hB h0 h1 h
 refine ⟨q, ?_, hA⟩
 unfold cq
 rw [e]; rfl
theorem zm {p : Int} {x : Span} {rest : List UInt8} (hx : SpOk x) (h : At B p (spB x ++ rest)) : ∃ q, bT ⟨B, p⟩ = some (some (⟨B, q⟩, x)) ∧ At B q rest := by
 obtain ⟨h1, h2, h3, h4, h5⟩ := hx
 unfold spB at h
 rw [List.append_assoc, List.append_assoc] at h
 obtain ⟨q1, e1, a1⟩ := zZ hB (by omega) (by omega) h
 obtain ⟨q2, e2, a2⟩ := u4 hB (by omega) (by omega) a1
 obtain ⟨q3, e3, a3⟩ := u4 hB (by omega) (by omega) a2
 refine ⟨q3, ?_, a3⟩
 unfold bT cN cO optm
 rw [e1, Option.bind_some]
 simp only
 rw [e2, Option.bind_some]
 simp only
 rw [e3, Option.bind_some]
 simp only
 rw [show w64 (x.f + (x.t - x.f)) = x.t by rw [bA (by unfold I64; omega)]; omega, aP (by rw [decide_eq_false_iff_not]; omega)]
theorem tN : ∀ {l : List Span} {out : List Span} {p : Int} {rest : List UInt8} (i : Nat), (∀ x ∈ l, SpOk x) → out.length + l.length ≤ lim → At B p ((l.map spB).flatten ++ rest) →
  ∃ q, forU aF (fun (out_20, o25) => some (some (o25, out_20))) l.length i (out, ⟨B, p⟩) = some (some (⟨B, q⟩, out ++ l)) ∧ At B q rest
 | [], out, p, rest, i, _, _, h => ⟨p, by show some (some ((⟨B, p⟩ : ac), out)) = _; rw [List.append_nil], h⟩
 | x :: l, out, p, rest, i, hx, hl, h => by
  rw [List.length_cons] at hl
  rw [List.map_cons, List.flatten_cons, List.append_assoc] at h
  obtain ⟨q1, e1, a1⟩ := zm hB (hx x List.mem_cons_self) h
  obtain ⟨q2, e2, a2⟩ := tN (l := l) (out := out ++ [x]) (i + 1) (fun y hy => hx y (List.mem_cons_of_mem _ hy)) (by rw [List.length_append, List.length_singleton]; omega) a1
  refine ⟨q2, ?_, a2⟩
  show aF (forU aF (fun (out_20, o25) => some (some (o25, out_20))) l.length (i + 1)) i (out, ⟨B, p⟩) = _
  rw [List.append_assoc] at e2
  generalize forU aF (fun (out_20, o25) => some (some (o25, out_20))) l.length (i + 1) = f at e2 ⊢
  unfold aF optm
  simp only
  rw [e1, Option.bind_some]
  simp only
  rw [bb (decide_eq_true (by omega)), e2]; rfl
theorem Ah {p : Int} {l : List Span} {rest : List UInt8} (hx : ∀ x ∈ l, SpOk x) (hl : l.length ≤ 1024) (h : At B p (spsB l ++ rest)) : ∃ q, bH ⟨B, p⟩ = some (some (⟨B, q⟩, l)) ∧ At B q rest := by
 unfold spsB at h
 rw [List.append_assoc] at h
 obtain ⟨q1, e1, a1⟩ := u4 hB (by omega) (by omega) h
 have hg := re (e := spB) (l := l) fun x _ => uu x
 have hr := a1.len
 rw [List.length_append] at hr
 have hB2 := hB
 rw [b9] at hB2
 obtain ⟨q2, e2, a2⟩ := tN hB (l := l) (out := []) 0 hx (by rw [b9]; simp only [List.length_nil]; omega) a1
 refine ⟨q2, ?_, a2⟩
 unfold bH cn optm
 rw [e1, Option.bind_some]
 simp only
 rw [bA (x := (B.length : Int) - q1) (by unfold I64; omega), aP (by rw [decide_eq_false_iff_not]; omega), Int.toNat_natCast, e2]; rfl
end
theorem vv {b : List UInt8} {at_ : Nat} (hb : b.length ≤ lim) : ∀ (k i n F : Nat), i + k = 8 → n < 128 ^ i → at_ + i ≤ b.length → loopN (bN b) (F + k + 1) (((at_ + i : Nat) : Int), (n : Int), ((128 ^ i : Nat) : Int), (i : Int)) = some (numR at_ (numF i n (b.drop (at_ + i)))) := by
 rw [b9] at hb
 intro k
 induction k with
 | zero =>
  intro i n F hi hn ha
  obtain rfl : i = 8 := by omega
  rw [fF]
  generalize loopN (bN b) (F + 0) = f
  unfold bN
  simp only
  by_cases h0 : at_ + 8 < b.length
  ·have hg : (gt b (((at_ + 8 : Nat) : Int)).toNat) = gt b (at_ + 8) := by rw [Int.toNat_natCast]
   rw [bW (by rw [decide_eq_true_eq]; omega), bb (by unfold inb; rw [Bool.and_eq_true, decide_eq_true_eq, decide_eq_true_eq]; omega), hg, fE h0]
   generalize gt b (at_ + 8) = c
   have hc := c.toNat_lt
   have hn8 : n < 72057594037927936 := Nat.lt_of_lt_of_le hn (p8 (Nat.le_refl 8))
   rw [bA (x := (c.toNat : Int)) (by unfold I64; omega)]
   unfold numF
   by_cases h1 : 127 < c.toNat
   ·rw [bW (by simp; omega), if_pos (.inl ⟨rfl, h1⟩)]; rfl
   ·by_cases h2 : c.toNat = 0
    ·rw [bW (by simp; omega), if_pos (.inr ⟨by decide, h2⟩)]; rfl
    ·have hp : (128 ^ 8 : Nat) = 72057594037927936 := by decide
     rw [aP (by simp; omega), if_neg (by omega), bW (by rw [decide_eq_true_eq]; omega), if_pos (by omega)]
     unfold numR
     simp only [if_pos]
     rw [hp, Int.tmod_eq_emod_of_nonneg (by omega), bA (x := (c.toNat : Int) % 128 * ((72057594037927936 : Nat) : Int)) (by unfold I64; omega), bA (x := (n : Int) + _) (by unfold I64; omega), bA (by unfold I64; omega)]
     have e1 : (n : Int) + (c.toNat : Int) % 128 * ((72057594037927936 : Nat) : Int) = ((n + c.toNat * 72057594037927936 : Nat) : Int) := by omega
     have e2 : ((at_ + 8 : Nat) : Int) + 1 = ((at_ + (8 + 1) : Nat) : Int) := by omega
     rw [e1, e2]
  ·rw [aP (by rw [decide_eq_false_iff_not]; omega), List.drop_of_length_le (by omega)]; rfl
 | succ k ih =>
  intro i n F hi hn ha
  rw [show F + (k + 1) + 1 = (F + k + 1) + 1 by omega, fF]
  have ih2 := fun n => ih (i + 1) n F
  generalize loopN (bN b) (F + k + 1) = f at ih2 ⊢
  unfold bN
  simp only
  have hpi := p8 (i := i) (by omega)
  by_cases h0 : at_ + i < b.length
  ·have hg : (gt b (((at_ + i : Nat) : Int)).toNat) = gt b (at_ + i) := by rw [Int.toNat_natCast]
   rw [bW (by rw [decide_eq_true_eq]; omega), bb (by unfold inb; rw [Bool.and_eq_true, decide_eq_true_eq, decide_eq_true_eq]; omega), hg, fE h0]
   generalize gt b (at_ + i) = c
   have hc := c.toNat_lt
   rw [bA (x := (c.toNat : Int)) (by unfold I64; omega)]
   unfold numF
   by_cases h2 : 0 < i ∧ c.toNat = 0
   ·rw [bW (by simp; omega), if_pos (.inr h2)]; rfl
   ·rw [aP (by simp; omega), if_neg (by omega)]
    have hmul : c.toNat % 128 * 128 ^ i ≤ 127 * 128 ^ i := Nat.mul_le_mul_right _ (by omega)
    have em : ((c.toNat : Int).tmod 128) * ((128 ^ i : Nat) : Int) = ((c.toNat % 128 * 128 ^ i : Nat) : Int) := by
     rw [Int.tmod_eq_emod_of_nonneg (by omega)]; push_cast; rfl
    rw [em]
    generalize hX : c.toNat % 128 * 128 ^ i = X at hmul
    rw [bA (x := (X : Int)) (by unfold I64; omega), bA (x := (n : Int) + (X : Int)) (by unfold I64; omega), bA (x := ((at_ + i : Nat) : Int) + 1) (by unfold I64; omega)]
    by_cases h3 : c.toNat < 128
    ·rw [bW (by rw [decide_eq_true_eq]; omega), if_pos h3]
     unfold numR
     simp only [if_pos]
     rw [← hX, Nat.mod_eq_of_lt h3]
     congr 2
    ·rw [aP (by rw [decide_eq_false_iff_not]; omega), if_neg h3]
     have e1 : ((128 ^ i : Nat) : Int) * 128 = ((128 ^ (i + 1) : Nat) : Int) := by rw [Nat.pow_succ]; push_cast; rfl
     have hp1 : 128 ^ (i + 1) ≤ 72057594037927936 := p8 (by omega)
     rw [e1, bA (x := ((128 ^ (i + 1) : Nat) : Int)) (by unfold I64; omega), bA (x := (i : Int) + 1) (by unfold I64; omega)]
     have := ih2 (n + (c.toNat - 128) * 128 ^ i) (by omega) (ku hn (by omega)) (by omega)
     rw [show c.toNat % 128 = c.toNat - 128 by omega] at hX
     rw [hX] at this ⊢
     rw [← Nat.add_assoc at_ i 1] at this
     exact this
  ·rw [aP (by rw [decide_eq_false_iff_not]; omega), List.drop_of_length_le (by omega)]; rfl
theorem yC {b : List UInt8} {at_ : Nat} (hb : b.length ≤ lim) (ha : at_ ≤ b.length) : bD b (at_ : Int) = some (numR at_ (numF 0 0 (b.drop at_))) := by
 unfold bD
 obtain ⟨F, hF⟩ : ∃ F, FU = F + 8 + 1 := ⟨FU - 9, by unfold FU; omega⟩
 rw [hF]
 exact vv hb 8 0 0 F rfl (by decide) ha
theorem uW : ∀ (k u F : Nat) (b : List UInt8), u < 128 ^ (k + 1) → k ≤ 8 → b.length + k + 1 ≤ lim → loopN aO (F + k + 1) ((u : Int), b) = some (b ++ pn u) := by
 intro k
 induction k with
 | zero =>
  intro u F b h _ hb
  rw [fF]
  generalize loopN aO (F + 0) = f
  unfold aO
  simp only
  rw [aP (by rw [decide_eq_false_iff_not]; omega), bb (by rw [decide_eq_true_eq]; omega), kV (by omega), sE (by unfold U8; omega)]
  unfold b8
  rw [Int.toNat_natCast]
 | succ k ih =>
  intro u F b h hk hb
  rw [show F + (k + 1) + 1 = (F + k + 1) + 1 by omega, fF]
  by_cases h1 : u < 128
  ·generalize loopN aO (F + k + 1) = f
   unfold aO
   simp only
   rw [aP (by rw [decide_eq_false_iff_not]; omega), bb (by rw [decide_eq_true_eq]; omega), kV h1, sE (by unfold U8; omega)]
   unfold b8
   rw [Int.toNat_natCast]
  ·have hp : 128 ^ (k + 1 + 1) ≤ 128 ^ 9 := Nat.pow_le_pow_right (by decide) (by omega)
   have hp9 : (128 ^ 9 : Nat) = 9223372036854775808 := by decide
   have ih2 := ih (u / 128) F (b ++ [UInt8.ofNat (u % 128 + 128)]) (by rw [Nat.pow_succ] at h; omega) (by omega) (by simp; omega)
   generalize loopN aO (F + k + 1) = f at ih2 ⊢
   unfold aO
   simp only
   rw [bW (by rw [decide_eq_true_eq]; omega), bb (by rw [decide_eq_true_eq]; omega), Int.tmod_eq_emod_of_nonneg (by omega), Int.tdiv_eq_ediv_of_nonneg (by omega)]
   rw [bA (x := (u : Int) / 128) (by unfold I64; omega), bA (x := (u : Int) % 128 + 128) (by unfold I64; omega), sE (by unfold U8; omega)]
   rw [show (u : Int) / 128 = ((u / 128 : Nat) : Int) by omega, show (u : Int) % 128 + 128 = ((u % 128 + 128 : Nat) : Int) by omega]
   unfold b8
   rw [Int.toNat_natCast, ih2, qw h1, List.append_assoc]; rfl
theorem qb {n : Nat} (h : n < 9223372036854775808) : aG (n : Int) = some (pn n) := by
 unfold aG cz
 rw [aP (by rw [decide_eq_false_iff_not]; omega)]
 obtain ⟨F, hF⟩ : ∃ F, FU = F + 8 + 1 := ⟨FU - 9, by unfold FU; omega⟩
 rw [hF]
 exact uW 8 n F [] (by omega) (Nat.le_refl _) (by rw [b9]; simp)
theorem qi : ∀ (l : List UInt8) (i n r k : Nat), numF i n l = (r, k, 0) → ∃ m, r = n + m * 128 ^ i ∧ i < k ∧ l.take (k - i) = pn m ∧ (0 < i → 0 < m)
 | [], _, _, _, _, h => by unfold numF at h; injection h with _ h; injection h with _ h; exact absurd h (by decide)
 | c :: l, i, n, r, k, h => by
  have hc := c.toNat_lt
  unfold numF at h
  split at h
  ·injection h with _ h; injection h with _ h; exact absurd h (by decide)
  ·rename_i h1
   split at h
   ·rename_i h2
    injection h with e1 h; injection h with e2 _
    refine ⟨c.toNat, e1.symm, by omega, ?_, fun hi => by omega⟩
    rw [← e2, Nat.add_sub_cancel_left, kV h2]
    simp
   ·rename_i h2
    obtain ⟨m, m1, m2, m3, m4⟩ := qi l (i + 1) _ r k h
    have hm := m4 (Nat.succ_pos i)
    refine ⟨c.toNat - 128 + 128 * m, ?_, by omega, ?_, fun _ => by omega⟩
    ·rw [m1, Nat.pow_succ, Nat.add_mul, Nat.add_assoc]
     congr 1
     congr 1
     rw [Nat.mul_comm (128 ^ i) 128, ← Nat.mul_assoc, Nat.mul_comm m 128]
    ·rw [show k - i = (k - (i + 1)) + 1 by omega, List.take_succ_cons, m3, qw (n := c.toNat - 128 + 128 * m) (by omega)]
     rw [show (c.toNat - 128 + 128 * m) % 128 + 128 = c.toNat by omega, show (c.toNat - 128 + 128 * m) / 128 = m by omega]
     simp
theorem At.eq {B a b : List UInt8} {p : Int} (h : At B p a) (h' : At B p b) : a = b := by
 obtain ⟨q, e, _, rfl⟩ := h
 obtain ⟨q', e', _, rfl⟩ := h'
 have : q = q' := by omega
 rw [this]
section
variable {B : List UInt8} (hB : B.length ≤ lim)
include hB
theorem k5 {p : Int} {rest : List UInt8} (h : At B p rest) : bD B p = cT B p := by
 obtain ⟨q, rfl, hq, _⟩ := h
 rw [yC hB hq, um hB hq]
theorem tL {p : Int} {rest : List UInt8} (h : At B p rest) : (∃ x y e, e ≠ 0 ∧ cT B p = some (x, y, e)) ∨ ∃ (n : Int) (q : Nat) (rest' : List UInt8), cT B p = some (n, (q : Int), 0) ∧ 0 ≤ n ∧ n < 9223372036854775808 ∧ At B p (pz n ++ rest') ∧ At B q rest' ∧ q ≤ B.length := by
 obtain ⟨q, rfl, hq, hd⟩ := h
 rw [um hB hq, hd]
 have hl := congrArg List.length hd
 rw [List.length_drop] at hl
 rcases yo rest 0 0 (by omega) (by simp) with ⟨h1, h2, h3, h4⟩ | h1 | h1
 ·right
  obtain ⟨m, m1, m2, m3, _⟩ := qi rest 0 0 (numF 0 0 rest).1 (numF 0 0 rest).2.1 (by rw [← h1])
  rw [Nat.pow_zero, Nat.mul_one, Nat.zero_add] at m1
  rw [Nat.sub_zero] at m3
  refine ⟨((numF 0 0 rest).1 : Int), q + (numF 0 0 rest).2.1, rest.drop (numF 0 0 rest).2.1, ?_, by omega, by omega, ⟨q, rfl, hq, ?_⟩, ⟨_, rfl, by omega, ?_⟩, by omega⟩
  ·unfold numR; rw [if_pos h1, h1]
  ·unfold pz
   rw [hd, Int.toNat_natCast, m1, ← m3, List.take_append_drop]
  ·rw [← List.drop_drop, hd]
 ·left; exact ⟨_, _, 2, by decide, by unfold numR; rw [h1]⟩
 ·left; exact ⟨_, _, 4, by decide, by unfold numR; rw [h1]⟩
def Vc (B : List UInt8) (s : ac) : Prop := s.b = B ∧ ∃ rest, At B s.at_ rest
def Co (B : List UInt8) (s s' : ac) (w : List UInt8) : Prop := s'.b = B ∧ ∃ rest, At B s.at_ (w ++ rest) ∧ At B s'.at_ rest
omit hB in
theorem Co.v {s s' : ac} {w : List UInt8} (h : Co B s s' w) : Vc B s' := ⟨h.1, h.2.imp fun _ h => h.2⟩
omit hB in
theorem Co.nil {s : ac} (h : Vc B s) : Co B s s [] := ⟨h.1, h.2.imp fun _ h => ⟨h, h⟩⟩
omit hB in
theorem Co.trans {s s' s'' : ac} {v w : List UInt8} (h : Co B s s' v) (h' : Co B s' s'' w) : Co B s s'' (v ++ w) := by
 obtain ⟨h1, r1, a1, b1⟩ := h
 obtain ⟨h2, r2, a2, b2⟩ := h'
 refine ⟨h2, r2, ?_, b2⟩
 rw [List.append_assoc, ← b1.eq a2]
 exact a1
def Sd {α : Type} (B : List UInt8) (s : ac) (m : Option (Option (ac × α))) (P : α → List UInt8 → Prop) : Prop := m = some none ∨ ∃ s' x w, m = some (some (s', x)) ∧ Co B s s' w ∧ P x w
theorem ub {s : ac} (h : Vc B s) : Sd B s (b7 s) fun n w => 0 ≤ n ∧ n < 9223372036854775808 ∧ w = pz n := by
 obtain ⟨b, p⟩ := s
 obtain ⟨rfl, rest, h⟩ := h
 have hB2 := hB
 rw [b9] at hB2
 unfold b7 cY
 simp only at h hB hB2 ⊢
 rcases tL hB h with ⟨x, y, e, he, h1⟩ | ⟨n, q, r1, h1, h2, h3, h4, h5, h6⟩
 ·rw [h1, Option.bind_some]
  simp only
  rw [bW (bne_iff_ne.2 he)]
  exact .inl rfl
 ·rw [h1, Option.bind_some]
  simp only
  rw [aP (by decide), bb (by unfold i64b; rw [Bool.and_eq_true, decide_eq_true_eq, decide_eq_true_eq]; omega), bb (by unfold i64b; rw [Bool.and_eq_true, decide_eq_true_eq, decide_eq_true_eq]; omega)]
  exact .inr ⟨_, _, _, rfl, ⟨rfl, r1, h4, h5⟩, h2, h3, rfl⟩
theorem zS {s : ac} (h : Vc B s) : Sd B s (cq s) fun n w => 0 ≤ n ∧ n < 9223372036854775808 ∧ w = pz n := by
 unfold cq
 rcases ub hB h with e | ⟨s', x, w, e, h1, h2⟩
 ·rw [e]; exact .inl rfl
 ·rw [e]; exact .inr ⟨s', x, w, rfl, h1, h2⟩
theorem ze {s : ac} (h : Vc B s) : Sd B s (bT s) fun x w => x.f ≤ x.t ∧ I64 x.f ∧ w = spB x := by
 unfold bT cN cO optm
 rcases zS hB h with e | ⟨s1, x1, w1, e, h1, p1, p2, rfl⟩
 ·rw [e]; exact .inl rfl
 rw [e, Option.bind_some]
 simp only
 rcases ub hB h1.v with e | ⟨s2, x2, w2, e, h2, p3, p4, rfl⟩
 ·rw [e]; exact .inl rfl
 rw [e, Option.bind_some]
 simp only
 rcases ub hB h2.v with e | ⟨s3, x3, w3, e, h3, p5, p6, rfl⟩
 ·rw [e]; exact .inl rfl
 rw [e, Option.bind_some]
 simp only
 by_cases hc : w64 (x2 + x3) < x2
 ·rw [bW (decide_eq_true hc)]; exact .inl rfl
 rw [aP (decide_eq_false hc)]
 have hw : w64 (x2 + x3) = x2 + x3 := by
  by_cases hs : x2 + x3 < 9223372036854775808
  ·exact bA (by unfold I64; omega)
  ·exfalso; apply hc
   have : w64 (x2 + x3) = x2 + x3 - 18446744073709551616 := by
    rw [← bA (x := x2 + x3 - 18446744073709551616) (by unfold I64; omega)]
    unfold w64; omega
   rw [this]; omega
 refine .inr ⟨s3, _, _, rfl, (h1.trans h2).trans h3, by simp only; omega, by simp only; unfold I64; omega, ?_⟩
 unfold spB
 simp only
 rw [hw, show x2 + x3 - x2 = x3 by omega, List.append_assoc]
end
section
variable {B : List UInt8} (hB : B.length ≤ lim)
include hB
theorem ua : ∀ (k i : Nat) (out : List Span) (s : ac), Vc B s → out.length + k ≤ lim →
  Sd B s (forU aF (fun (out_20, o25) => some (some (o25, out_20))) k i (out, s)) fun l w => ∃ l', l = out ++ l' ∧ l'.length = k ∧ (∀ x ∈ l', I64 x.f) ∧ w = (l'.map spB).flatten
 | 0, i, out, s, h, _ => .inr ⟨s, out, [], rfl, Co.nil h, [], by simp, rfl, (fun x hx => by cases hx), rfl⟩
 | k + 1, i, out, s, h, hl => by
  have ih := fun out s h hl => ua k (i + 1) out s h hl
  show Sd B s (aF (forU aF (fun (out_20, o25) => some (some (o25, out_20))) k (i + 1)) i (out, s)) _
  generalize forU aF (fun (out_20, o25) => some (some (o25, out_20))) k (i + 1) = f at ih ⊢
  unfold aF optm
  simp only
  rcases ze hB h with e | ⟨s1, x1, w1, e, h1, p1, p2, p3⟩
  ·rw [e]; exact .inl rfl
  rw [e, Option.bind_some]
  simp only
  rw [bb (decide_eq_true (by omega))]
  rcases ih (out ++ [x1]) s1 h1.v (by simp; omega) with e | ⟨s2, x2, w2, e, h2, l', e2, e3, e4, e5⟩
  ·rw [e]; exact .inl rfl
  ·rw [e]
   refine .inr ⟨s2, x2, _, rfl, h1.trans h2, x1 :: l', by rw [e2]; simp, by simp [e3], fun x hx => ?_, by rw [p3, e5]; simp⟩
   rcases List.mem_cons.1 hx with e | hx
   ·rw [e]; exact p2
   ·exact e4 x hx
theorem zX {s : ac} (h : Vc B s) : Sd B s (bH s) fun l w => l.length ≤ lim ∧ (∀ x ∈ l, I64 x.f) ∧ w = spsB l := by
 have hB2 := hB
 rw [b9] at hB2
 unfold bH cn optm
 rcases ub hB h with e | ⟨s1, n, w1, e, h1, p1, p2, rfl⟩
 ·rw [e]; exact .inl rfl
 rw [e, Option.bind_some]
 simp only
 obtain ⟨hb1, r1, hv1⟩ := h1.v
 have hlen := hv1.len
 rw [hb1, bA (by unfold I64; omega)]
 by_cases hc : (B.length : Int) - s1.at_ < n
 ·rw [bW (decide_eq_true hc)]; exact .inl rfl
 rw [aP (decide_eq_false hc)]
 have hn : n.toNat ≤ lim := by omega
 rcases ua hB n.toNat 0 [] s1 h1.v (by simpa using hn) with e | ⟨s2, x2, w2, e, h2, l', e2, e3, e4, e5⟩
 ·rw [e]; exact .inl rfl
 ·rw [e]
  rw [List.nil_append] at e2
  subst e2
  refine .inr ⟨s2, x2, _, rfl, h1.trans h2, by omega, e4, ?_⟩
  unfold spsB
  rw [e5, show (x2.length : Int) = n by omega]
end
abbrev Rr := af
def Vr (B : List UInt8) (r : Rr) : Prop := r.b = B ∧ ∃ rest, At B r.at_ rest
structure Rg (B : List UInt8) (P : Prop) (r r' : Rr) (w : List UInt8) : Prop where
 v : Vr B r'
 ok : r'.bad = false → r.bad = false ∧ (P → ∃ rest, At B r.at_ (w ++ rest) ∧ At B r'.at_ rest)
section
variable {B : List UInt8}
theorem Rg.trans {P Q : Prop} {r r1 r2 : Rr} {v w : List UInt8} (h : Rg B P r r1 v) (h' : Rg B Q r1 r2 w) : Rg B (P ∧ Q) r r2 (v ++ w) :=
 ⟨h'.v, fun hb => by
  obtain ⟨b1, k1⟩ := h'.ok hb
  obtain ⟨b2, k2⟩ := h.ok b1
  refine ⟨b2, fun hp => ?_⟩
  obtain ⟨r1, a1, a2⟩ := k1 hp.2
  obtain ⟨r2, a3, a4⟩ := k2 hp.1
  exact ⟨r1, by rw [List.append_assoc, ← a4.eq a1]; exact a3, a2⟩⟩
theorem Rg.weak {P Q : Prop} {r r' : Rr} {v w : List UInt8} (h : Rg B P r r' v) (hq : r'.bad = false → Q → P ∧ v = w) : Rg B Q r r' w :=
 ⟨h.v, fun hb => ⟨(h.ok hb).1, fun q => by
  obtain ⟨p, e⟩ := hq hb q
  rw [← e]; exact (h.ok hb).2 p⟩⟩
theorem Rg.bad {P : Prop} {r r' : Rr} {w : List UInt8} (hv : Vr B r') (h : r'.bad = true) : Rg B P r r' w := ⟨hv, fun hb => by rw [h] at hb; cases hb⟩
theorem Rg.nil {P : Prop} {r : Rr} (hv : Vr B r) : Rg B P r r [] := ⟨hv, fun hb => ⟨hb, fun _ => hv.2.imp fun _ h => ⟨h, h⟩⟩⟩
end
section
variable {B : List UInt8} (hB : B.length ≤ lim)
include hB
theorem uw {r : Rr} (h : Vr B r) : ∃ r' n, aL r = some (r', n) ∧ Rg B True r r' (pz n) ∧ 0 ≤ n ∧ n < 9223372036854775808 := by
 obtain ⟨b, p, bad⟩ := r
 have hv := h
 obtain ⟨rfl, rest, h⟩ := h
 have hB2 := hB
 rw [b9] at hB2
 unfold aL
 simp only at h hB hB2 hv ⊢
 cases bad with
 | true => exact ⟨_, 0, rfl, Rg.bad hv rfl, by decide, by decide⟩
 | false =>
  rw [aP rfl, k5 hB h]
  rcases tL hB h with ⟨x, y, e, he, h1⟩ | ⟨n, q, r1, h1, h2, h3, h4, h5, h6⟩
  ·rw [h1, Option.bind_some]
   simp only
   rw [bW (bne_iff_ne.2 he)]
   exact ⟨_, 0, rfl, Rg.bad hv rfl, by decide, by decide⟩
  ·rw [h1, Option.bind_some]
   simp only
   rw [aP (by decide), bb (by unfold i64b; rw [Bool.and_eq_true, decide_eq_true_eq, decide_eq_true_eq]; omega), bb (by unfold i64b; rw [Bool.and_eq_true, decide_eq_true_eq, decide_eq_true_eq]; omega)]
   exact ⟨_, n, rfl, ⟨⟨rfl, r1, h5⟩, fun _ => ⟨rfl, fun _ => ⟨r1, h4, h5⟩⟩⟩, h2, h3⟩
theorem yb {r : Rr} (h : Vr B r) : ∃ r' n, ba r = some (r', n) ∧ Rg B True r r' (pz n) ∧ 0 ≤ n ∧ n ≤ (B.length : Int) := by
 have hB2 := hB
 rw [b9] at hB2
 obtain ⟨r', n, e, h1, h2, h3⟩ := uw hB h
 unfold ba
 rw [e, Option.bind_some]
 simp only
 obtain ⟨hb, rest, ha⟩ := h1.v
 have hl := ha.len
 rw [hb, bA (by unfold I64; omega)]
 by_cases hc : (B.length : Int) - r'.at_ < n
 ·rw [bW (decide_eq_true hc)]
  exact ⟨_, 0, rfl, Rg.bad ⟨rfl, rest, ha⟩ rfl, by omega, by omega⟩
 ·rw [aP (decide_eq_false hc)]
  exact ⟨r', n, rfl, h1, h2, by omega⟩
def SpF (l : List Span) : Prop := ∀ x ∈ l, x.f ≤ x.t
theorem uB {n : Nat} (hn : n ≤ B.length) {r0 z : Rr} : ∀ (k : Nat) (out : List Span) (o : Rr) (Fu : Nat), n = out.length + k → Rg B (SpF out) r0 o (out.map spB).flatten → (∀ x ∈ out, I64 x.f) →
  ∃ r' l, loopN (az (z, (n : Int))) (Fu + k + 1) (out, (out.length : Int), o) = some (r', l) ∧ Rg B (SpF l) r0 r' (l.map spB).flatten ∧ (r'.bad = false → l.length = n) ∧ l.length ≤ n ∧ (∀ x ∈ l, I64 x.f)
 | 0, out, o, Fu, hk, h, h2 => by
  rw [fF]
  generalize loopN (az (z, (n : Int))) (Fu + 0) = f
  unfold az
  simp only
  rw [aP (by rw [decide_eq_false (by omega)]; rfl)]
  exact ⟨o, out, rfl, h, fun _ => by omega, by omega, h2⟩
 | k + 1, out, o, Fu, hk, h, h2 => by
  have hB2 := hB
  rw [b9] at hB2
  rw [show Fu + (k + 1) + 1 = (Fu + k + 1) + 1 by omega, fF]
  have ih := fun x o h h2 => uB hn (r0 := r0) (z := z) k (out ++ [x]) o Fu (by rw [List.length_append]; show n = out.length + 1 + k; omega) h h2
  generalize loopN (az (z, (n : Int))) (Fu + k + 1) = f at ih ⊢
  unfold az
  simp only
  cases hb : o.bad with
  | true =>
   rw [aP (by simp)]
   exact ⟨o, out, rfl, h, (fun e => by rw [hb] at e; cases e), by omega, h2⟩
  | false =>
   rw [bW (by rw [decide_eq_true (by omega)]; rfl)]
   obtain ⟨r1, x1, e1, g1, p1, p2⟩ := uw hB h.v
   obtain ⟨r2, x2, e2, g2, p3, p4⟩ := uw hB g1.v
   obtain ⟨r3, x3, e3, g3, p5, p6⟩ := uw hB g2.v
   rw [e1, Option.bind_some]
   simp only
   rw [e2, Option.bind_some]
   simp only
   rw [e3, Option.bind_some]
   simp only
   by_cases hc : 4611686018427387904 < x2 ∨ 4611686018427387904 < x3
   ·rw [bW (by rw [Bool.or_eq_true, decide_eq_true_eq, decide_eq_true_eq]; exact hc)]
    refine ⟨_, [], rfl, Rg.bad ⟨g3.v.1, g3.v.2⟩ rfl, fun e => (by cases e), Nat.zero_le _, fun x hx => by cases hx⟩
   ·rw [aP (by rw [Bool.or_eq_false_iff, decide_eq_false_iff_not, decide_eq_false_iff_not]; exact not_or.1 hc), bb (decide_eq_true (by omega)), bA (x := (out.length : Int) + 1) (by unfold I64; omega)]
    have hi : ((out.length : Int) + 1) = (((out ++ [(⟨x1, x2, w64 (x2 + x3)⟩ : Span)]).length : Nat) : Int) := by rw [List.length_append]; rfl
    rw [hi]
    refine ih _ r3 ((((h.trans g1).trans g2).trans g3).weak fun hbd hq => ?_) fun x hx => ?_
    ·have hx := hq (⟨x1, x2, w64 (x2 + x3)⟩ : Span) (by simp)
     simp only at hx
     have hw : w64 (x2 + x3) = x2 + x3 := by
      by_cases hs : x2 + x3 < 9223372036854775808
      ·exact bA (by unfold I64; omega)
      ·exfalso
       have : w64 (x2 + x3) = x2 + x3 - 18446744073709551616 := by
        rw [← bA (x := x2 + x3 - 18446744073709551616) (by unfold I64; omega)]
        unfold w64; omega
       omega
     refine ⟨⟨⟨⟨fun y hy => hq y (List.mem_append_left _ hy), trivial⟩, trivial⟩, trivial⟩, ?_⟩
     rw [hw]
     simp only [List.map_append, List.map_cons, List.map_nil, List.flatten_append, List.flatten_cons, List.flatten_nil, List.append_nil, spB, List.append_assoc]
     rw [show x2 + x3 - x2 = x3 by omega]
    ·rcases List.mem_append.1 hx with hx | hx
     ·exact h2 x hx
     ·rw [List.mem_singleton.1 hx]; simp only; unfold I64; omega
theorem xD {r : Rr} (h : Vr B r) : ∃ r' l, bc r = some (r', l) ∧ Rg B (SpF l) r r' (spsB l) ∧ l.length ≤ lim ∧ (∀ x ∈ l, I64 x.f) := by
 obtain ⟨r1, n, e1, g1, p1, p2⟩ := yb hB h
 unfold bc
 rw [e1, Option.bind_some]
 obtain ⟨k, rfl⟩ : ∃ k : Nat, n = (k : Int) := ⟨n.toNat, by omega⟩
 have hB2 := hB
 rw [b9] at hB2
 obtain ⟨Fu, hFu⟩ : ∃ Fu, FU = Fu + k + 1 := ⟨FU - k - 1, by unfold FU; omega⟩
 obtain ⟨r2, l, e2, g2, q1, q2, q3⟩ := uB hB (n := k) (by omega) (r0 := r1) (z := r1) k [] r1 Fu (by simp) (Rg.nil g1.v) (fun x hx => by cases hx)
 rw [hFu]
 refine ⟨r2, l, e2, (g1.trans g2).weak fun hb hq => ⟨⟨trivial, hq⟩, ?_⟩, by omega, q3⟩
 unfold spsB
 rw [q1 hb]
end
section
variable {B : List UInt8} (hB : B.length ≤ lim)
include hB
theorem tX {p n : Int} {rest : List UInt8} (h0 : 0 ≤ n) (h1 : n ≤ 4611686018427387904) (h : At B p (pz n ++ rest)) : ∃ q, aL ⟨B, p, false⟩ = some (⟨B, q, false⟩, n) ∧ At B q rest := by
 obtain ⟨q, e, hA, hq⟩ := yr hB h0 h1 h
 have hs := k5 hB h
 rw [b9] at hB
 refine ⟨(q : Int), ?_, hA⟩
 unfold aL
 simp only
 rw [aP rfl, hs, e, Option.bind_some]
 simp only
 rw [aP (by decide), bb (by unfold i64b; rw [Bool.and_eq_true, decide_eq_true_eq, decide_eq_true_eq]; omega), bb (by unfold i64b; rw [Bool.and_eq_true, decide_eq_true_eq, decide_eq_true_eq]; omega)]
theorem y9 {p n : Int} {rest : List UInt8} (h0 : 0 ≤ n) (h1 : n ≤ 4611686018427387904) (h2 : n ≤ (rest.length : Int)) (h : At B p (pz n ++ rest)) : ∃ q, ba ⟨B, p, false⟩ = some (⟨B, q, false⟩, n) ∧ At B q rest := by
 obtain ⟨q, e, hA⟩ := tX hB h0 h1 h
 have hl := hA.len
 have hB2 := hB
 rw [b9] at hB2
 refine ⟨q, ?_, hA⟩
 unfold ba
 rw [e, Option.bind_some]
 simp only
 rw [bA (by unfold I64; omega), aP (by rw [decide_eq_false_iff_not]; omega)]
theorem u5 {n : Nat} {z : Rr} : ∀ (l out : List Span) (p : Int) (rest : List UInt8) (Fu : Nat), n = out.length + l.length → n ≤ lim → (∀ x ∈ l, SpOk x) → At B p ((l.map spB).flatten ++ rest) →
  ∃ q, loopN (az (z, (n : Int))) (Fu + l.length + 1) (out, (out.length : Int), ⟨B, p, false⟩) = some (⟨B, q, false⟩, out ++ l) ∧ At B q rest
 | [], out, p, rest, Fu, hn, hl, _, h => by
  rw [fF]
  generalize loopN (az (z, (n : Int))) (Fu + ([] : List Span).length) = f
  unfold az
  simp only
  rw [aP (by rw [decide_eq_false (by simp at hn; omega)]; rfl)]
  exact ⟨p, by rw [List.append_nil], h⟩
 | x :: l, out, p, rest, Fu, hn, hl, hx, h => by
  have hl2 := hl
  rw [b9] at hl2
  rw [List.length_cons] at hn
  rw [show Fu + (x :: l).length + 1 = (Fu + l.length + 1) + 1 by rw [List.length_cons]; omega, fF]
  have ih := fun p h => u5 (n := n) (z := z) l (out ++ [x]) p rest Fu (by simp; omega) hl (fun y hy => hx y (List.mem_cons_of_mem _ hy)) h
  generalize loopN (az (z, (n : Int))) (Fu + l.length + 1) = f at ih ⊢
  obtain ⟨h1, h2, h3, h4, h5⟩ := hx x List.mem_cons_self
  rw [List.map_cons, List.flatten_cons, List.append_assoc] at h
  unfold spB at h
  rw [List.append_assoc, List.append_assoc] at h
  obtain ⟨q1, e1, a1⟩ := tX hB (by omega) (by omega) h
  obtain ⟨q2, e2, a2⟩ := tX hB (by omega) (by omega) a1
  obtain ⟨q3, e3, a3⟩ := tX hB (by omega) (by omega) a2
  unfold az
  simp only
  rw [bW (by rw [decide_eq_true (by omega)]; rfl), e1, Option.bind_some]
  simp only
  rw [e2, Option.bind_some]
  simp only
  rw [e3, Option.bind_some]
  simp only
  rw [aP (by rw [Bool.or_eq_false_iff, decide_eq_false_iff_not, decide_eq_false_iff_not]; omega), bb (decide_eq_true (by omega)), bA (x := (out.length : Int) + 1) (by unfold I64; omega)]
  rw [show w64 (x.f + (x.t - x.f)) = x.t by rw [bA (by unfold I64; omega)]; omega]
  have hi : ((out.length : Int) + 1) = (((out ++ [x]).length : Nat) : Int) := by rw [List.length_append]; rfl
  rw [hi]
  obtain ⟨q, e, a⟩ := ih q3 a3
  exact ⟨q, by rw [show (⟨x.s, x.f, x.t⟩ : Span) = x from rfl, e, List.append_assoc]; rfl, a⟩
theorem y8 {p : Int} {l : List Span} {rest : List UInt8} (hx : ∀ x ∈ l, SpOk x) (hl : l.length ≤ 1024) (h : At B p (spsB l ++ rest)) : ∃ q, bc ⟨B, p, false⟩ = some (⟨B, q, false⟩, l) ∧ At B q rest := by
 unfold spsB at h
 rw [List.append_assoc] at h
 have hg := re (e := spB) (l := l) fun x _ => uu x
 obtain ⟨q1, e1, a1⟩ := y9 hB (by omega) (by omega) (by rw [List.length_append]; omega) h
 unfold bc
 rw [e1, Option.bind_some]
 obtain ⟨Fu, hFu⟩ : ∃ Fu, FU = Fu + l.length + 1 := ⟨FU - l.length - 1, by unfold FU; omega⟩
 rw [hFu]
 exact u5 hB l [] q1 rest Fu (by simp) (by rw [b9]; omega) hx a1
end
theorem tH : ∀ {l : List Int} {b : List UInt8} (i : Nat), (∀ n ∈ l, 0 ≤ n ∧ n ≤ 4611686018427387904) → b.length + ((l.map pz).flatten).length ≤ lim → forI bE (fun b_3 => some b_3) i l b = some (b ++ (l.map pz).flatten)
 | [], b, i, _, _ => by simp [forI]
 | n :: l, b, i, hn, hb => by
  simp only [List.map_cons, List.flatten_cons, List.length_append] at hb
  have ih := tH (l := l) (b := b ++ pz n) (i + 1) (fun m hm => hn m (List.mem_cons_of_mem _ hm)) (by rw [List.length_append]; omega)
  obtain ⟨h0, h1⟩ := hn n List.mem_cons_self
  obtain ⟨k, rfl⟩ : ∃ k : Nat, n = (k : Int) := ⟨n.toNat, by omega⟩
  show bE (forI bE (fun b_3 => some b_3) (i + 1) l) i (k : Int) b = _
  generalize forI bE (fun b_3 => some b_3) (i + 1) l = f at ih ⊢
  unfold bE
  rw [qb (by omega), Option.bind_some]
  have hp : pz (k : Int) = pn k := by unfold pz; rw [Int.toNat_natCast]
  rw [hp] at ih hb
  rw [bb (decide_eq_true (by omega)), ih, List.map_cons, List.flatten_cons, hp, List.append_assoc]
theorem x4 {l : List Int} {b : List UInt8} (h : ∀ n ∈ l, 0 ≤ n ∧ n ≤ 4611686018427387904) (hb : b.length + ((l.map pz).flatten).length ≤ lim) : dK b l = some (b ++ (l.map pz).flatten) := tH 0 h hb
theorem s6 : ∀ {l : List Span} {b : List UInt8} (i : Nat), (∀ x ∈ l, SpOk x) → b.length + ((l.map spB).flatten).length ≤ lim → forI bz (fun b_20 => some b_20) i l b = some (b ++ (l.map spB).flatten)
 | [], b, i, _, _ => by simp [forI]
 | x :: l, b, i, hx, hb => by
  simp only [List.map_cons, List.flatten_cons, List.length_append] at hb
  have ih := s6 (l := l) (b := b ++ spB x) (i + 1) (fun m hm => hx m (List.mem_cons_of_mem _ hm)) (by rw [List.length_append]; omega)
  obtain ⟨h1, h2, h3, h4, h5⟩ := hx x List.mem_cons_self
  show bz (forI bz (fun b_20 => some b_20) (i + 1) l) i x b = _
  generalize forI bz (fun b_20 => some b_20) (i + 1) l = f at ih ⊢
  unfold bz
  have hsp : ([x.s, x.f, x.t - x.f].map pz).flatten = spB x := by simp [spB]
  rw [bA (by unfold I64; omega), x4 (l := [x.s, x.f, x.t - x.f]) (fun n hn => by
   simp only [List.mem_cons, List.not_mem_nil, or_false] at hn
   omega) (by rw [hsp]; omega), Option.bind_some, hsp, ih, List.map_cons, List.flatten_cons, List.append_assoc]
theorem zq {l : List Span} {b : List UInt8} (h : ∀ x ∈ l, SpOk x) (hl : l.length ≤ 1024) (hb : b.length + (spsB l).length ≤ lim) : dw b l = some (b ++ spsB l) := by
 unfold dw
 unfold spsB at hb ⊢
 rw [List.length_append] at hb
 have h1 : ([(l.length : Int)].map pz).flatten = pz (l.length : Int) := by simp
 rw [x4 (l := [(l.length : Int)]) (fun n hn => by rw [List.mem_singleton.1 hn]; omega) (by rw [h1]; omega), Option.bind_some, h1, s6 0 h (by rw [List.length_append]; omega), List.append_assoc]
def jQ (h : Int) (x : UInt8) : Int := wu64 ((ixor .u64 h (wu64 (x.toNat : Int))) * 1099511628211)
def oO (b : List UInt8) : Int := b.foldl jQ 14695981039346656037
def jj (h : Int) : Int := ixor .u64 (wu64 ((ixor .u64 h (ishr .u64 h 33)) * 18397679294719823053)) (ishr .u64 (wu64 ((ixor .u64 h (ishr .u64 h 33)) * 18397679294719823053)) 33)
def jP (b : List UInt8) : Int := jj (oO b)
theorem lB (x : Int) : 0 ≤ wu64 x ∧ wu64 x < 18446744073709551616 := by unfold wu64; omega
theorem tV {h : Int} (h0 : 0 ≤ h) (h1 : h < 18446744073709551616) : wu64 (h.tdiv 8589934592) = ishr .u64 h 33 := by
 have e : h.tdiv 8589934592 = h / 8589934592 := Int.tdiv_eq_ediv_of_nonneg h0
 rw [e]
 unfold wu64 ishr
 show h / 8589934592 % 18446744073709551616 = h / 2 ^ (min (33 : Int).toNat IntKind.u64.bits)
 rw [show (2 : Int) ^ (min (33 : Int).toNat IntKind.u64.bits) = 8589934592 from by decide]
 omega
theorem vY (a b : Int) : 0 ≤ ixor .u64 a b ∧ ixor .u64 a b < 18446744073709551616 := by unfold ixor wr; exact lB _
theorem wb (b : List UInt8) : fA b = some (jP b) := by
 unfold fA jP oO
 refine oP (fun i h => some (jj ((b.drop i).foldl jQ h))) (fun _ _ => True) (fun s _ => ?_) (fun f i s hi _ hf => ?_) trivial
 ·rw [List.drop_of_length_le (Nat.le_refl _)]; rfl
 ·unfold kU
  rw [hf _ trivial, fE hi]; rfl
theorem rEnd {h : Int} (h0 : 0 ≤ h) (h1 : h < 18446744073709551616) : ixor .u64 (wu64 ((ixor .u64 h (wu64 (h.tdiv 8589934592))) * 18397679294719823053)) (wu64 ((wu64 ((ixor .u64 h (wu64 (h.tdiv 8589934592))) * 18397679294719823053)).tdiv 8589934592)) = jj h := by
 rw [tV h0 h1, tV (lB _).1 (lB _).2]
 unfold jj
 exact Eq.refl _
theorem xe : (0 : Int) ≤ 14695981039346656037 ∧ (14695981039346656037 : Int) < 18446744073709551616 := by omega
theorem Aq (f : Int → Option Int) (i : Nat) (x : UInt8) (h : Int) : cW f i x h = f (jQ h x) := by
 unfold cW jQ
 exact Eq.refl _
theorem tU {k : Int → Option Int} (hk : ∀ h, 0 ≤ h ∧ h < 18446744073709551616 → k h = some (jj h)) : ∀ (b : List UInt8) (i : Nat) (h : Int), 0 ≤ h ∧ h < 18446744073709551616 → forI cW k i b h = some (jj (b.foldl jQ h))
 | [], i, h, hh => by rw [forI, hk h hh, List.foldl_nil]
 | x :: b, i, h, hh => by
  rw [forI, Aq, List.foldl_cons]
  exact tU hk b (i + 1) _ (lB _)
theorem uj (b : List UInt8) : cZ b = some (jP b) := by
 unfold cZ jP oO
 exact tU (fun h hh => congrArg some (rEnd hh.1 hh.2)) b 0 _ xe
theorem qf (b : List UInt8) : 0 ≤ jP b ∧ jP b < 18446744073709551616 := by unfold jP jj; exact vY _ _
def eN (p : Nat → Bool) (k n : Nat) : Bool := (List.range' k (n - k)).all p
theorem j5 {p : Nat → Bool} {k n : Nat} (h : k < n) : eN p k n = (p k && eN p (k + 1) n) := by
 unfold eN
 rw [show n - k = (n - (k + 1)) + 1 by omega, List.range'_succ]; rfl
theorem nu {p : Nat → Bool} {k n : Nat} (h : n ≤ k) : eN p k n = true := by
 unfold eN
 rw [show n - k = 0 by omega]; rfl
def kX (x last : Span) : Bool :=
 ((((((decide (x.s < 1) || decide (16 < x.s)) || decide (x.f < 1)) || decide (x.t < x.f)) || decide (4611686018427387904 < x.t)) || decide (x.s < last.s)) || ((x.s == last.s) && decide (x.f ≤ (last.t + 1))))
def spGo : List Span → Span → Bool
 | [], _ => true
 | x :: l, last => bif kX x last then false else spGo l x
def fe (l : List Span) : Bool := spGo l ⟨0, 0, 0⟩ && decide ((l.length : Int) ≤ 1024)
def m6 (d : Dot) : Bool := (((decide (1 ≤ d.s) && decide (d.s ≤ 16)) && decide (1 ≤ d.n)) && decide (d.n ≤ 4611686018427387904))
theorem ym {d : Dot} (h : m6 d = true) : 1 ≤ d.s ∧ d.s ≤ 16 ∧ 1 ≤ d.n ∧ d.n ≤ 4611686018427387904 := by simp [m6] at h; omega
def jK (x : Span) : Bool := (((!(m6 ⟨x.s, x.f⟩)) || (!(m6 ⟨x.s, x.t⟩))) || decide (x.t < x.f))
def lD (p x : Span) : Bool := (decide (x.s < p.s) || ((x.s == p.s) && decide ((x.f - 1) ≤ p.t)))
def oa (l : List Span) : Bool := bif decide (1024 < l.length) then false else eN (fun i => !(jK (gt l i)) && !(decide (0 < (i : Int)) && lD (gt l (i - 1)) (gt l i))) 0 l.length
theorem zo {α : Type} [Inhabited α] {l : List α} {i : Nat} (h : i < l.length) : gt l i ∈ l := by rw [cm h]; exact List.getElem_mem h
section
variable {β : Type} {list : List Int} {got : List (Int × β)} {in_ : List Bool}
end
def pchk {α : Type} (p : α → Bool) (q : α → α → Bool) : Option α → List α → Bool
 | _, [] => true
 | none, x :: l => p x && pchk p q (some x) l
 | some y, x :: l => (p x && q y x) && pchk p q (some x) l
theorem sw {α : Type} [Inhabited α] (p : α → Bool) (q : α → α → Bool) (l : List α) (f : Nat → Bool) (h0 : 0 < l.length → f 0 = p (gt l 0)) (hs : ∀ i, i + 1 < l.length → f (i + 1) = (p (gt l (i + 1)) && q (gt l i) (gt l (i + 1)))) :
  eN f 0 l.length = pchk p q none l := by
 have key : ∀ m k, l.length - (k + 1) = m → eN f (k + 1) l.length = pchk p q (some (gt l k)) (l.drop (k + 1)) := by
  intro m
  induction m with
  | zero =>
   intro k hk
   rw [nu (by omega), List.drop_of_length_le (by omega)]; rfl
  | succ m ih =>
   intro k hk
   rw [j5 (by omega), fE (by omega), pchk, hs k (by omega), ih (k + 1) (by omega)]
 by_cases hl : 0 < l.length
 ·have h1 : l = gt l 0 :: l.drop 1 := by have := fE hl; simpa using this
  rw [j5 hl, h0 hl, key _ 0 rfl]
  conv => rhs; rw [h1]
  rfl
 ·have : l = [] := List.eq_nil_of_length_eq_zero (by omega)
  subst this; rfl
theorem vz (x y : Span) : (!(kX x y)) = ((!(jK x)) && (!(lD y x))) := by
 rw [Bool.eq_iff_iff]
 simp only [kX, jK, lD, m6, Bool.not_eq_true', Bool.or_eq_false_iff, Bool.and_eq_true, Bool.and_eq_false_iff, decide_eq_false_iff_not, decide_eq_true_eq, beq_eq_false_iff_ne, Bool.not_eq_false', ne_eq]
 omega
theorem vy (x : Span) : (!(kX x ⟨0, 0, 0⟩)) = !(jK x) := by
 rw [Bool.eq_iff_iff]
 simp only [kX, jK, m6, Bool.not_eq_true', Bool.or_eq_false_iff, Bool.and_eq_true, Bool.and_eq_false_iff, decide_eq_false_iff_not, decide_eq_true_eq, beq_eq_false_iff_ne, Bool.not_eq_false', ne_eq]
 omega
theorem rK : ∀ (l : List Span) (y : Span), spGo l y = pchk (fun x => !(jK x)) (fun p x => !(lD p x)) (some y) l
 | [], _ => rfl
 | x :: l, y => by
  rw [spGo, pchk, ← rK l x, ← vz]
  cases kX x y <;> rfl
theorem l0 (l : List Span) : fe l = oa l := by
 unfold fe oa
 have h1 : spGo l ⟨0, 0, 0⟩ = pchk (fun x => !(jK x)) (fun p x => !(lD p x)) none l := by
  cases l with
  | nil => rfl
  | cons x l =>
   rw [spGo, pchk, ← rK l x, ← vy]
   cases kX x ⟨0, 0, 0⟩ <;> rfl
 rw [h1, sw (fun x => !(jK x)) (fun p x => !(lD p x))]
 ·by_cases h : 1024 < l.length
  ·have h2 : decide ((l.length : Int) ≤ 1024) = false := by simp; omega
   simp [h, h2]
  ·have h2 : decide ((l.length : Int) ≤ 1024) = true := by simp; omega
   simp [h, h2]
 ·intro _; simp
 ·intro i _
  have : decide ((0 : Int) < ((i + 1 : Nat) : Int)) = true := by rw [decide_eq_true_eq]; omega
  rw [this, Bool.true_and, Nat.add_sub_cancel]
section
variable {α S R : Type} [Inhabited α]
theorem w9 {body : (Unit → Option R) → Nat → α → Unit → Option R} {k : Unit → Option R} {l : List α} {p : Nat → Bool} {r : Option R}
  (h : ∀ f i, i < l.length → body f i (gt l i) () = bif p i then f () else r) : forI body k 0 l () = bif eN p 0 l.length then k () else r := by
 refine oP (fun i _ => bif eN p i l.length then k () else r) (fun _ _ => True) (fun s _ => ?_) (fun f i s hi _ hf => ?_) trivial
 ·rw [nu (Nat.le_refl _)]; rfl
 ·rw [h f i hi, hf () trivial, j5 hi]
  cases p i <;> rfl
end
theorem xZ {i : Nat} (h : i ≤ 4611686018427387904) : w64 ((i : Int) - 1) = (i : Int) - 1 := bA (by unfold I64; omega)
theorem pd (l : List Span) : ee l = some (fe l) := by
 unfold ee fe
 have := oP (body := eB) (k := fun _ => some (decide ((l.length : Int) ≤ 1024))) (l := l) (fun i s => some (spGo (l.drop i) s && decide ((l.length : Int) ≤ 1024))) (fun i s => s.t ≤ 4611686018427387904 ∧ 0 ≤ s.t)
  (fun s _ => ?_) (fun f i s hi hI hf => ?_) (s := ⟨0, 0, 0⟩) (by decide)
 ·rw [this]; rfl
 ·rw [List.drop_of_length_le (Nat.le_refl _)]; rfl
 ·unfold eB
  rw [bA (x := s.t + 1) (by unfold I64; omega), fE hi, spGo]
  show (bif kX (gt l i) s then _ else _) = _
  cases h : kX (gt l i) s
  ·rw [cond_false, cond_false]
   refine hf _ ?_
   unfold kX at h
   simp only [Bool.or_eq_false_iff, decide_eq_false_iff_not] at h
   omega
  ·rfl
theorem uc (d : Dot) : eb d = some (m6 d) := rfl
theorem mO {l : List Span} (hl : l.length ≤ lim) (hr : ∀ x ∈ l, I64 x.f) : cJ l = some (oa l) := by
 unfold cJ oa
 have hd : (decide (1024 < (l.length : Int))) = decide (1024 < l.length) := by rw [Bool.eq_iff_iff, decide_eq_true_eq, decide_eq_true_eq]; omega
 rw [hd]
 cases decide (1024 < l.length)
 ·rw [cond_false, cond_false, w9 (p := fun i => !(jK (gt l i)) && !(decide (0 < (i : Int)) && lD (gt l (i - 1)) (gt l i))) (r := some false) (fun f i hi => ?_)]
  ·cases eN (fun i => !(jK (gt l i)) && !(decide (0 < (i : Int)) && lD (gt l (i - 1)) (gt l i))) 0 l.length <;> rfl
  ·unfold fj
   rw [b9] at hl
   have hf : (1 ≤ (gt l i).f → w64 ((gt l i).f - 1) = (gt l i).f - 1) := fun h => bA (by have := hr _ (zo hi); unfold I64 at *; omega)
   rw [uc, uc, xZ (by omega)]
   simp only [Option.bind_some, kp]
   unfold jK
   cases h1 : m6 ⟨(gt l i).s, (gt l i).f⟩
   ·rfl
   ·cases h2 : m6 ⟨(gt l i).s, (gt l i).t⟩
    ·rfl
    ·cases h3 : decide ((gt l i).t < (gt l i).f)
     ·simp only [Bool.not_true, Bool.not_false, cond_true, Bool.or_self, cond_false]
      rw [hf (ym h1).2.2.1]
      by_cases h0 : 0 < (i : Int)
      ·rw [show decide (0 < (i : Int)) = true by simpa using h0]
       have hi1 : ((i : Int) - 1).toNat = i - 1 := by omega
       rw [bb (show imp true (inb ((i : Int) - 1) l.length) = true by
        show inb _ _ = true
        unfold inb
        rw [Bool.and_eq_true, decide_eq_true_eq, decide_eq_true_eq]; omega), hi1]
       unfold lD
       simp only [Bool.true_and]
       cases (decide ((gt l i).s < (gt l (i - 1)).s) || ((gt l i).s == (gt l (i - 1)).s) && decide ((gt l i).f - 1 ≤ (gt l (i - 1)).t)) <;> rfl
      ·rw [show decide (0 < (i : Int)) = false by simpa using h0]
       rfl
     ·rfl
 ·rfl
end Fw
end Go.Proofs.YtogmioecalmalaaGreat
