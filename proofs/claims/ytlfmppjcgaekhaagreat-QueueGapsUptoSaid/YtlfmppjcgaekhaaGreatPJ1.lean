/- The plain side: what the models come to. No condition. -/
import Derived.Test.YtlfmppjcgaekhaaGreatM
namespace Go.Proofs.YtlfmppjcgaekhaaGreat
namespace Fw
set_option linter.unusedVariables false
set_option linter.unusedSimpArgs false
set_option linter.unusedSectionVars false
section
variable {α S R : Type} [Inhabited α]
theorem uH {body : (S → Option R) → Nat → α → S → Option R} {k : S → Option R} {l : List α} (T : Nat → S → Option R) (I : Nat → S → Prop) (hend : ∀ s, I l.length s → k s = T l.length s)
  (hstep : ∀ f i s, i < l.length → I i s → (∀ s', I (i + 1) s' → f s' = T (i + 1) s') → body f i (gt l i) s = T i s) {s : S} (h0 : I 0 s) : forI body k 0 l s = T 0 s := by
 have key : ∀ m i s, l.length - i = m → i ≤ l.length → I i s → forI body k i (l.drop i) s = T i s := by
  intro m
  induction m with
  | zero =>
   intro i s hm hi hI
   have : i = l.length := by omega
   subst this
   rw [List.drop_of_length_le (Nat.le_refl _)]
   exact hend s hI
  | succ m ih =>
   intro i s hm hi hI
   rw [js (by omega)]
   exact hstep _ i s (by omega) hI fun s' h' => ih (i + 1) s' (by omega) (by omega) h'
 exact key _ 0 s rfl (Nat.zero_le _) h0
theorem mz {body : (S → Option R) → Nat → α → S → Option R} {k : S → Option R} {l : List α} {r : Option R} (I : Nat → S → Prop)
  (hend : ∀ s, I l.length s → k s = r) (hstep : ∀ f i s, i < l.length → I i s → (∀ s', I (i + 1) s' → f s' = r) → body f i (gt l i) s = r) {s : S} (h0 : I 0 s) : forI body k 0 l s = r :=
 uH (fun _ _ => r) I hend hstep h0
theorem oa {body : (S → Option R) → Nat → S → Option R} {k : S → Option R} {n : Nat} {r : Option R} (I : Nat → S → Prop)
  (hend : ∀ s, I n s → k s = r) (hstep : ∀ f i s, i < n → I i s → (∀ s', I (i + 1) s' → f s' = r) → body f i s = r) {s : S} (h0 : I 0 s) : forU body k n 0 s = r := by
 have key : ∀ m i s, i + m = n → I i s → forU body k m i s = r := by
  intro m
  induction m with
  | zero =>
   intro i s hm hI
   obtain rfl : i = n := by omega
   exact hend s hI
  | succ m ih =>
   intro i s hm hI
   exact hstep _ i s (by omega) hI fun s' h' => ih (i + 1) s' (by omega) h'
 exact key n 0 s (by omega) h0
theorem sb {body : (S → Option R) → Nat → α → S → Option R} {k : S → Option R} (g : S → α → S) : ∀ (l : List α) (i : Nat) (s : S), (∀ f i x s, x ∈ l → body f i x s = f (g s x)) → forI body k i l s = k (l.foldl g s)
 | [], i, s, _ => rfl
 | x :: l, i, s, h => by
  rw [forI, h _ _ _ _ List.mem_cons_self]
  exact sb g l (i + 1) (g s x) fun f i y s hy => h f i y s (List.mem_cons_of_mem _ hy)
end
theorem jp {R : Type} [Inhabited R] (g : Bool) (v : R) : dM g (some v) = some (bif g then v else default) := by cases g <;> rfl
theorem aD {R : Type} {c : Bool} {k : Option R} (h : c = true) : chk c k = k := by rw [h]; rfl
theorem bm {R : Type} {c : Bool} {x y : R} (h : c = true) : (bif c then x else y) = x := by rw [h]; rfl
theorem ax {R : Type} {c : Bool} {x y : R} (h : c = false) : (bif c then x else y) = y := by rw [h]; rfl
instance : LawfulBEq ByteArray where
 eq_of_beq {a b} h := by rw [pA] at h; exact of_decide_eq_true h
 rfl {a} := by rw [pA]; exact decide_eq_true rfl
section
variable {κ α : Type} [DecidableEq κ] {x y : κ} {v : α} {es : List (κ × α)}
def NK (es : List (κ × α)) : Prop := (es.map (·.1)).Nodup
theorem NK.nil : NK ([] : List (κ × α)) := by simp [NK]
theorem NK.cons {p : κ × α} : NK (p :: es) ↔ (∀ q ∈ es, q.1 ≠ p.1) ∧ NK es := by
 unfold NK
 rw [List.map_cons, List.nodup_cons]
 refine ⟨fun h => ⟨fun q hq e => h.1 (by rw [← e]; exact List.mem_map.2 ⟨q, hq, rfl⟩), h.2⟩, fun h => ⟨fun hm => ?_, h.2⟩⟩
 obtain ⟨q, hq, e⟩ := List.mem_map.1 hm
 exact h.1 q hq e
theorem jB : (mget x es).isSome = true ↔ x ∈ es.map (·.1) := by
 induction es with
 | nil => simp [mget]
 | cons p es ih =>
  unfold mget
  split
  ·rename_i h; simp [h]
  ·rename_i h; rw [ih]; simp [h]
theorem s9 {p : κ × α} : ∀ {es : List (κ × α)}, p ∈ mput x v es → p = (x, v) ∨ p ∈ es
 | [], h => by simp only [mput, List.mem_singleton] at h; exact .inl h
 | q :: es, h => by
  unfold mput at h
  split at h
  ·rcases List.mem_cons.1 h with h | h
   ·exact .inl h
   ·exact .inr (List.mem_cons_of_mem _ h)
  ·rcases List.mem_cons.1 h with h | h
   ·exact .inr (h ▸ List.mem_cons_self)
   ·exact (s9 h).imp id (List.mem_cons_of_mem _)
theorem s7 {p : κ × α} : ∀ {es : List (κ × α)}, p ∈ mdel x es → p ∈ es
 | [], h => by cases h
 | q :: es, h => by
  unfold mdel at h
  split at h
  ·exact List.mem_cons_of_mem _ h
  ·rcases List.mem_cons.1 h with h | h
   ·exact h ▸ List.mem_cons_self
   ·exact List.mem_cons_of_mem _ (s7 h)
theorem NK.put : ∀ {es : List (κ × α)}, NK es → NK (mput x v es)
 | [], _ => by simp [NK, mput]
 | p :: es, h => by
  rw [NK.cons] at h
  unfold mput
  split
  ·rename_i e; rw [NK.cons]; exact ⟨fun q hq => by rw [e]; exact h.1 q hq, h.2⟩
  ·rename_i e
   rw [NK.cons]
   refine ⟨fun q hq => ?_, h.2.put⟩
   rcases s9 hq with rfl | hq
   ·exact e
   ·exact h.1 q hq
theorem NK.del : ∀ {es : List (κ × α)}, NK es → NK (mdel x es)
 | [], _ => by simp [NK, mdel]
 | p :: es, h => by
  rw [NK.cons] at h
  unfold mdel
  split
  ·exact h.2
  ·rw [NK.cons]; exact ⟨fun q hq => h.1 q (s7 hq), h.2.del⟩
theorem vm (h : ∀ q ∈ es, q.1 ≠ x) : mget x es = none := by
 induction es with
 | nil => rfl
 | cons p es ih =>
  unfold mget
  rw [if_neg (fun e => h p List.mem_cons_self e.symm)]
  exact ih fun q hq => h q (List.mem_cons_of_mem _ hq)
theorem k6 : ∀ {es : List (κ × α)}, NK es → mget y (mdel x es) = if y = x then none else mget y es
 | [], _ => by simp [mget, mdel]
 | p :: es, h => by
  rw [NK.cons] at h
  unfold mdel
  split
  ·rename_i e
   by_cases hy : y = x
   ·rw [if_pos hy, hy, e]; exact vm h.1
   ·rw [if_neg hy, mget, if_neg (fun e2 => hy (e2.trans e.symm))]
  ·rename_i e
   rw [mget, k6 h.2]
   by_cases hy : y = p.1
   ·rw [if_pos hy, if_neg (fun e2 => e (e2.symm.trans hy)), mget, if_pos hy]
   ·rw [if_neg hy, mget, if_neg hy]
theorem qE : ∀ {es : List (κ × α)}, (mput x v es).length ≤ es.length + 1
 | [] => by simp [mput]
 | p :: es => by
  unfold mput
  split
  ·simp
  ·have := qE (es := es); simp only [List.length_cons]; omega
theorem uF : ∀ {es : List (κ × α)}, (mdel x es).length ≤ es.length
 | [] => by simp [mdel]
 | p :: es => by
  unfold mdel
  split
  ·simp
  ·have := uF (es := es); simp only [List.length_cons]; omega
theorem tu (h : (mget x es).isSome = true) : (mdel x es).length + 1 = es.length := by
 induction es with
 | nil => cases h
 | cons p es ih =>
  unfold mget at h
  unfold mdel
  split at h
  ·rename_i e; rw [if_pos e]; rfl
  ·rename_i e; rw [if_neg e]; simp [ih h]
end
def sz (es : List (ByteArray × List UInt8)) : Nat := (es.map (fun p => p.2.length)).sum
section
variable {x : ByteArray} {v : List UInt8} {es : List (ByteArray × List UInt8)}
theorem xu : sz (mput x v es) + ((mget x es).getD []).length = sz es + v.length := by
 induction es with
 | nil => simp [sz, mput, mget]
 | cons p es ih =>
  unfold mput mget
  split
  ·simp [sz]; omega
  ·simp only [sz, List.map_cons, List.sum_cons] at ih ⊢; omega
theorem vi : sz (mdel x es) + ((mget x es).getD []).length = sz es := by
 induction es with
 | nil => simp [sz, mdel, mget]
 | cons p es ih =>
  unfold mdel mget
  split
  ·simp [sz]; omega
  ·simp only [sz, List.map_cons, List.sum_cons] at ih ⊢; omega
theorem uO : ((mget x es).getD []).length ≤ sz es := by have := vi (x := x) (es := es); omega
end
theorem kT {a b : ByteArray} (h : a.data.toList = b.data.toList) : a = b := by
 rcases a with ⟨⟨a⟩⟩
 rcases b with ⟨⟨b⟩⟩
 simp only at h
 rw [h]
theorem sD {β : Type} {es : List (ByteArray × β)} {k : ByteArray} : k ∈ fG es ↔ k ∈ es.map (·.1) := by
 rw [mE]
 simp only [List.mem_map, List.mem_mergeSort]
 constructor
 ·rintro ⟨l, ⟨p, hp, rfl⟩, rfl⟩; exact ⟨p, hp, kT (by simp)⟩
 ·rintro ⟨p, hp, rfl⟩; exact ⟨_, ⟨p, hp, rfl⟩, kT (by simp)⟩
theorem xm {β : Type} {es : List (ByteArray × β)} (hn : NK es) : (fG es).Nodup := by
 rw [mE]
 refine List.Pairwise.map _ (R := fun a b => a ≠ b) (fun a b h e => h ?_) ?_
 ·have := congrArg (fun x : ByteArray => x.data.toList) e
  simpa using this
 ·have : (es.map (fun p => p.1.data.toList)).Nodup := by
   rw [show (fun p : ByteArray × β => p.1.data.toList) = ((fun b : ByteArray => b.data.toList) ∘ (·.1)) from rfl, ← List.map_map]
   exact List.Pairwise.map _ (fun a b h e => h (kT e)) hn
  exact (List.mergeSort_perm _ _).nodup_iff.2 this
theorem jt {S R : Type} {b : (S → Option R) → S → Option R} {n : Nat} {s : S} : loopN b (n + 1) s = b (loopN b n) s := rfl
end Fw
end Go.Proofs.YtlfmppjcgaekhaaGreat
namespace Go.Proofs.YtlfmppjcgaekhaaGreat
namespace Fw
set_option linter.unusedVariables false
set_option linter.unusedSimpArgs false
set_option linter.unusedSectionVars false
def pn (n : Nat) : List UInt8 := if n < 128 then [UInt8.ofNat n] else UInt8.ofNat (n % 128 + 128) :: pn (n / 128)
 decreasing_by omega
theorem sB {n : Nat} (h : n < 128) : pn n = [UInt8.ofNat n] := by unfold pn; rw [if_pos h]
theorem wh {n : Nat} (h : ¬ n < 128) : pn n = UInt8.ofNat (n % 128 + 128) :: pn (n / 128) := by rw [pn, if_neg h]
theorem uZ : ∀ (k n : Nat), n < 128 ^ (k + 1) → (pn n).length ≤ k + 1 := by
 intro k
 induction k with
 | zero => intro n h; rw [sB (by omega)]; simp
 | succ k ih =>
  intro n h
  by_cases h1 : n < 128
  ·rw [sB h1]; simp
  ·rw [wh h1]
   have := ih (n / 128) (by rw [Nat.pow_succ] at h; omega)
   simp; omega
theorem yT (n : Nat) : 0 < (pn n).length := by
 by_cases h1 : n < 128
 ·rw [sB h1]; simp
 ·rw [wh h1]; simp
theorem ior8 : ∀ k : Fin 256, ior .u8 (k.val : Int) 128 = (k.val % 128 + 128 : Nat) := by decide +kernel
theorem BR : ∀ k : Fin 256, iand .u8 (k.val : Int) 127 = (k.val % 128 : Nat) := by decide +kernel
theorem xL : ∀ (k u F : Nat) (b : List UInt8), u < 128 ^ (k + 1) → b.length + k + 1 ≤ lim → loopN dW (F + k + 1) (b, (u : Int)) = some (b ++ pn u) := by
 intro k
 induction k with
 | zero =>
  intro u F b h hb
  rw [jt]
  generalize loopN dW (F + 0) = f
  unfold dW
  simp only
  rw [ax (by rw [decide_eq_false_iff_not]; omega), aD (by simp; omega), sB (by omega), w6 (by unfold U8; omega)]
  rfl
 | succ k ih =>
  intro u F b h hb
  rw [show F + (k + 1) + 1 = (F + k + 1) + 1 by omega, jt]
  generalize hf : loopN dW (F + k + 1) = f
  unfold dW
  simp only
  by_cases h1 : u < 128
  ·rw [ax (by rw [decide_eq_false_iff_not]; omega), aD (by simp; omega), sB h1, w6 (by unfold U8; omega)]; rfl
  ·have e1 : wu8 (u : Int) = (((⟨u % 256, by omega⟩ : Fin 256).val : Nat) : Int) := by unfold wu8; simp
   rw [bm (by rw [decide_eq_true_eq]; omega), e1, ior8]
   have e2 : (u % 256 % 128 + 128 : Nat) = u % 128 + 128 := by omega
   simp only [e2]
   rw [aD (by unfold u8b; simp; omega), aD (by simp; omega)]
   have e3 : ishr .u64 (u : Int) 7 = ((u / 128 : Nat) : Int) := by unfold ishr; rfl
   rw [e3, ← hf, ih (u / 128) F _ (by rw [Nat.pow_succ] at h; omega) (by simp; omega), wh h1]
   unfold b8
   rw [Int.toNat_natCast, List.append_assoc]; rfl
theorem nU {n : Nat} (h : n < 9223372036854775808) : ef (n : Int) = some (pn n) := by
 unfold ef
 rw [show wu64 (max (n : Int) 0) = (n : Int) by rw [kU (by unfold U64; omega)]; omega]
 obtain ⟨F, hF⟩ : ∃ F, FU = F + 8 + 1 := ⟨FU - 9, by unfold FU; omega⟩
 rw [hF]
 exact xL 8 n F [] (by omega) (by rw [aJ]; simp)
def numF : Nat → Nat → List UInt8 → Nat × Nat × Int
 | _, _, [] => (0, 0, 4)
 | i, n, c :: l => if (i = 8 ∧ 127 < c.toNat) ∨ (0 < i ∧ c.toNat = 0) then (0, 0, 2) else if c.toNat < 128 then (n + c.toNat * 128 ^ i, i + 1, 0) else numF (i + 1) (n + (c.toNat - 128) * 128 ^ i) l
theorem p128 (i : Nat) : (128 : Nat) ^ i = 2 ^ (7 * i) := by rw [Nat.pow_mul]
theorem p8 {i : Nat} (h : i ≤ 8) : (128 : Nat) ^ i ≤ 72057594037927936 := Nat.le_trans (Nat.pow_le_pow_right (by decide) h) (by decide)
theorem oK {i n c : Nat} (hn : n < 128 ^ i) (hc : c < 128) : n + c * 128 ^ i < 128 ^ (i + 1) := by
 have : (c + 1) * 128 ^ i ≤ 128 * 128 ^ i := Nat.mul_le_mul_right _ hc
 rw [Nat.add_mul] at this
 rw [Nat.pow_succ, Nat.mul_comm (128 ^ i)]
 omega
theorem uq {i n c : Nat} (hi : i ≤ 8) (hn : n < 128 ^ i) (hc : c < 128) : ior .u64 (n : Int) (ishl .u64 (wu64 (c : Int)) (w64 (7 * ((i : Nat) : Int)))) = ((n + c * 128 ^ i : Nat) : Int) := by
 have hp := p8 hi
 have hs := oK hn hc
 have hp9 : (128 : Nat) ^ (i + 1) = 128 * 128 ^ i := by rw [Nat.pow_succ, Nat.mul_comm]
 have e1 : w64 (7 * ((i : Nat) : Int)) = ((7 * i : Nat) : Int) := by rw [bM (by unfold I64; omega)]; simp
 have e2 : ishl .u64 (wu64 (c : Int)) ((7 * i : Nat) : Int) = ((c * 128 ^ i : Nat) : Int) := by
  unfold ishl
  rw [kU (x := (c : Int)) (by unfold U64; omega), Int.toNat_natCast, show min (7 * i) (IntKind.u64).bits = 7 * i from by show min (7 * i) 64 = _; omega]
  have : (c : Int) * 2 ^ (7 * i) = ((c * 128 ^ i : Nat) : Int) := by rw [p128]; push_cast; rfl
  rw [this]
  show wu64 _ = _
  exact kU (by unfold U64; omega)
 rw [e1, e2]
 unfold ior
 show wu64 _ = _
 have e3 : (BitVec.ofInt 64 (n : Int) ||| BitVec.ofInt 64 ((c * 128 ^ i : Nat) : Int)).toNat = n + c * 128 ^ i := by
  rw [BitVec.toNat_or, BitVec.ofInt_natCast, BitVec.ofInt_natCast, BitVec.toNat_ofNat, BitVec.toNat_ofNat, Nat.mod_eq_of_lt (by omega), Nat.mod_eq_of_lt (by omega)]
  have := Nat.shiftLeft_add_eq_or_of_lt (a := c) (b := n) (i := 7 * i) (by rw [← p128]; exact hn)
  rw [Nat.shiftLeft_eq, ← p128] at this
  rw [Nat.or_comm, ← this]; omega
 show wu64 (((BitVec.ofInt 64 (n : Int) ||| BitVec.ofInt 64 ((c * 128 ^ i : Nat) : Int)).toNat : Nat) : Int) = _
 rw [e3]
 exact kU (by unfold U64; omega)
def numR (at_ : Nat) (r : Nat × Nat × Int) : Int × Int × Int := ((r.1 : Int), (if r.2.2 = 0 then ((at_ + r.2.1 : Nat) : Int) else 0), r.2.2)
theorem yi {b : List UInt8} {at_ : Nat} {K : Int → Option (Int × Int × Int)} (hb : b.length ≤ lim) (ha : at_ ≤ b.length) (hK : ∀ n, K n = some (0, 0, 4)) : ∀ (l : List UInt8) (i n : Nat), (b.drop at_).drop i = l → i ≤ 8 → n < 128 ^ i →
  forI (jl b (at_ : Int)) K i l (n : Int) = some (numR at_ (numF i n l)) := by
 intro l
 induction l with
 | nil => intro i n _ _ _; unfold forI; rw [hK]; rfl
 | cons c l ih =>
  intro i n hd hi hn
  have hg : gt (List.drop at_ b) i = c := by
   have hlt : i < (b.drop at_).length := by
    rcases Nat.lt_or_ge i (b.drop at_).length with h | h
    ·exact h
    ·rw [List.drop_of_length_le h] at hd; cases hd
   rw [js hlt] at hd
   injection hd
  have hd2 : (b.drop at_).drop (i + 1) = l := by
   have := congrArg List.tail hd
   rw [List.tail_drop] at this
   exact this
  have hlen : i + 1 ≤ (b.drop at_).length := by
   have := congrArg List.length hd
   simp at this ⊢; omega
  rw [List.length_drop] at hlen
  rw [aJ] at hb
  have hc := c.toNat_lt
  rw [forI]
  generalize hf : forI (jl b (at_ : Int)) K (i + 1) l = f
  unfold jl jn k3 numF
  rw [Int.toNat_natCast, hg]
  by_cases h8 : i = 8 ∧ 127 < c.toNat
  ·have q : ((((i : Nat) : Int) == 8) && (decide (127 < ((c.toNat : Nat) : Int)))) = true := by simp; omega
   rw [q, if_pos (.inl h8)]; rfl
  ·have q : ((((i : Nat) : Int) == 8) && (decide (127 < ((c.toNat : Nat) : Int)))) = false := by
    rw [Bool.eq_false_iff]; intro h; simp at h; exact h8 ⟨by omega, by omega⟩
   rw [q, ax rfl]
   by_cases h0 : 0 < i ∧ c.toNat = 0
   ·have q2 : ((decide (0 < ((i : Nat) : Int))) && (((c.toNat : Nat) : Int) == 0)) = true := by simp; omega
    rw [q2, bm rfl, if_pos (.inr h0)]; rfl
   ·have q2 : ((decide (0 < ((i : Nat) : Int))) && (((c.toNat : Nat) : Int) == 0)) = false := by
     rw [Bool.eq_false_iff]; intro h; simp only [Bool.and_eq_true, decide_eq_true_eq, beq_iff_eq] at h; exact h0 ⟨by omega, by omega⟩
    rw [q2, ax rfl, if_neg (by rintro (h | h); exact h8 h; exact h0 h)]
    have hp := p8 hi
    have hp9 : (128 : Nat) ^ (i + 1) = 128 * 128 ^ i := by rw [Nat.pow_succ, Nat.mul_comm]
    by_cases h128 : c.toNat < 128
    ·have hs := oK hn h128
     rw [bm (by simp; omega), if_pos h128, uq hi hn h128, aD (by rw [bM (by unfold I64; omega)]; simp; omega)]
     unfold numR
     rw [if_pos rfl]
     rw [bM (x := (at_ : Int) + (i : Int)) (by unfold I64; omega), bM (x := (at_ : Int) + (i : Int) + 1) (by unfold I64; omega), bM (by unfold I64; omega)]
     congr 3 <;> push_cast <;> omega
    ·have e1 := BR ⟨c.toNat, hc⟩
     have hm : c.toNat % 128 = c.toNat - 128 := by omega
     simp only [hm] at e1
     have hs := oK (i := i) (n := n) (c := c.toNat - 128) hn (by omega)
     rw [ax (by simp; omega), if_neg h128, aD (by rw [bM (by unfold I64; omega)]; simp; omega), e1, uq hi hn (by omega)]
     rw [← hf]
     exact ih (i + 1) _ hd2 (by omega) hs
theorem y7 {b : List UInt8} {at_ : Nat} (hb : b.length ≤ lim) (ha : at_ ≤ b.length) : fO b (at_ : Int) = some (numR at_ (numF 0 0 (b.drop at_))) := by
 unfold fO
 rw [ax (by simp; omega), aD (by simp [inle]; omega), Int.toNat_natCast]
 exact yi hb ha (fun n => rfl) _ 0 0 rfl (by omega) (by simp)
theorem xR : ∀ (m i n : Nat) (rest : List UInt8), (0 < i → 0 < m) → i + (pn m).length ≤ 9 → numF i n (pn m ++ rest) = (n + m * 128 ^ i, i + (pn m).length, 0) := by
 intro m
 induction m using Nat.strongRecOn with
 | _ m ih =>
  intro i n rest h0 h9
  by_cases h1 : m < 128
  ·rw [sB h1] at *
   have e : (UInt8.ofNat m).toNat = m := by rw [UInt8.toNat_ofNat_of_lt']; show m < 256; omega
   simp only [List.cons_append, List.nil_append, List.length_cons, List.length_nil]
   unfold numF
   rw [e, if_neg (by rintro (h | h); omega; exact absurd (h0 h.1) (by omega)), if_pos h1]
  ·have hp := yT (m / 128)
   rw [wh h1] at h9 ⊢
   simp only [List.length_cons] at h9
   have e : (UInt8.ofNat (m % 128 + 128)).toNat = m % 128 + 128 := by rw [UInt8.toNat_ofNat_of_lt']; show m % 128 + 128 < 256; omega
   simp only [List.cons_append, List.length_cons]
   unfold numF
   rw [e, if_neg (by rintro (h | h); omega; omega), if_neg (by omega), ih (m / 128) (by omega) (i + 1) _ rest (by omega) (by omega)]
   have hm : m = 128 * (m / 128) + m % 128 := by omega
   have : n + (m % 128 + 128 - 128) * 128 ^ i + m / 128 * 128 ^ (i + 1) = n + m * 128 ^ i := by
    rw [Nat.add_sub_cancel, Nat.pow_succ, Nat.mul_comm (128 ^ i) 128, ← Nat.mul_assoc, Nat.add_assoc, ← Nat.add_mul]
    congr 2; omega
   rw [this]; congr 2; omega
theorem wD : ∀ (l : List UInt8) (i n : Nat), i ≤ 8 → n < 128 ^ i → ((numF i n l).2.2 = 0 ∧ i < (numF i n l).2.1 ∧ (numF i n l).2.1 ≤ i + l.length ∧ (numF i n l).1 < 9223372036854775808) ∨ (numF i n l).2.2 = 2 ∨ (numF i n l).2.2 = 4 := by
 intro l
 induction l with
 | nil => intro i n _ _; exact .inr (.inr rfl)
 | cons c l ih =>
  intro i n hi hn
  have hc := c.toNat_lt
  unfold numF
  split
  ·exact .inr (.inl rfl)
  ·rename_i hx
   split
   ·rename_i h128
    have hs := oK hn h128
    have hp := p8 hi
    have hp9 : (128 : Nat) ^ (i + 1) = 128 * 128 ^ i := by rw [Nat.pow_succ, Nat.mul_comm]
    exact .inl ⟨rfl, by simp, by simp, by simp; omega⟩
   ·rename_i h128
    have hi8 : i ≠ 8 := fun h => hx (.inl ⟨h, by omega⟩)
    rcases ih (i + 1) (n + (c.toNat - 128) * 128 ^ i) (by omega) (oK hn (by omega)) with h | h
    ·exact .inl ⟨h.1, by omega, by simp only [List.length_cons]; omega, h.2.2.2⟩
    ·exact .inr h
def crcB (r : BitVec 32) : BitVec 32 := (r >>> 1) ^^^ (3988292384#32 &&& -(r &&& 1#32))
def crcN : Nat → BitVec 32 → BitVec 32
 | 0, r => r
 | k + 1, r => crcN k (crcB r)
def crc (r : BitVec 32) (c : UInt8) : BitVec 32 := crcN 8 (r ^^^ BitVec.ofNat 32 c.toNat)
def sumB (l : List UInt8) : BitVec 32 := ~~~ (l.foldl crc 4294967295#32)
theorem oC (x : BitVec 32) : BitVec.ofInt 32 ((x.toNat : Nat) : Int) = x := by rw [BitVec.ofInt_natCast, BitVec.ofNat_toNat]; simp
theorem wr32 (x : BitVec 32) : wr .u32 ((x.toNat : Nat) : Int) = (x.toNat : Int) := by
 have := x.isLt
 show wu32 _ = _
 exact yP (by unfold U32; omega)
theorem vv (x y : BitVec 32) : ixor .u32 (x.toNat : Int) (y.toNat : Int) = ((x ^^^ y).toNat : Int) := by
 unfold ixor
 show wr .u32 (((BitVec.ofInt 32 (x.toNat : Int) ^^^ BitVec.ofInt 32 (y.toNat : Int)).toNat : Nat) : Int) = _
 rw [oC, oC, wr32]
theorem y9 (x y : BitVec 32) : iand .u32 (x.toNat : Int) (y.toNat : Int) = ((x &&& y).toNat : Int) := by
 unfold iand
 show wr .u32 (((BitVec.ofInt 32 (x.toNat : Int) &&& BitVec.ofInt 32 (y.toNat : Int)).toNat : Nat) : Int) = _
 rw [oC, oC, wr32]
theorem C6 (x : BitVec 32) : wu32 (0 - (x.toNat : Int)) = ((-x).toNat : Int) := by
 have := x.isLt
 unfold wu32
 rw [BitVec.toNat_neg]
 omega
theorem zq (r : BitVec 32) : ixor .u32 (ishr .u32 (r.toNat : Int) 1) (iand .u32 3988292384 (wu32 (0 - (iand .u32 (r.toNat : Int) 1)))) = ((crcB r).toNat : Int) := by
 have e1 : iand .u32 (r.toNat : Int) 1 = ((r &&& 1#32).toNat : Int) := y9 r 1#32
 have e2 : ishr .u32 (r.toNat : Int) 1 = ((r >>> 1).toNat : Int) := by
  unfold ishr
  show (r.toNat : Int) / 2 ^ 1 = _
  rw [BitVec.toNat_ushiftRight, Nat.shiftRight_eq_div_pow]; push_cast; rfl
 rw [e1, e2, C6]
 have e3 : iand .u32 3988292384 (((-(r &&& 1#32)).toNat : Nat) : Int) = ((3988292384#32 &&& -(r &&& 1#32)).toNat : Int) := y9 3988292384#32 _
 rw [e3, vv]; rfl
theorem uM {f : Int → Option Int} : ∀ (k i : Nat) (r : BitVec 32), forU io f k i (r.toNat : Int) = f ((crcN k r).toNat : Int)
 | 0, _, _ => rfl
 | k + 1, i, r => by
  rw [forU]
  show forU io f k (i + 1) (ixor .u32 (ishr .u32 (r.toNat : Int) 1) (iand .u32 3988292384 (wu32 (0 - (iand .u32 (r.toNat : Int) 1))))) = _
  rw [zq]
  exact uM k (i + 1) (crcB r)
theorem u5 {f : Int → Option Int} : ∀ (l : List UInt8) (i : Nat) (r : BitVec 32), forI im f i l (r.toNat : Int) = f ((l.foldl crc r).toNat : Int)
 | [], _, _ => rfl
 | c :: l, i, r => by
  have hc := c.toNat_lt
  have e : wu32 ((c.toNat : Nat) : Int) = ((BitVec.ofNat 32 c.toNat).toNat : Int) := by
   rw [BitVec.toNat_ofNat, yP (by unfold U32; omega), Nat.mod_eq_of_lt (by omega)]
  rw [forI]
  show forU io (forI im f (i + 1) l) 8 0 (ixor .u32 (r.toNat : Int) (wu32 ((c.toNat : Nat) : Int))) = _
  rw [e, vv, uM]
  exact u5 l (i + 1) (crc r c)
theorem sH {f : Int → Option Int} : ∀ (l : List (List UInt8)) (i : Nat) (r : BitVec 32), forI jK f i l (r.toNat : Int) = f ((l.flatten.foldl crc r).toNat : Int)
 | [], _, _ => rfl
 | p :: l, i, r => by
  rw [forI]
  show forI im (forI jK f (i + 1) l) 0 p (r.toNat : Int) = _
  rw [u5, List.flatten_cons, List.foldl_append]
  exact sH l (i + 1) _
theorem AC (l : List (List UInt8)) : jv l = some ((sumB l.flatten).toNat : Int) := by
 unfold jv
 rw [show (4294967295 : Int) = ((4294967295#32).toNat : Int) from rfl, sH]
 unfold icom
 show some (ixor .u32 (((4294967295#32).toNat : Nat) : Int) _) = _
 rw [vv]
 unfold sumB
 congr 2
def s4 (s : BitVec 32) : List UInt8 := [UInt8.ofNat (s.toNat % 256), UInt8.ofNat (s.toNat / 256 % 256), UInt8.ofNat (s.toNat / 65536 % 256), UInt8.ofNat (s.toNat / 16777216 % 256)]
theorem vj (s : BitVec 32) : (s4 s).length = 4 := rfl
theorem Au (s : BitVec 32) (i : Nat) (hi : i < 4) : wu8 (ishr .u32 (s.toNat : Int) (w64 (8 * ((i : Nat) : Int)))) = ((s.toNat / 2 ^ (8 * i) % 256 : Nat) : Int) := by
 rw [bM (by unfold I64; omega)]
 unfold ishr wu8
 rw [show (8 * (i : Int)).toNat = 8 * i by omega, show min (8 * i) (IntKind.u32).bits = 8 * i from by show min (8 * i) 32 = _; omega]
 simp only [Int.natCast_emod, Int.natCast_ediv, Int.natCast_pow]; rfl
theorem Ah (s : BitVec 32) (i : Nat) (hi : i < 4) : b8 (wu8 (ishr .u32 (s.toNat : Int) (w64 (8 * ((i : Nat) : Int))))) = gt (s4 s) i := by
 rw [Au s i hi]
 unfold b8
 rw [Int.toNat_natCast]
 match i, hi with
 | 0, _ => simp [s4, gt]
 | 1, _ => simp [s4, gt]
 | 2, _ => simp [s4, gt]
 | 3, _ => simp [s4, gt]
end Fw
end Go.Proofs.YtlfmppjcgaekhaaGreat
namespace Go.Proofs.YtlfmppjcgaekhaaGreat
namespace Fw
set_option linter.unusedVariables false
set_option linter.unusedSimpArgs false
set_option linter.unusedSectionVars false
def fr (x : List UInt8) : List UInt8 := pn x.length ++ (s4 (sumB (pn x.length ++ x)) ++ x)
theorem rt (x : List UInt8) : (fr x).length = (pn x.length).length + 4 + x.length := by unfold fr; simp [vj]; omega
theorem pn3 {n : Nat} (h : n ≤ 1048576) : (pn n).length ≤ 3 := uZ 2 n (by omega)
theorem BQ {x : List UInt8} (h : x.length ≤ 1048576) : iu x = some (fr x, 0) := by
 have h3 := pn3 h
 unfold iu
 rw [ax (by rw [decide_eq_false_iff_not]; omega), nU (by omega), Option.bind_some, AC, Option.bind_some]
 simp only [List.flatten_cons, List.flatten_nil, List.append_nil]
 generalize hs : sumB (pn x.length ++ x) = s
 have hstep : ∀ (f : List UInt8 → Option (List UInt8 × Int)) (i : Nat) (out : List UInt8), i < 4 → out.length + 1 ≤ lim → kc (s.toNat : Int) f i out = f (out ++ [gt (s4 s) i]) := by
  intro f i out hi ho
  unfold kc
  rw [aD (by rw [bM (by unfold I64; omega)]; simp; omega), aD (by simpa using ho), Ah s i hi]
 simp only [forU]
 rw [hstep _ 0 _ (by decide) (by rw [aJ]; omega), hstep _ 1 _ (by decide) (by rw [aJ]; simp; omega), hstep _ 2 _ (by decide) (by rw [aJ]; simp; omega), hstep _ 3 _ (by decide) (by rw [aJ]; simp; omega)]
 rw [aD (by rw [aJ]; simp; omega)]
 unfold fr
 rw [hs]
 simp [s4, gt]
theorem v6 {x : List UInt8} (h : 1048576 < x.length) : iu x = some ([], 3) := by
 unfold iu
 rw [bm (by rw [decide_eq_true_eq]; omega)]
def dh (l : List UInt8) : List UInt8 × Nat × Int :=
 if (numF 0 0 l).2.2 ≠ 0 then ([], 0, (numF 0 0 l).2.2) else if 1048576 < (numF 0 0 l).1 then ([], 0, 3) else if l.length - (numF 0 0 l).2.1 < (numF 0 0 l).1 + 4 then ([], 0, 4) else
 if (l.drop (numF 0 0 l).2.1).take 4 = s4 (sumB (l.take (numF 0 0 l).2.1 ++ (l.drop ((numF 0 0 l).2.1 + 4)).take (numF 0 0 l).1)) then ((l.drop ((numF 0 0 l).2.1 + 4)).take (numF 0 0 l).1, (numF 0 0 l).2.1 + 4 + (numF 0 0 l).1, 0) else ([], 0, 20)
theorem C3 {l : List UInt8} {k : Nat} (h : k + 4 ≤ l.length) : (l.drop k).take 4 = [gt l k, gt l (k + 1), gt l (k + 2), gt l (k + 3)] := by
 rw [js (by omega), js (k := k + 1) (by omega), js (k := k + 2) (by omega), js (k := k + 3) (by omega)]; rfl
def yu (at_ : Nat) (r : List UInt8 × Nat × Int) : List UInt8 × Int × Int := (r.1, (if r.2.2 = 0 then ((at_ + r.2.1 : Nat) : Int) else 0), r.2.2)
theorem C7 {c : UInt8} {n : Nat} (h : n < 256) : (((c.toNat : Nat) : Int) != ((n : Nat) : Int)) = !decide (c = UInt8.ofNat n) := by
 rw [Bool.eq_iff_iff]
 simp only [bne_iff_ne, Bool.not_eq_true', decide_eq_false_iff_not]
 refine not_congr ⟨fun e => ?_, fun e => ?_⟩
 ·have : c.toNat = n := by omega
  rw [← this]; simp
 ·rw [e, UInt8.toNat_ofNat_of_lt']; exact h
theorem Bd {b : List UInt8} {at_ : Nat} (hb : b.length ≤ lim) (ha : at_ ≤ b.length) : jW b (at_ : Int) = some (yu at_ (dh (b.drop at_))) := by
 have hb' := hb
 rw [aJ] at hb'
 have hok := wD (b.drop at_) 0 0 (by omega) (by simp)
 unfold jW
 rw [y7 hb ha, Option.bind_some]
 unfold dh numR yu
 generalize hr : numF 0 0 (b.drop at_) = r at hok ⊢
 obtain ⟨n, k, e⟩ := r
 simp only at hok ⊢
 by_cases he : e = 0
 ·subst he
  rcases hok with ⟨_, h1, h2, h3⟩ | h | h
  rotate_left
  ·exact absurd h (by decide)
  ·exact absurd h (by decide)
  rw [List.length_drop] at h2
  rw [ax (by simp), if_pos rfl, if_neg (by simp)]
  by_cases hn : 1048576 < n
  ·rw [bm (by simp; omega), if_pos hn]; rfl
  ·rw [ax (by simp; omega), if_neg hn]
   have w1 : w64 (((b.length : Nat) : Int) - ((at_ + k : Nat) : Int)) = (b.length : Int) - (at_ + k : Nat) := bM (by unfold I64; omega)
   have w2 : w64 ((n : Int) + 4) = ((n + 4 : Nat) : Int) := by rw [bM (by unfold I64; omega)]; rfl
   rw [w1, w2]
   by_cases hl : (b.drop at_).length - k < n + 4
   ·rw [if_pos hl, bm (by rw [List.length_drop] at hl; rw [decide_eq_true_eq]; omega)]; rfl
   ·rw [if_neg hl, ax (by rw [List.length_drop] at hl; rw [decide_eq_false_iff_not]; omega)]
    rw [List.length_drop] at hl
    have w3 : w64 (((at_ + k : Nat) : Int) + 4) = ((at_ + k + 4 : Nat) : Int) := by rw [bM (by unfold I64; omega)]; rfl
    have w4 : w64 (((at_ + k + 4 : Nat) : Int) + (n : Int)) = ((at_ + k + 4 + n : Nat) : Int) := by rw [bM (by unfold I64; omega)]; push_cast; rfl
    rw [w3, w4]
    clear w1 w2 w3 w4 hr hb
    have d1 : List.drop at_ (List.take (at_ + k) b) = (b.drop at_).take k := by rw [List.drop_take]; congr 1; omega
    have d2 : List.drop (at_ + k + 4) (List.take (at_ + k + 4 + n) b) = ((b.drop at_).drop (k + 4)).take n := by
     rw [List.drop_take, List.drop_drop]; congr 1
     ·omega
    simp only [Int.toNat_natCast, d1, d2]
    rw [aD (by simp [inle]; omega), aD (by simp; omega), aD (by simp), aD (by simp [inle]; omega), aD (by simp), aD (by simp)]
    rw [AC, Option.bind_some]
    simp only [List.flatten_cons, List.flatten_nil, List.append_nil]
    generalize sumB ((b.drop at_).take k ++ ((b.drop at_).drop (k + 4)).take n) = s
    have hstep : ∀ (f : Unit → Option (List UInt8 × Int × Int)) (i : Nat), i < 4 → jO b ((n : Int), ((at_ + k : Nat) : Int), 0) (s.toNat : Int) f i () = if gt (b.drop at_) (k + i) = gt (s4 s) i then f () else some ([], 0, 20) := by
     intro f i hi
     unfold jO
     have w5 : w64 (((at_ + k : Nat) : Int) + ((i : Nat) : Int)) = ((at_ + k + i : Nat) : Int) := by rw [bM (by unfold I64; omega)]; push_cast; rfl
     simp only
     rw [w5]
     clear w5
     rw [aD (by simp [inb]; omega), aD (by rw [bM (by unfold I64; omega)]; simp; omega), Int.toNat_natCast]
     have hx := Ah s i hi
     rw [Au s i hi] at hx ⊢
     rw [C7 (Nat.mod_lt _ (by decide))]
     unfold b8 at hx
     rw [Int.toNat_natCast] at hx
     rw [hx]
     have hg : gt b (at_ + k + i) = gt (b.drop at_) (k + i) := by
      rw [bz (by omega), bz (by rw [List.length_drop]; omega)]; simp [Nat.add_assoc]
     rw [hg]
     by_cases hq : gt (b.drop at_) (k + i) = gt (s4 s) i
     ·rw [if_pos hq, ax (by simp [hq])]
     ·rw [if_neg hq, bm (by simp [hq])]
    have hchk : (0 + (List.take n ((b.drop at_).drop (k + 4))).length ≤ lim) := by rw [aJ, List.length_take, List.length_drop, List.length_drop]; omega
    simp only [forU]
    rw [hstep _ 0 (by decide), hstep _ 1 (by decide), hstep _ 2 (by decide), hstep _ 3 (by decide), aD (by simpa using hchk), C3 (by rw [List.length_drop]; omega)]
    have hs4 : s4 s = [gt (s4 s) 0, gt (s4 s) 1, gt (s4 s) 2, gt (s4 s) 3] := by simp [s4, gt]
    rw [hs4]
    simp only [List.cons.injEq, and_true]
    rw [← hs4]
    simp only [Nat.add_zero, List.nil_append]
    by_cases h0 : gt (b.drop at_) k = gt (s4 s) 0
    ·rw [if_pos h0]
     by_cases h1 : gt (b.drop at_) (k + 1) = gt (s4 s) 1
     ·rw [if_pos h1]
      by_cases h2 : gt (b.drop at_) (k + 2) = gt (s4 s) 2
      ·rw [if_pos h2]
       by_cases h3 : gt (b.drop at_) (k + 3) = gt (s4 s) 3
       ·rw [if_pos h3, if_pos ⟨h0, h1, h2, h3⟩]
        have : at_ + k + 4 + n = at_ + (k + 4 + n) := by omega
        rw [this]; rfl
       ·rw [if_neg h3, if_neg (by rintro ⟨_, _, _, h⟩; exact h3 h)]; rfl
      ·rw [if_neg h2, if_neg (by rintro ⟨_, _, h, _⟩; exact h2 h)]; rfl
     ·rw [if_neg h1, if_neg (by rintro ⟨_, h, _, _⟩; exact h1 h)]; rfl
    ·rw [if_neg h0, if_neg (by rintro ⟨h, _, _, _⟩; exact h0 h)]; rfl
 ·rw [bm (by simpa using he), aD (by rcases hok with h | h | h; exact absurd h.1 he; rw [h]; rfl; rw [h]; rfl), if_pos he, if_neg he]
theorem zi {x : List UInt8} (h : x.length ≤ 1048576) (rest : List UInt8) : dh (fr x ++ rest) = (x, (fr x).length, 0) := by
 have h3 := pn3 h
 have hn : numF 0 0 (fr x ++ rest) = (x.length, (pn x.length).length, 0) := by
  unfold fr
  rw [List.append_assoc, xR _ 0 0 _ (by omega) (by omega)]
  simp
 unfold dh
 rw [hn]
 simp only
 rw [if_neg (by simp), if_neg (by omega), if_neg (by rw [List.length_append, rt]; omega)]
 have e1 : (fr x ++ rest).take (pn x.length).length = pn x.length := by unfold fr; rw [List.append_assoc, List.take_left]
 have e2 : ((fr x ++ rest).drop (pn x.length).length).take 4 = s4 (sumB (pn x.length ++ x)) := by
  unfold fr; rw [List.append_assoc, List.drop_left, List.append_assoc, List.take_append_of_le_length (by simp [vj])]; rfl
 have e3 : ((fr x ++ rest).drop ((pn x.length).length + 4)).take x.length = x := by
  unfold fr
  rw [← List.drop_drop, List.append_assoc, List.drop_left, List.append_assoc, List.drop_append_of_le_length (by simp [vj])]
  show List.take x.length (x ++ rest) = x
  rw [List.take_left]
 rw [e1, e2, e3, if_pos rfl, rt]
theorem oB {l : List UInt8} (h : (dh l).2.2 = 0) : 0 < (dh l).2.1 ∧ (dh l).2.1 ≤ l.length ∧ (dh l).1.length ≤ 1048576 := by
 have hok := wD l 0 0 (by omega) (by simp)
 unfold dh at h ⊢
 split at h
 ·rename_i hq; exact absurd h hq
 ·rename_i hq
  rw [if_neg hq]
  split at h
  ·exact absurd h (by decide)
  ·rename_i h2
   rw [if_neg h2]
   split at h
   ·exact absurd h (by decide)
   ·rename_i h3
    rw [if_neg h3]
    split at h
    ·rename_i h4
     rw [if_pos h4]
     simp only [List.length_take]
     omega
    ·exact absurd h (by decide)
def allF : Nat → List UInt8 → List (List UInt8) × Nat × Int
 | 0, _ => ([], 0, 0)
 | f + 1, l => if l = [] then ([], 0, 0) else if (dh l).2.2 ≠ 0 then ([], 0, (dh l).2.2) else ((dh l).1 :: (allF f (l.drop (dh l).2.1)).1, (dh l).2.1 + (allF f (l.drop (dh l).2.1)).2.1, (allF f (l.drop (dh l).2.1)).2.2)
def allB (l : List UInt8) : List (List UInt8) × Nat × Int := allF l.length l
theorem nV (f : Nat) : allF f [] = ([], 0, 0) := by cases f <;> rfl
theorem wK : ∀ (f g : Nat) (l : List UInt8), l.length ≤ f → l.length ≤ g → allF f l = allF g l := by
 intro f
 induction f with
 | zero =>
  intro g l h1 h2
  have : l = [] := List.eq_nil_of_length_eq_zero (by omega)
  subst this
  rw [nV, nV]
 | succ f ih =>
  intro g l h1 h2
  cases g with
  | zero =>
   have : l = [] := List.eq_nil_of_length_eq_zero (by omega)
   subst this
   rw [nV, nV]
  | succ g =>
   unfold allF
   split
   ·rfl
   ·split
    ·rfl
    ·rename_i hn he
     have hk := oB (l := l) (by simpa using he)
     rw [ih g (l.drop (dh l).2.1) (by rw [List.length_drop]; omega) (by rw [List.length_drop]; omega)]
theorem qz (l : List UInt8) : allB l = if l = [] then ([], 0, 0) else if (dh l).2.2 ≠ 0 then ([], 0, (dh l).2.2) else ((dh l).1 :: (allB (l.drop (dh l).2.1)).1, (dh l).2.1 + (allB (l.drop (dh l).2.1)).2.1, (allB (l.drop (dh l).2.1)).2.2) := by
 by_cases h : l = []
 ·rw [if_pos h, h]; rfl
 ·rw [if_neg h]
  have hl : l.length = (l.length - 1) + 1 := by have := List.length_pos_iff.2 h; omega
  conv => lhs; unfold allB; rw [hl]; unfold allF
  rw [if_neg h]
  split
  ·rfl
  ·rename_i he
   have hk := oB (l := l) (by simpa using he)
   unfold allB
   rw [wK (l.length - 1) (l.drop (dh l).2.1).length _ (by rw [List.length_drop]; omega) (Nat.le_refl _)]
theorem all_nil : allB [] = ([], 0, 0) := rfl
theorem BC {x : List UInt8} (h : x.length ≤ 1048576) (rest : List UInt8) : allB (fr x ++ rest) = (x :: (allB rest).1, (fr x).length + (allB rest).2.1, (allB rest).2.2) := by
 have hne : fr x ++ rest ≠ [] := fun e => by
  have := congrArg List.length e
  rw [List.length_append, rt] at this
  simp at this
 rw [qz, if_neg hne, zi h, if_neg (by simp)]
 simp only
 rw [List.drop_left]
def frs (l : List (List UInt8)) : List UInt8 := (l.map fr).flatten
theorem xp (x : List UInt8) (l : List (List UInt8)) : frs (x :: l) = fr x ++ frs l := rfl
theorem zu (l m : List (List UInt8)) : frs (l ++ m) = frs l ++ frs m := by unfold frs; rw [List.map_append, List.flatten_append]
def Rk (l : List (List UInt8)) : Prop := ∀ x ∈ l, x.length ≤ 1048576
theorem wj : ∀ {l : List (List UInt8)} (h : Rk l) (rest : List UInt8), allB (frs l ++ rest) = (l ++ (allB rest).1, (frs l).length + (allB rest).2.1, (allB rest).2.2)
 | [], _, rest => by simp [frs]
 | x :: l, h, rest => by
  rw [xp, List.append_assoc, BC (h x List.mem_cons_self), wj (fun y hy => h y (List.mem_cons_of_mem _ hy))]
  simp [Nat.add_assoc]
theorem xE {l : List (List UInt8)} (h : Rk l) : allB (frs l) = (l, (frs l).length, 0) := by
 have := wj h []
 rw [List.append_nil, all_nil] at this
 simpa using this
theorem wb (l : List UInt8) : (allB l).2.1 ≤ l.length ∧ (allB l).1.length ≤ (allB l).2.1 := by
 have key : ∀ (n : Nat) (l : List UInt8), l.length ≤ n → (allB l).2.1 ≤ l.length ∧ (allB l).1.length ≤ (allB l).2.1 := by
  intro n
  induction n with
  | zero =>
   intro l h
   have : l = [] := List.eq_nil_of_length_eq_zero (by omega)
   subst this
   exact ⟨Nat.le_refl _, Nat.le_refl _⟩
  | succ n ih =>
   intro l h
   rw [qz]
   split
   ·simp
   ·split
    ·simp
    ·rename_i he
     have hk := oB (l := l) (by simpa using he)
     have := ih (l.drop (dh l).2.1) (by rw [List.length_drop]; omega)
     rw [List.length_drop] at this
     simp only [List.length_cons]
     omega
 exact key l.length l (Nat.le_refl _)
theorem tT {b : List UInt8} (hb : b.length ≤ lim) : ∀ (n at_ F : Nat) (o : List (List UInt8)) (p : Int) (x5 : Int), at_ ≤ b.length → b.length - at_ ≤ n → o.length + (b.length - at_) ≤ lim → p = (at_ : Int) →
  ∃ e, loopN (cL eA b) (F + n + 1) ((at_ : Int), x5, (o, p)) = some ((o ++ (allB (b.drop at_)).1, ((at_ + (allB (b.drop at_)).2.1 : Nat) : Int)), e) := by
 intro n
 induction n with
 | zero =>
  intro at_ F o p x5 h1 h2 h3 hp
  rw [jt]
  generalize loopN (cL eA b) (F + 0) = f
  unfold cL
  simp only
  rw [ax (by rw [decide_eq_false_iff_not]; omega)]
  refine ⟨x5, ?_⟩
  rw [List.drop_of_length_le (by omega), all_nil, hp]
  simp
 | succ n ih =>
  intro at_ F o p x5 h1 h2 h3 hp
  rw [show F + (n + 1) + 1 = (F + n + 1) + 1 by omega, jt]
  generalize hf : loopN (cL eA b) (F + n + 1) = f
  unfold cL
  simp only
  by_cases hlt : at_ < b.length
  ·have hne : b.drop at_ ≠ [] := fun e => by
    have := congrArg List.length e
    rw [List.length_drop] at this
    simp at this; omega
   rw [bm (by rw [decide_eq_true_eq]; omega), Bd hb h1, Option.bind_some]
   unfold yu
   simp only
   rw [qz, if_neg hne]
   by_cases he : (dh (b.drop at_)).2.2 = 0
   ·have hk := oB he
    rw [List.length_drop] at hk
    rw [if_pos he, if_neg (show ¬ ((dh (b.drop at_)).2.2 ≠ 0) from by simp [he]), bm (by simp [he])]
    unfold eA
    rw [aD (by simp; omega), Option.bind_some, ← hf]
    obtain ⟨e, h⟩ := ih (at_ + (dh (b.drop at_)).2.1) F (o ++ [(dh (b.drop at_)).1]) _ (dh (b.drop at_)).2.2 (by omega) (by omega) (by simp; omega) rfl
    refine ⟨e, ?_⟩
    simp only
    rw [h]
    simp only [List.drop_drop, List.append_assoc, List.cons_append, List.nil_append, Nat.add_assoc]
   ·rw [ax (by simp [he]), if_pos he]
    refine ⟨(dh (b.drop at_)).2.2, ?_⟩
    rw [hp]
    simp only [List.append_nil, Nat.add_zero]
  ·refine ⟨x5, ?_⟩
   rw [ax (by rw [decide_eq_false_iff_not]; omega), List.drop_of_length_le (by omega), all_nil, hp]
   simp
theorem As {b : List UInt8} (hb : b.length ≤ lim) : ∃ e, jx b = some ((allB b).1, (((allB b).2.1 : Nat) : Int), e) := by
 have hb' := hb
 rw [aJ] at hb'
 obtain ⟨F, hF⟩ : ∃ F, FU = F + b.length + 1 := ⟨FU - b.length - 1, by unfold FU; omega⟩
 obtain ⟨e, h⟩ := tT hb b.length 0 F [] 0 0 (by omega) (by omega) (by simp; omega) rfl
 refine ⟨e, ?_⟩
 unfold jx j8
 rw [hF]
 simp only [List.drop_zero, Nat.zero_add, List.nil_append] at h
 rw [show ((0 : Nat) : Int) = 0 from rfl] at h
 rw [h]; rfl
end Fw
end Go.Proofs.YtlfmppjcgaekhaaGreat
namespace Go.Proofs.YtlfmppjcgaekhaaGreat
namespace Fw
set_option linter.unusedVariables false
set_option linter.unusedSimpArgs false
set_option linter.unusedSectionVars false
def dz (n : Nat) : List UInt8 := if h : n = 0 then [] else dz (n / 10) ++ [UInt8.ofNat (48 + n % 10)]
 decreasing_by omega
theorem dz_0 : dz 0 = [] := by unfold dz; rfl
theorem dz_s {n : Nat} (h : n ≠ 0) : dz n = dz (n / 10) ++ [UInt8.ofNat (48 + n % 10)] := by rw [dz, dif_neg h]
def ds (n : Nat) : List UInt8 := dz (n / 10) ++ [UInt8.ofNat (48 + n % 10)]
theorem Bg : ∀ (k n : Nat), n < 10 ^ k → (dz n).length ≤ k := by
 intro k
 induction k with
 | zero => intro n h; rw [show n = 0 by omega, dz_0]; simp
 | succ k ih =>
  intro n h
  by_cases h1 : n = 0
  ·rw [h1, dz_0]; simp
  ·rw [dz_s h1]
   have := ih (n / 10) (by rw [Nat.pow_succ] at h; omega)
   simp; omega
theorem qM {k n : Nat} (h : n < 10 ^ (k + 1)) : (ds n).length ≤ k + 1 := by
 unfold ds
 have := Bg k (n / 10) (by rw [Nat.pow_succ] at h; omega)
 simp; omega
theorem qT (n : Nat) : 0 < (ds n).length := by unfold ds; simp
theorem tZ (n : Nat) : (UInt8.ofNat (48 + n % 10)).toNat = 48 + n % 10 := by rw [UInt8.toNat_ofNat_of_lt']; show 48 + n % 10 < 256; omega
theorem BD : ∀ (n : Nat), ∀ c ∈ dz n, 48 ≤ c.toNat ∧ c.toNat ≤ 57 := by
 intro n
 induction n using Nat.strongRecOn with
 | _ n ih =>
  intro c hc
  by_cases h1 : n = 0
  ·rw [h1, dz_0] at hc; cases hc
  ·rw [dz_s h1] at hc
   rcases List.mem_append.1 hc with h | h
   ·exact ih (n / 10) (by omega) c h
   ·rw [List.mem_singleton.1 h, tZ]; omega
theorem xA (n : Nat) : ∀ c ∈ ds n, 48 ≤ c.toNat ∧ c.toNat ≤ 57 := by
 intro c hc
 unfold ds at hc
 rcases List.mem_append.1 hc with h | h
 ·exact BD _ c h
 ·rw [List.mem_singleton.1 h, tZ]; omega
def rdV (n : Nat) (l : List UInt8) : Nat := l.foldl (fun n c => 10 * n + (c.toNat - 48)) n
theorem wq (n : Nat) (l m : List UInt8) : rdV n (l ++ m) = rdV (rdV n l) m := by unfold rdV; rw [List.foldl_append]
theorem xB : ∀ n : Nat, rdV 0 (dz n) = n := by
 intro n
 induction n using Nat.strongRecOn with
 | _ n ih =>
  by_cases h1 : n = 0
  ·rw [h1, dz_0]; rfl
  ·rw [dz_s h1, wq, ih (n / 10) (by omega)]
   unfold rdV
   simp only [List.foldl_cons, List.foldl_nil, tZ]
   omega
theorem v7 (n : Nat) : rdV 0 (ds n) = n := by
 unfold ds
 rw [wq, xB]
 unfold rdV
 simp only [List.foldl_cons, List.foldl_nil, tZ]
 omega
theorem xq {m n : Nat} (h : ds m = ds n) : m = n := by rw [← v7 m, h, v7]
theorem xt : ∀ (l : List UInt8) (n : Nat), n ≤ rdV n l
 | [], n => Nat.le_refl _
 | c :: l, n => by
  have := xt l (10 * n + (c.toNat - 48))
  show n ≤ rdV (10 * n + (c.toNat - 48)) l
  omega
theorem Ad : ∀ (n : Nat) (c : UInt8) (l : List UInt8), dz n = c :: l → c.toNat ≠ 48 := by
 intro n
 induction n using Nat.strongRecOn with
 | _ n ih =>
  intro c l h
  by_cases h1 : n = 0
  ·rw [h1, dz_0] at h; cases h
  ·rw [dz_s h1] at h
   cases hd : dz (n / 10) with
   | nil =>
    rw [hd] at h
    injection h with h2 _
    rw [← h2, tZ]
    have : n / 10 = 0 := by
     have := xB (n / 10)
     rw [hd] at this
     exact this.symm
    omega
   | cons c' l' =>
    rw [hd] at h
    injection h with h2 _
    rw [← h2]
    exact ih (n / 10) (by omega) c' l' hd
theorem u9 {x : List UInt8} {i : Nat} {v : UInt8} (h : i < x.length) : (x.set i v).drop i = v :: x.drop (i + 1) := by
 rw [List.drop_eq_getElem_cons (by simpa using h)]
 congr 1
 ·simp
 ·rw [List.drop_set_of_lt (by omega)]
theorem tQ {n : Int} {f : Int × Int × List UInt8 → Option ByteArray} {at_ u : Nat} {x : List UInt8} (h1 : 0 < at_) (h2 : at_ ≤ 20) (h3 : at_ = 20 ∨ 0 < u) (h4 : u ≤ 18446744073709551615) :
  cn n f ((at_ : Int), (u : Int), x) = f (((at_ - 1 : Nat) : Int), ((u / 10 : Nat) : Int), x.set (at_ - 1) (UInt8.ofNat (48 + u % 10))) := by
 unfold cn
 simp only
 have e1 : w64 ((at_ : Int) - 1) = ((at_ - 1 : Nat) : Int) := by rw [bM (by unfold I64; omega)]; omega
 have e2 : (u : Int).tdiv 10 = ((u / 10 : Nat) : Int) := by rw [Int.tdiv_eq_ediv_of_nonneg (by omega)]; omega
 have e3 : (u : Int).tmod 10 = ((u % 10 : Nat) : Int) := by rw [Int.tmod_eq_emod_of_nonneg (by omega)]; omega
 rw [e1, e2, e3]
 have c1 : (((at_ : Int) == 20) || decide (0 < (u : Int))) = true := by
  simp only [Bool.or_eq_true, beq_iff_eq, decide_eq_true_eq]; omega
 have c2 : inb ((at_ - 1 : Nat) : Int) 20 = true := by
  unfold inb
  simp only [Bool.and_eq_true, decide_eq_true_eq]; omega
 rw [c1, bm rfl, c2, aD rfl, kU (x := ((u / 10 : Nat) : Int)) (by unfold U64; omega), kU (x := 48 + ((u % 10 : Nat) : Int)) (by unfold U64; omega), w6 (by unfold U8; omega)]
 unfold b8
 rw [Int.toNat_natCast, show (48 + ((u % 10 : Nat) : Int)).toNat = 48 + u % 10 by omega]
theorem yr {n : Int} (hn : 0 ≤ n) : ∀ (k u at_ F : Nat) (acc x : List UInt8), u < 10 ^ k → k ≤ at_ → at_ < 20 → x.length = 20 → x.drop at_ = acc → loopN (cn n) (F + k + 1) ((at_ : Int), (u : Int), x) = some ⟨(dz u ++ acc).toArray⟩ := by
 intro k
 induction k with
 | zero =>
  intro u at_ F acc x hu h1 h2 h3 h4
  obtain rfl : u = 0 := by omega
  rw [jt]
  generalize loopN (cn n) (F + 0) = f
  unfold cn fE
  simp only
  rw [ax (by simp; omega), ax (by simp; omega), aD (by simp [inle]; omega), Int.toNat_natCast, h4, dz_0]; rfl
 | succ k ih =>
  intro u at_ F acc x hu h1 h2 h3 h4
  rw [show F + (k + 1) + 1 = (F + k + 1) + 1 by omega, jt]
  by_cases h0 : u = 0
  ·generalize loopN (cn n) (F + k + 1) = f
   subst h0
   unfold cn fE
   simp only
   rw [ax (by simp; omega), ax (by simp; omega), aD (by simp [inle]; omega), Int.toNat_natCast, h4, dz_0]; rfl
  ·have hb : u ≤ 18446744073709551615 := by
    have : 10 ^ (k + 1) ≤ 10 ^ 19 := Nat.pow_le_pow_right (by decide) (by omega)
    omega
   rw [tQ (by omega) (by omega) (.inr (by omega)) hb, ih (u / 10) (at_ - 1) F (UInt8.ofNat (48 + u % 10) :: acc) _ (by rw [Nat.pow_succ] at hu; omega) (by omega) (by omega) (by simpa using h3) (by rw [u9 (by omega), show at_ - 1 + 1 = at_ by omega, h4]), dz_s h0]
   simp
theorem uf {n : Nat} (h : n < 10000000000000000000) : iQ (n : Int) = some ⟨(ds n).toArray⟩ := by
 unfold iQ ib
 rw [ax (by simp), kU (by unfold U64; omega)]
 obtain ⟨F, hF⟩ : ∃ F, FU = (F + 18 + 1) + 1 := ⟨FU - 20, by unfold FU; omega⟩
 rw [hF, jt]
 have := tQ (n := (n : Int)) (f := loopN (cn (n : Int)) (F + 18 + 1)) (at_ := 20) (u := n) (x := List.replicate 20 (b8 0)) (by decide) (by decide) (.inl rfl) (by omega)
 rw [show (((20 : Nat) : Nat) : Int) = 20 from rfl] at this
 rw [this, yr (by omega) 18 (n / 10) 19 F [UInt8.ofNat (48 + n % 10)] _ (by omega) (by decide) (by decide) (by simp) (by rw [u9 (by simp)]; rfl)]
 rfl
theorem ww (s : ByteArray) : ∃ r, gD s = some r ∧ I64 r.1 ∧ (r.2 = 0 ∨ r.2 = 2) := by
 have key : ∀ (l : List UInt8) (i : Nat) (n : Int), ∃ r, forI ez (fun n_20 => bif decide (9223372036854775808 ≤ n_20) then some (0, 2) else some (w64 n_20, 0)) i l n = some r ∧ I64 r.1 ∧ (r.2 = 0 ∨ r.2 = 2) := by
  intro l
  induction l with
  | nil =>
   intro i n
   rw [forI]
   cases decide (9223372036854775808 ≤ n) with
   | true => exact ⟨(0, 2), rfl, by unfold I64; decide, .inr rfl⟩
   | false => exact ⟨(w64 n, 0), rfl, iA n, .inl rfl⟩
  | cons c l ih =>
   intro i n
   rw [forI]
   generalize hf : forI ez (fun n_20 => bif decide (9223372036854775808 ≤ n_20) then some (0, 2) else some (w64 n_20, 0)) (i + 1) l = f
   unfold ez
   cases decide (((c.toNat : Nat) : Int) < 48) || decide (57 < ((c.toNat : Nat) : Int)) with
   | true => exact ⟨(0, 2), rfl, by unfold I64; decide, .inr rfl⟩
   | false => rw [ax rfl, ← hf]; exact ih _ _
 unfold gD
 have hc : imp ((!(s == ByteArray.empty)) && (decide (1 < ((s.size : Nat) : Int)))) (decide (0 < s.size)) = true := by
  unfold imp
  by_cases h : 1 < s.size
  ·have : 0 < s.size := by omega
   simp [this]
  ·have h2 : decide (1 < ((s.size : Nat) : Int)) = false := by rw [decide_eq_false_iff_not]; omega
   rw [h2]; simp
 rw [hc, aD rfl]
 cases (s == ByteArray.empty || decide (1 < ((s.size : Nat) : Int)) && ((((gt s.data.toList 0).toNat : Nat) : Int) == 48)) || decide (19 < ((s.size : Nat) : Int)) with
 | true => exact ⟨(0, 2), rfl, by unfold I64; decide, .inr rfl⟩
 | false => rw [ax rfl]; exact key _ _ _
def rdP (s : ByteArray) : Int × Int := (gD s).getD (0, 0)
theorem xF (s : ByteArray) : gD s = some (rdP s) := by obtain ⟨r, h, _⟩ := ww s; unfold rdP; rw [h]; rfl
theorem Ax (s : ByteArray) : i64b (rdP s).1 = true := by
 obtain ⟨r, h, h2, _⟩ := ww s
 unfold rdP
 rw [h]
 unfold i64b
 unfold I64 at h2
 simp; omega
theorem sf {K : Int → Option (Int × Int)} : ∀ (l : List UInt8) (i n : Nat), (∀ c ∈ l, 48 ≤ c.toNat ∧ c.toNat ≤ 57) → rdV n l < 10000000000000000000 → forI ez K i l (n : Int) = K ((rdV n l : Nat) : Int)
 | [], _, _, _, _ => rfl
 | c :: l, i, n, hd, hv => by
  have hc := hd c List.mem_cons_self
  have hv' : rdV (10 * n + (c.toNat - 48)) l < 10000000000000000000 := hv
  have hle := xt l (10 * n + (c.toNat - 48))
  rw [forI]
  show (bif decide (((c.toNat : Nat) : Int) < 48) || decide (57 < ((c.toNat : Nat) : Int)) then some (0, 2) else forI ez K (i + 1) l (wu64 ((wu64 (10 * (n : Int))) + (wu64 (wu8 (((c.toNat : Nat) : Int) - 48)))))) = _
  rw [ax (by simp; omega), w6 (by unfold U8; omega), kU (x := 10 * (n : Int)) (by unfold U64; omega), kU (x := ((c.toNat : Nat) : Int) - 48) (by unfold U64; omega), kU (by unfold U64; omega)]
  rw [show 10 * (n : Int) + (((c.toNat : Nat) : Int) - 48) = ((10 * n + (c.toNat - 48) : Nat) : Int) by omega]
  exact sf l (i + 1) _ (fun c' h => hd c' (List.mem_cons_of_mem _ h)) hv'
theorem lO (l : List UInt8) : (⟨l.toArray⟩ : ByteArray).size = l.length := rfl
theorem yf {s : ByteArray} : s = ByteArray.empty ↔ s.size = 0 := by
 constructor
 ·rintro rfl; rfl
 ·intro h
  apply kT
  have : s.data.toList.length = 0 := h
  rw [List.eq_nil_of_length_eq_zero this]; rfl
theorem wk {n : Nat} (h : n < 9223372036854775808) : rdP ⟨(ds n).toArray⟩ = ((n : Int), 0) := by
 have hl : (ds n).length ≤ 19 := qM (by omega)
 have hp := qT n
 have hv := v7 n
 unfold rdP gD
 simp only [lO]
 have c0 : ((⟨(ds n).toArray⟩ : ByteArray) == ByteArray.empty) = false := by
  rw [beq_eq_false_iff_ne]; intro e; rw [yf, lO] at e; omega
 have c1 : (decide (1 < (((ds n).length : Nat) : Int)) && ((((gt (ds n) 0).toNat : Nat) : Int) == 48)) = false := by
  by_cases h1 : 1 < (ds n).length
  ·have h2 : (gt (ds n) 0).toNat ≠ 48 := by
    have hd : ds n = dz (n / 10) ++ [UInt8.ofNat (48 + n % 10)] := rfl
    cases hq : dz (n / 10) with
    | nil => rw [hq] at hd; rw [hd] at h1; simp at h1
    | cons c l => rw [hd, hq]; exact Ad _ _ _ hq
   have h3 : ((((gt (ds n) 0).toNat : Nat) : Int) == 48) = false := by rw [beq_eq_false_iff_ne]; omega
   rw [h3, Bool.and_false]
  ·have : decide (1 < (((ds n).length : Nat) : Int)) = false := by rw [decide_eq_false_iff_not]; omega
   rw [this, Bool.false_and]
 have c2 : decide (19 < (((ds n).length : Nat) : Int)) = false := by rw [decide_eq_false_iff_not]; omega
 rw [c0, c1, c2, aD (by unfold imp; simp; omega)]
 have := sf (K := fun n_20 => bif decide (9223372036854775808 ≤ n_20) then some (0, 2) else some (w64 n_20, 0)) (ds n) 0 0 (xA n) (by rw [hv]; omega)
 rw [hv] at this
 show (forI ez _ 0 (ds n) ((0 : Nat) : Int)).getD (0, 0) = _
 rw [this, ax (by rw [decide_eq_false_iff_not]; omega), bM (by unfold I64; omega)]; rfl
def ND (l : List UInt8) : Prop := ∀ c ∈ l, c ≠ 46
theorem yM (n : Nat) : ND (ds n) := fun c hc e => by have := xA n c hc; rw [e] at this; exact absurd this.1 (by decide)
theorem mW : ∀ {a b x y : List UInt8}, ND a → ND b → a ++ 46 :: x = b ++ 46 :: y → a = b ∧ x = y
 | [], [], x, y, _, _, h => by injection h with _ h; exact ⟨rfl, h⟩
 | [], d :: b, x, y, _, hb, h => by injection h with h _; exact absurd h.symm (hb d List.mem_cons_self)
 | c :: a, [], x, y, ha, _, h => by injection h with h _; exact absurd h (ha c List.mem_cons_self)
 | c :: a, d :: b, x, y, ha, hb, h => by
  injection h with h1 h2
  obtain ⟨e1, e2⟩ := mW (fun q hq => ha q (List.mem_cons_of_mem _ hq)) (fun q hq => hb q (List.mem_cons_of_mem _ hq)) h2
  exact ⟨by rw [h1, e1], e2⟩
structure Nm (nm : ByteArray) : Prop where
 lo : 1 ≤ nm.size
 hi : nm.size ≤ 2
 nd : ND nm.data.toList
theorem ya {nm : ByteArray} : nm.data.toList.length = nm.size := rfl
def fn (nm : ByteArray) (g k : Nat) : ByteArray := ((((nm ++ (⟨#[46]⟩ : ByteArray)) ++ ⟨(ds g).toArray⟩) ++ (⟨#[46]⟩ : ByteArray)) ++ ⟨(ds k).toArray⟩)
def mn (nm : ByteArray) : ByteArray := nm ++ (⟨#[46, 109]⟩ : ByteArray)
theorem uY (a b : ByteArray) : (a ++ b).data.toList = a.data.toList ++ b.data.toList := ByteArray.toList_data_append
theorem fn_l (nm : ByteArray) (g k : Nat) : (fn nm g k).data.toList = nm.data.toList ++ 46 :: (ds g ++ 46 :: ds k) := by
 unfold fn
 simp only [uY]
 simp
theorem mn_l (nm : ByteArray) : (mn nm).data.toList = nm.data.toList ++ 46 :: [109] := by unfold mn; rw [uY]
theorem tj {nm nm' : ByteArray} {g k g' k' : Nat} (h : Nm nm) (h' : Nm nm') (e : fn nm g k = fn nm' g' k') : nm = nm' ∧ g = g' ∧ k = k' := by
 have e2 := congrArg (fun b : ByteArray => b.data.toList) e
 simp only [fn_l] at e2
 obtain ⟨e3, e4⟩ := mW h.nd h'.nd e2
 obtain ⟨e5, e6⟩ := mW (yM g) (yM g') e4
 exact ⟨kT e3, xq e5, xq e6⟩
theorem BJ {nm nm' : ByteArray} {g k : Nat} (h : Nm nm) (h' : Nm nm') : mn nm ≠ fn nm' g k := by
 intro e
 have e2 := congrArg (fun b : ByteArray => b.data.toList) e
 simp only [fn_l, mn_l] at e2
 obtain ⟨_, e4⟩ := mW h.nd h'.nd e2
 have := congrArg List.length e4
 have h1 := qT g
 have h2 := qT k
 simp at this; omega
def gk (g k : Nat) : Prop := g ≤ 999999 ∧ 1 ≤ k ∧ k ≤ 999999
theorem qw {nm : ByteArray} {g k : Nat} (h : Nm nm) (hg : g ≤ 999999) (hk : k ≤ 999999) : 4 ≤ (fn nm g k).size ∧ (fn nm g k).size ≤ 16 := by
 have h1 : (ds g).length ≤ 6 := qM (by omega)
 have h2 : (ds k).length ≤ 6 := qM (by omega)
 have h3 := qT g
 have h4 := qT k
 have h5 := h.lo
 have h6 := h.hi
 have : (fn nm g k).size = nm.size + 1 + (ds g).length + 1 + (ds k).length := by
  show (fn nm g k).data.toList.length = _
  rw [fn_l]; simp [ya]; omega
 omega
theorem wB {nm : ByteArray} (h : Nm nm) : 3 ≤ (mn nm).size ∧ (mn nm).size ≤ 4 := by
 have h5 := h.lo
 have h6 := h.hi
 have : (mn nm).size = nm.size + 2 := by
  show (mn nm).data.toList.length = _
  rw [mn_l]; simp [ya]
 omega
theorem vx {nm : ByteArray} (h : Nm nm) {g k : Nat} (hg : g ≤ 999999) (hk : k ≤ 999999) (p2 : Int) : cH nm p2 (g : Int) (k : Int) = some (fn nm g k) := by
 have h1 : (ds g).length ≤ 6 := qM (by omega)
 have h2 : (ds k).length ≤ 6 := qM (by omega)
 have h6 := h.hi
 have hs1 : (⟨#[46]⟩ : ByteArray).size = 1 := rfl
 unfold cH
 rw [uf (by omega), Option.bind_some, uf (by omega), Option.bind_some]
 have l := aJ
 rw [aD (by simp only [ByteArray.size_append, lO, hs1, decide_eq_true_eq]; omega), aD (by simp only [ByteArray.size_append, lO, hs1, decide_eq_true_eq]; omega), aD (by simp only [ByteArray.size_append, lO, hs1, decide_eq_true_eq]; omega), aD (by simp only [ByteArray.size_append, lO, hs1, decide_eq_true_eq]; omega), aD (by simp only [ByteArray.size_append, lO, hs1, decide_eq_true_eq]; omega)]
 rfl
theorem yw (nm : ByteArray) (p2 : Int) : eJ nm p2 = some (mn nm) := rfl
theorem vP : ∀ (l : List UInt8) (n : Nat), ND l → ixbF l 46 n = -1
 | [], _, _ => rfl
 | c :: l, n, h => by
  unfold ixbF
  rw [show (c == 46) = false from by rw [beq_eq_false_iff_ne]; exact h c List.mem_cons_self, ax rfl]
  exact vP l (n + 1) fun q hq => h q (List.mem_cons_of_mem _ hq)
theorem ws : ∀ (l x : List UInt8) (n : Nat), ND l → ixbF (l ++ 46 :: x) 46 n = ((n + l.length : Nat) : Int)
 | [], x, n, _ => rfl
 | c :: l, x, n, h => by
  rw [List.cons_append]
  unfold ixbF
  rw [show (c == 46) = false from by rw [beq_eq_false_iff_ne]; exact h c List.mem_cons_self, ax rfl, ws l x (n + 1) fun q hq => h q (List.mem_cons_of_mem _ hq)]
  simp; omega
theorem y6 : ∀ (l : List UInt8) (n : Nat), ixbF l 46 n = -1 ∨ ∃ k, ixbF l 46 n = ((n + k : Nat) : Int) ∧ k < l.length
 | [], _ => .inl rfl
 | c :: l, n => by
  unfold ixbF
  cases hc : (c == 46) with
  | true => exact .inr ⟨0, rfl, by simp⟩
  | false =>
   rw [ax rfl]
   rcases y6 l (n + 1) with h | ⟨k, h, h2⟩
   ·exact .inl h
   ·exact .inr ⟨k + 1, by rw [h]; congr 1; omega, by simp; omega⟩
theorem vU (s : ByteArray) : ig s = some (ixb s 46) ∧ bh s = some (ixb s 46) := by
 have h : bh s = some (ixb s 46) := by
  unfold bh cF
  by_cases hs : (⟨#[46]⟩ : ByteArray) = s
  ·subst hs; rfl
  ·rw [ax (by rw [beq_eq_false_iff_ne]; exact hs)]; rfl
 exact ⟨by unfold ig; rw [h]; rfl, h⟩
theorem zb {nm : ByteArray} (h : Nm nm) : fA nm = some false := by
 unfold fA
 rw [(vU nm).1, Option.bind_some]
 unfold ixb
 rw [show (46 : Int).toNat.toUInt8 = 46 from rfl, vP _ _ h.nd]; rfl
def cutP (s p : ByteArray) : ByteArray × Bool := if p.size ≤ s.size ∧ s.extract 0 p.size = p then (s.extract p.size s.size, true) else (s, false)
theorem tM (s p : ByteArray) : eI s p = some (cutP s p) := by
 unfold eI cA cC cutP
 have hi : imp (decide (((p.size : Nat) : Int) ≤ ((s.size : Nat) : Int))) (decide (p.size ≤ s.size)) = true := by
  unfold imp
  by_cases h : p.size ≤ s.size
  ·simp [h]
  ·rw [show decide (((p.size : Nat) : Int) ≤ ((s.size : Nat) : Int)) = false from by rw [decide_eq_false_iff_not]; omega]; rfl
 rw [hi, aD rfl, Option.bind_some]
 by_cases h : p.size ≤ s.size ∧ s.extract 0 p.size = p
 ·rw [if_pos h, ax (by simp [h.2]; omega), aD (by simpa using h.1)]; rfl
 ·rw [if_neg h, bm ?_]; rfl
  rw [Bool.not_eq_true', Bool.and_eq_false_iff]
  by_cases h1 : p.size ≤ s.size
  ·right; rw [beq_eq_false_iff_ne]; exact fun e => h ⟨h1, e⟩
  ·left; rw [decide_eq_false_iff_not]; omega
def cutD (s : ByteArray) : ByteArray × ByteArray × Bool := if 0 ≤ ixb s 46 then (s.extract 0 (ixb s 46).toNat, s.extract ((ixb s 46).toNat + 1) s.size, true) else (s, ByteArray.empty, false)
theorem BK (s : ByteArray) (hs : s.size ≤ lim) : jr s = some (cutD s) := by
 unfold jr dI cutD
 rw [(vU s).2, Option.bind_some]
 have hr : ixb s 46 = -1 ∨ ∃ k, ixb s 46 = ((k : Nat) : Int) ∧ k < s.size := by
  unfold ixb
  rcases y6 s.data.toList 0 with h | ⟨k, h, h2⟩
  ·exact .inl h
  ·exact .inr ⟨k, by rw [show (46 : Int).toNat.toUInt8 = 46 from rfl, h]; congr 1; omega, h2⟩
 rcases hr with h | ⟨k, h, hk⟩
 ·rw [h]; rfl
 ·rw [aJ] at hs
  rw [h, bm (by simp), if_pos (by omega), bM (by unfold I64; omega), aD (by simp [inle]; omega), aD (by simp [inle]; omega), show ((k : Int) + 1).toNat = k + 1 by omega, Int.toNat_natCast]; rfl
def pf (nm f : ByteArray) : Option (Int × Int) :=
 if ((cutP f (nm ++ (⟨#[46]⟩ : ByteArray))).2 && (cutD (cutP f (nm ++ (⟨#[46]⟩ : ByteArray))).1).2.2 && ((rdP (cutD (cutP f (nm ++ (⟨#[46]⟩ : ByteArray))).1).1).2 == 0) && ((rdP (cutD (cutP f (nm ++ (⟨#[46]⟩ : ByteArray))).1).2.1).2 == 0) && (decide ((rdP (cutD (cutP f (nm ++ (⟨#[46]⟩ : ByteArray))).1).1).1 ≤ 999999)) && (decide (1 ≤ (rdP (cutD (cutP f (nm ++ (⟨#[46]⟩ : ByteArray))).1).2.1).1)) && (decide ((rdP (cutD (cutP f (nm ++ (⟨#[46]⟩ : ByteArray))).1).2.1).1 ≤ 999999))) = true
 then some ((rdP (cutD (cutP f (nm ++ (⟨#[46]⟩ : ByteArray))).1).1).1, (rdP (cutD (cutP f (nm ++ (⟨#[46]⟩ : ByteArray))).1).2.1).1) else none
theorem xb (s p : ByteArray) : (cutP s p).1.size ≤ s.size := by
 unfold cutP
 split
 ·simp only [ByteArray.size_extract]; omega
 ·exact Nat.le_refl _
theorem wO (s : ByteArray) : (cutD s).1.size ≤ s.size ∧ (cutD s).2.1.size ≤ s.size := by
 unfold cutD
 split
 ·simp only [ByteArray.size_extract]; omega
 ·exact ⟨Nat.le_refl _, Nat.zero_le _⟩
theorem uU {nm f : ByteArray} (h : nm.size ≤ 2) (hf : f.size ≤ lim) {pred : Int → Int → Option Bool} {q : Int → Int → Bool} (hq : ∀ a b, pred a b = some (q a b)) (k : ag → Option ag) (i : Nat) (o : ag) (ho : o.length + 1 ≤ lim) :
  bV (cQ pred) nm k i f o = k (o ++ if (pf nm f).any (fun x => q x.1 x.2) then [f] else []) := by
 unfold bV pf
 have hs1 : (⟨#[46]⟩ : ByteArray).size = 1 := rfl
 have l := aJ
 rw [aD (by simp only [ByteArray.size_append, hs1, decide_eq_true_eq]; omega), tM, Option.bind_some]
 have c1 := xb f (nm ++ (⟨#[46]⟩ : ByteArray))
 generalize cutP f (nm ++ (⟨#[46]⟩ : ByteArray)) = z24 at c1 ⊢
 rw [aD (by rw [decide_eq_true_eq]; omega), BK _ (by omega), Option.bind_some]
 have c2 := wO z24.1
 generalize cutD z24.1 = z27 at c2 ⊢
 rw [aD (by rw [decide_eq_true_eq]; omega), xF, Option.bind_some, aD (by rw [decide_eq_true_eq]; omega), xF, Option.bind_some]
 have r1 := Ax z27.1
 have r2 := Ax z27.2.1
 generalize rdP z27.1 = z30 at r1 ⊢
 generalize rdP z27.2.1 = z33 at r2 ⊢
 generalize hc : ((((((z24.2 && z27.2.2) && (z30.2 == 0)) && (z33.2 == 0)) && decide (z30.1 ≤ 999999)) && decide (1 ≤ z33.1)) && decide (z33.1 ≤ 999999)) = c
 cases c with
 | true =>
  rw [bm rfl, if_pos rfl, aD r1, aD r2]
  unfold cQ
  rw [hq, Option.bind_some]
  simp only [Option.any_some]
  by_cases hqq : q z30.1 z33.1 = true
  ·rw [bm hqq, if_pos hqq, aD (by simpa using ho)]; rfl
  ·rw [ax (by simpa using hqq), if_neg hqq, List.append_nil]; rfl
 | false =>
  rw [ax rfl, if_neg (by simp)]
  simp
theorem sO (s : ByteArray) (i j : Nat) : (s.extract i j).data.toList = (s.data.toList.take j).drop i := by
 rw [ByteArray.data_extract, Array.toList_extract, List.extract_eq_take_drop, List.drop_take]
theorem zB {s p : ByteArray} {x : List UInt8} (h : s.data.toList = p.data.toList ++ x) : cutP s p = (⟨x.toArray⟩, true) := by
 have hsz : s.size = p.size + x.length := by
  show s.data.toList.length = _
  rw [h, List.length_append]; rfl
 have h1 : s.extract 0 p.size = p := by
  apply kT
  rw [sO, h, List.drop_zero, show p.size = p.data.toList.length from rfl, List.take_left]
 unfold cutP
 rw [if_pos ⟨by omega, h1⟩]
 congr 1
 apply kT
 rw [sO, List.take_of_length_le (by show s.size ≤ s.size; exact Nat.le_refl _), h, show p.size = p.data.toList.length from rfl, List.drop_left]
theorem zR {a x : List UInt8} (h : ND a) : cutD ⟨(a ++ 46 :: x).toArray⟩ = (⟨a.toArray⟩, ⟨x.toArray⟩, true) := by
 have hi : ixb ⟨(a ++ 46 :: x).toArray⟩ 46 = ((a.length : Nat) : Int) := by
  unfold ixb
  show ixbF (a ++ 46 :: x) 46 0 = _
  rw [ws a x 0 h, Nat.zero_add]
 unfold cutD
 rw [hi, if_pos (by omega), Int.toNat_natCast]
 congr 1
 ·apply kT
  rw [sO]
  show List.drop 0 (List.take a.length (a ++ 46 :: x)) = a
  rw [List.drop_zero, List.take_left]
 ·congr 1
  apply kT
  rw [sO]
  show List.drop (a.length + 1) (List.take (a ++ 46 :: x).length (a ++ 46 :: x)) = x
  rw [List.take_length, ← List.drop_drop, List.drop_left]; rfl
theorem sI {nm : ByteArray} {g k : Nat} (h : gk g k) : pf nm (fn nm g k) = some ((g : Int), (k : Int)) := by
 obtain ⟨h1, h2, h3⟩ := h
 unfold pf
 rw [zB (x := ds g ++ 46 :: ds k) (by rw [fn_l, uY]; simp)]
 simp only
 rw [zR (yM g)]
 simp only
 rw [wk (by omega), wk (by omega)]
 rw [if_pos (by simp; omega)]
end Fw
end Go.Proofs.YtlfmppjcgaekhaaGreat
namespace Go.Proofs.YtlfmppjcgaekhaaGreat
namespace Fw
set_option linter.unusedVariables false
set_option linter.unusedSimpArgs false
set_option linter.unusedSectionVars false
abbrev Mp := List (ByteArray × List UInt8)
abbrev Cg := ah
abbrev Dc := aw
abbrev Dk := a7
def ap : Cg → Mp → Mp
 | .disk_Disk_Remove_1 a, es => mdel a es
 | .disk_add_1 n b, es => mput n ((mget n es).getD [] ++ b) es
 | .disk_Disk_Cut_1 n k, es => mput n (((mget n es).getD []).take k.toNat) es
def okc : Cg → Mp → Prop
 | .disk_Disk_Cut_1 n k, es => (mget n es).isSome = true ∧ 0 ≤ k ∧ k ≤ (((mget n es).getD []).length : Int)
 | .disk_Disk_Remove_1 a, es => (mget a es).isSome = true
 | _, _ => True
theorem C0 {c : Cg} {es : Mp} (h : NK es) : NK (ap c es) := by
 cases c with
 | disk_Disk_Remove_1 a => exact h.del
 | disk_add_1 n b => exact h.put
 | disk_Disk_Cut_1 n k => exact h.put
theorem BI {c : Cg} {es : Mp} : (ap c es).length ≤ es.length + 1 := by
 cases c with
 | disk_Disk_Remove_1 a => exact Nat.le_trans uF (Nat.le_succ _)
 | disk_add_1 n b => exact qE
 | disk_Disk_Cut_1 n k => exact qE
theorem sL {n : ByteArray} {b : List UInt8} {es : Mp} : sz (ap (.disk_add_1 n b) es) = sz es + b.length := by
 have := xu (x := n) (v := (mget n es).getD [] ++ b) (es := es)
 rw [List.length_append] at this
 show sz (mput n _ es) = _
 omega
theorem AW {a : ByteArray} {es : Mp} : sz (ap (.disk_Disk_Remove_1 a) es) ≤ sz es := by
 have h2 := vi (x := a) (es := es)
 show sz (mdel a es) ≤ _
 omega
theorem AM {n : ByteArray} {k : Int} {es : Mp} : sz (ap (.disk_Disk_Cut_1 n k) es) ≤ sz es := by
 have h1 := xu (x := n) (v := ((mget n es).getD []).take k.toNat) (es := es)
 have h2 : (((mget n es).getD []).take k.toNat).length ≤ ((mget n es).getD []).length := by rw [List.length_take]; omega
 show sz (mput n _ es) ≤ _
 omega
theorem yz {c : Cg} {es : Mp} (hok : okc c es) (h : sz (ap c es) ≤ lim) : cy c es = some (ap c es) := by
 cases c with
 | disk_Disk_Remove_1 a => rfl
 | disk_add_1 n b =>
  rw [sL] at h
  have := uO (x := n) (es := es)
  show jX es n b = _
  unfold jX eZ
  rw [Option.bind_some, aD (by simp; omega)]; rfl
 | disk_Disk_Cut_1 n k =>
  obtain ⟨_, h1, h2⟩ := hok
  show fV es n k = _
  unfold fV
  rw [aD (by simp [inle, h1, h2])]; rfl
def run (cs : List Dc) (es : Mp) : Mp := cs.foldl (fun es c => ap c.do_ es) es
theorem nW {cs : List Dc} {c : Dc} {es : Mp} : run (cs ++ [c]) es = ap c.do_ (run cs es) := by simp [run, List.foldl_append]
theorem rf {cs : List Dc} {k : Nat} {es : Mp} (h : k < cs.length) : run (cs.take (k + 1)) es = ap (gt cs k).do_ (run (cs.take k) es) := by rw [zo h, nW]
theorem BF {cs : List Dc} {es : Mp} (h : NK es) : NK (run cs es) := by
 induction cs generalizing es with
 | nil => exact h
 | cons c cs ih => exact ih (C0 h)
def Tl (c : Dc) : Prop := match c.do_ with
 | .disk_add_1 n b => c.name = n ∧ c.tail = b
 | _ => c.tail = []
structure DI (R N : Nat) (d : Dk) : Prop where
 rd : d.room = (R : Int)
 see : d.seen = run d.loose d.safe_
 nks : NK d.safe_
 szs : ∀ k, k ≤ d.loose.length → sz (run (d.loose.take k) d.safe_) ≤ R
 lns : ∀ k, k ≤ d.loose.length → (run (d.loose.take k) d.safe_).length ≤ N
 oks : ∀ k, k < d.loose.length → okc (gt d.loose k).do_ (run (d.loose.take k) d.safe_)
 tls : ∀ k, k < d.loose.length → Tl (gt d.loose k)
 ll : d.loose.length ≤ N
def MX : Nat := 1073741824
theorem nD {R : Nat} (hR : R ≤ MX) : R ≤ lim := by rw [aJ]; unfold MX at hR; omega
section
variable {R N : Nat} {d : Dk}
theorem DI.mono (h : DI R N d) {M : Nat} (hm : N ≤ M) : DI R M d := ⟨h.rd, h.see, h.nks, h.szs, fun k hk => Nat.le_trans (h.lns k hk) hm, h.oks, h.tls, Nat.le_trans h.ll hm⟩
theorem DI.nk (h : DI R N d) : NK d.seen := by rw [h.see]; exact BF h.nks
theorem DI.sz (h : DI R N d) : Fw.sz d.seen ≤ R := by
 rw [h.see]
 have := h.szs d.loose.length (Nat.le_refl _)
 rwa [List.take_length] at this
theorem DI.ln (h : DI R N d) : d.seen.length ≤ N := by
 rw [h.see]
 have := h.lns d.loose.length (Nat.le_refl _)
 rwa [List.take_length] at this
theorem DI.clean {r : Int} {es : Mp} (hr : r = (R : Int)) (h1 : NK es) (h2 : Fw.sz es ≤ R) (h3 : es.length ≤ N) : DI R N ⟨r, es, es, []⟩ :=
 ⟨hr, rfl, h1, fun k hk => by simpa [run] using h2, fun k hk => by simpa [run] using h3, fun k hk => absurd hk (Nat.not_lt_zero _), fun k hk => absurd hk (Nat.not_lt_zero _), Nat.zero_le _⟩
def okn (n : ByteArray) : Bool := decide (1 ≤ n.size) && decide (n.size ≤ 16)
theorem zs (s : ByteArray) : (decide (((s.size : Nat) : Int) < 1) || decide (16 < ((s.size : Nat) : Int))) = !okn s := by
 unfold okn
 rw [Bool.eq_iff_iff]
 simp only [Bool.or_eq_true, decide_eq_true_eq, Bool.not_eq_true', Bool.and_eq_false_iff, decide_eq_false_iff_not]
 omega
theorem wz (l : List ByteArray) : iC l = some (l.all okn) := by
 unfold iC
 refine (uH (fun i _ => some ((l.drop i).all okn)) (fun _ _ => True) (fun s _ => ?_) (fun f i s hi _ hf => ?_) trivial)
 ·rw [List.drop_of_length_le (Nat.le_refl _)]; rfl
 ·unfold lW
  rw [hf () trivial, js hi, List.all_cons]
  rw [zs]
  cases okn (gt l i) <;> rfl
theorem Aq {l : List UInt8} (h : l.length ≤ lim) : ci l = some l := by
 unfold ci nilc
 cases l with
 | nil => rfl
 | cons x l => rw [aD (by simpa using h)]; rfl
theorem uv : ∀ (es : Mp) (n : Int), 0 ≤ n → n + (sz es : Int) ≤ 4611686018427387904 → fldO eL n es = some (n + (sz es : Int))
 | [], n, _, _ => by simp [fldO, Fw.sz]
 | p :: es, n, h0, h1 => by
  have hs : Fw.sz (p :: es) = p.2.length + Fw.sz es := by simp [Fw.sz]
  rw [hs] at h1 ⊢
  unfold fldO eL
  rw [Option.bind_some, bM (by unfold I64; omega)]
  have := uv es (n + (p.2.length : Int)) (by omega) (by omega)
  unfold eL at this
  rw [this]; congr 1; omega
theorem Bc {d : Dk} (h : Fw.sz d.seen ≤ lim) : gN d = some (Fw.sz d.seen : Int) := by
 unfold gN
 rw [aJ] at h
 rw [uv _ _ (Int.le_refl 0) (by omega), Option.bind_some, Int.zero_add]
def s6 (d : Dk) (c : Dc) : Dk := ⟨d.room, d.safe_, ap c.do_ d.seen, d.loose ++ [c]⟩
def dApp (d : Dk) (n : ByteArray) (b : List UInt8) : Dk × Int :=
 bif !okn n then (d, 70) else bif decide (d.room - (Fw.sz d.seen : Int) < (b.length : Int)) then (d, 72) else (s6 d ⟨.disk_add_1 n b, n, b⟩, 0)
def iI (d : Dk) (n : ByteArray) : Int := bif !okn n then 70 else bif !(mget n d.seen).isSome then 71 else 0
def dCut (d : Dk) (n : ByteArray) (k : Int) : Dk × Int :=
 bif iI d n != 0 then (d, iI d n) else bif decide (k < 0) || decide (((((mget n d.seen).getD []).length : Nat) : Int) < k) then (d, 1) else (s6 d ⟨.disk_Disk_Cut_1 n k, ByteArray.empty, []⟩, 0)
def dRem (d : Dk) (n : ByteArray) : Dk × Int :=
 bif iI d n != 0 then (d, iI d n) else (s6 d ⟨.disk_Disk_Remove_1 n, ByteArray.empty, []⟩, 0)
theorem uP (h : DI R N d) (hR : R ≤ lim) (hN : N + 1 ≤ lim) {c : Dc} (h1 : Fw.sz (ap c.do_ d.seen) ≤ R) (h2 : okc c.do_ d.seen) : dt d c = some (s6 d c, 0) := by
 unfold dt
 have := h.ll
 rw [yz h2 (Nat.le_trans h1 hR), Option.bind_some, aD (by simp; omega)]; rfl
theorem DI.done (h : DI R N d) {c : Dc} (h1 : Fw.sz (ap c.do_ d.seen) ≤ R) (h2 : okc c.do_ d.seen) (h4 : Tl c) : DI R (N + 1) (s6 d c) := by
 have hs := h.see
 have hk : ∀ k, k ≤ (d.loose ++ [c]).length → k ≤ d.loose.length ∧ (d.loose ++ [c]).take k = d.loose.take k ∨ k = d.loose.length + 1 ∧ (d.loose ++ [c]).take k = d.loose ++ [c] := fun k hk => by
  rw [List.length_append] at hk
  simp only [List.length_cons, List.length_nil] at hk
  rcases Nat.lt_or_ge d.loose.length k with h | h
  ·right; exact ⟨by omega, List.take_of_length_le (by simp; omega)⟩
  ·left; exact ⟨h, by rw [List.take_append_of_le_length h]⟩
 have hg : ∀ k, k < (d.loose ++ [c]).length → k < d.loose.length ∧ gt (d.loose ++ [c]) k = gt d.loose k ∨ k = d.loose.length ∧ gt (d.loose ++ [c]) k = c := fun k hk => by
  rw [List.length_append] at hk
  simp only [List.length_cons, List.length_nil] at hk
  rcases Nat.lt_or_ge k d.loose.length with h5 | h5
  ·left; exact ⟨h5, gK h5⟩
  ·right
   have : k = d.loose.length := by omega
   subst this
   exact ⟨rfl, by rw [fC (Nat.le_refl _), Nat.sub_self]; rfl⟩
 refine ⟨h.rd, ?_, h.nks, fun k q => ?_, fun k q => ?_, fun k q => ?_, fun k q => ?_, ?_⟩
 ·show ap c.do_ d.seen = run (d.loose ++ [c]) d.safe_
  rw [nW, ← hs]
 ·rcases hk k q with ⟨a, b⟩ | ⟨a, b⟩
  ·show Fw.sz (run ((d.loose ++ [c]).take k) d.safe_) ≤ R
   rw [b]; exact h.szs k a
  ·show Fw.sz (run ((d.loose ++ [c]).take k) d.safe_) ≤ R
   rw [b, nW, ← hs]; exact h1
 ·rcases hk k q with ⟨a, b⟩ | ⟨a, b⟩
  ·show (run ((d.loose ++ [c]).take k) d.safe_).length ≤ _
   rw [b]; exact Nat.le_trans (h.lns k a) (Nat.le_succ _)
  ·show (run ((d.loose ++ [c]).take k) d.safe_).length ≤ _
   rw [b, nW, ← hs]
   have := h.ln
   have h6 := BI (c := c.do_) (es := d.seen)
   omega
 ·rcases hg k q with ⟨a, b⟩ | ⟨a, b⟩
  ·show okc (gt (d.loose ++ [c]) k).do_ (run ((d.loose ++ [c]).take k) d.safe_)
   rw [b, List.take_append_of_le_length (Nat.le_of_lt a)]; exact h.oks k a
  ·show okc (gt (d.loose ++ [c]) k).do_ (run ((d.loose ++ [c]).take k) d.safe_)
   rw [b, a, List.take_append_of_le_length (Nat.le_refl _), List.take_length, ← hs]; exact h2
 ·rcases hg k q with ⟨a, b⟩ | ⟨a, b⟩
  ·show Tl (gt (d.loose ++ [c]) k)
   rw [b]; exact h.tls k a
  ·show Tl (gt (d.loose ++ [c]) k)
   rw [b]; exact h4
 ·show (d.loose ++ [c]).length ≤ _
  have := h.ll
  simp; omega
theorem Bm {z : Nat} (hR : R ≤ MX) (hz : z ≤ R) : w64 ((R : Int) - (z : Int)) = (R : Int) - (z : Int) := bM (by unfold I64 MX at *; omega)
theorem BT (h : DI R N d) (hR : R ≤ MX) (hN : N + 1 ≤ lim) (n : ByteArray) (b : List UInt8) : fB d n b = some (dApp d n b) ∧ DI R (N + 1) (dApp d n b).1 := by
 have hs := h.sz
 have hR2 := nD hR
 unfold fB dApp
 rw [wz, Option.bind_some]
 simp only [List.all_cons, List.all_nil, Bool.and_true]
 cases okn n with
 | false => exact ⟨rfl, h.mono (Nat.le_succ _)⟩
 | true =>
  rw [show (!true) = false from rfl, ax rfl, ax rfl, Bc (Nat.le_trans hs hR2), Option.bind_some, h.rd, Bm hR hs]
  cases hc : decide ((R : Int) - (Fw.sz d.seen : Int) < ((b.length : Nat) : Int)) with
  | true => exact ⟨rfl, h.mono (Nat.le_succ _)⟩
  | false =>
   have hc := of_decide_eq_false hc
   have h1 : Fw.sz (ap (.disk_add_1 n b) d.seen) ≤ R := by rw [sL]; omega
   rw [ax rfl, ax rfl, Aq (by omega), Option.bind_some]
   unfold kd
   rw [Option.bind_some, uP h hR2 hN (c := ⟨.disk_add_1 n b, n, b⟩) h1 trivial]
   exact ⟨rfl, h.done (c := ⟨.disk_add_1 n b, n, b⟩) h1 trivial ⟨rfl, rfl⟩⟩
theorem wx (n : ByteArray) : ec d n = some (iI d n) := by
 unfold ec iI
 rw [wz, Option.bind_some]
 simp only [List.all_cons, List.all_nil, Bool.and_true]
 cases okn n <;> cases (mget n d.seen).isSome <;> rfl
theorem wn (n : ByteArray) : i64b (iI d n) = true := by
 unfold iI
 cases okn n <;> cases (mget n d.seen).isSome <;> decide
theorem wl {n : ByteArray} (h : (iI d n != 0) = false) : okn n = true ∧ (mget n d.seen).isSome = true := by
 unfold iI at h
 cases h1 : okn n <;> cases h2 : (mget n d.seen).isSome <;> rw [h1, h2] at h <;> first | exact ⟨rfl, rfl⟩ | exact absurd h (by decide)
theorem vI {n : ByteArray} (h : okn n = true) (h2 : (mget n d.seen).isSome = true) : iI d n = 0 := by
 unfold iI; rw [h, h2]; rfl
theorem AL (h : DI R N d) (hR : R ≤ MX) (hN : N + 1 ≤ lim) (n : ByteArray) (k : Int) : il d n k = some (dCut d n k) ∧ DI R (N + 1) (dCut d n k).1 := by
 have hs := h.sz
 unfold il dCut
 rw [wx, Option.bind_some]
 cases ht : iI d n != 0 with
 | true => rw [bm rfl, bm rfl, aD (wn n)]; exact ⟨rfl, h.mono (Nat.le_succ _)⟩
 | false =>
  rw [ax rfl, ax rfl]
  cases hc : decide (k < 0) || decide (((((mget n d.seen).getD []).length : Nat) : Int) < k) with
  | true => exact ⟨rfl, h.mono (Nat.le_succ _)⟩
  | false =>
   simp only [Bool.or_eq_false_iff, decide_eq_false_iff_not] at hc
   have h1 : Fw.sz (ap (.disk_Disk_Cut_1 n k) d.seen) ≤ R := Nat.le_trans (AM (n := n) (k := k)) hs
   have h2 : okc (.disk_Disk_Cut_1 n k) d.seen := ⟨(wl ht).2, by omega, by omega⟩
   rw [ax rfl, ax rfl, uP h (nD hR) hN (c := ⟨.disk_Disk_Cut_1 n k, ByteArray.empty, []⟩) h1 h2]
   exact ⟨rfl, h.done (c := ⟨.disk_Disk_Cut_1 n k, ByteArray.empty, []⟩) h1 h2 rfl⟩
theorem BZ (h : DI R N d) (hR : R ≤ MX) (hN : N + 1 ≤ lim) (n : ByteArray) : dE d n = some (dRem d n) ∧ DI R (N + 1) (dRem d n).1 := by
 have hs := h.sz
 unfold dE dRem
 rw [wx, Option.bind_some]
 cases ht : iI d n != 0 with
 | true => rw [bm rfl, bm rfl, aD (wn n)]; exact ⟨rfl, h.mono (Nat.le_succ _)⟩
 | false =>
  have h1 : Fw.sz (ap (.disk_Disk_Remove_1 n) d.seen) ≤ R := Nat.le_trans (AW (a := n)) hs
  have h2 : okc (.disk_Disk_Remove_1 n) d.seen := (wl ht).2
  rw [ax rfl, ax rfl, uP h (nD hR) hN (c := ⟨.disk_Disk_Remove_1 n, ByteArray.empty, []⟩) h1 h2]
  exact ⟨rfl, h.done (c := ⟨.disk_Disk_Remove_1 n, ByteArray.empty, []⟩) h1 h2 rfl⟩
def nj (d : Dk) : Dk := ⟨d.room, d.seen, d.seen, []⟩
theorem qS : eU d = some (nj d) := rfl
theorem DI.sync (h : DI R N d) : DI R N (nj d) := DI.clean h.rd h.nk h.sz h.ln
theorem e_Rd (h : DI R N d) (hR : R ≤ MX) (n : ByteArray) : du d n = some ((mget n d.seen).getD [], (mget n d.seen).isSome) := by
 unfold du
 rw [Aq (Nat.le_trans uO (Nat.le_trans h.sz (nD hR)))]; rfl
theorem zM (h : DI R N d) (hN : N ≤ lim) : gc d = some (fG d.seen) := by
 unfold gc
 have := h.ln
 rw [aD (by simp; omega)]
theorem rG {κ α : Type} [DecidableEq κ] {x : κ} {v w : α} : ∀ {es : List (κ × α)}, (mput x v es).length = (mput x w es).length
 | [] => rfl
 | p :: es => by
  unfold mput
  split
  ·rfl
  ·exact congrArg (· + 1) (rG (x := x) (v := v) (w := w) (es := es))
def cK (d : Dk) (keep : Int) : Nat := (min (max keep 0) ((d.loose.length : Nat) : Int)).toNat
def cT (d : Dk) (k : Nat) (torn : Int) : Bool := decide (k < d.loose.length) && (decide (0 < torn) && decide (0 < (gt d.loose k).tail.length))
def qJ (d : Dk) (keep torn : Int) : Mp :=
 bif cT d (cK d keep) torn then ap (.disk_add_1 (gt d.loose (cK d keep)).name ((gt d.loose (cK d keep)).tail.take torn.toNat)) (run (d.loose.take (cK d keep)) d.safe_) else run (d.loose.take (cK d keep)) d.safe_
def tB (d : Dk) (keep torn : Int) : Dk := ⟨d.room, qJ d keep torn, qJ d keep torn, []⟩
theorem BN (keep : Int) : min (max keep 0) ((d.loose.length : Nat) : Int) = ((cK d keep : Nat) : Int) := by unfold cK; omega
theorem Ay (keep : Int) : cK d keep ≤ d.loose.length := by unfold cK; omega
theorem uh (h : DI R N d) {k : Nat} {torn : Int} (hc : cT d k torn = true) : k < d.loose.length ∧ 0 < torn ∧ (gt d.loose k).do_ = .disk_add_1 (gt d.loose k).name (gt d.loose k).tail := by
 unfold cT at hc
 simp only [Bool.and_eq_true, decide_eq_true_eq] at hc
 obtain ⟨h1, h2, h3⟩ := hc
 have htl := h.tls k h1
 unfold Tl at htl
 cases hd : (gt d.loose k).do_ with
 | disk_add_1 n b =>
  rw [hd] at htl
  simp only at htl
  exact ⟨h1, h2, by rw [htl.1, htl.2]⟩
 | disk_Disk_Remove_1 a => rw [hd] at htl; simp only at htl; rw [htl] at h3; exact absurd h3 (Nat.lt_irrefl 0)
 | disk_Disk_Cut_1 a k' => rw [hd] at htl; simp only at htl; rw [htl] at h3; exact absurd h3 (Nat.lt_irrefl 0)
theorem zH (h : DI R N d) {k : Nat} {torn : Int} (hc : cT d k torn = true) : Fw.sz (ap (.disk_add_1 (gt d.loose k).name ((gt d.loose k).tail.take torn.toNat)) (run (d.loose.take k) d.safe_)) ≤ R ∧
  (ap (.disk_add_1 (gt d.loose k).name ((gt d.loose k).tail.take torn.toNat)) (run (d.loose.take k) d.safe_)).length ≤ N := by
 obtain ⟨h1, _, h2⟩ := uh h hc
 have s1 := h.szs (k + 1) h1
 have l1 := h.lns (k + 1) h1
 rw [rf h1, h2] at s1 l1
 rw [sL] at s1 ⊢
 refine ⟨?_, ?_⟩
 ·rw [List.length_take]; omega
 ·exact Nat.le_trans (Nat.le_of_eq rG) l1
theorem zz (h : DI R N d) (hR : R ≤ MX) (keep torn : Int) : gh d keep torn = some (tB d keep torn) := by
 have hle := Ay (d := d) keep
 unfold gh
 simp only [BN, Int.toNat_natCast]
 rw [aD (by simp [inle]; omega)]
 refine mz (fun i x => x = run (d.loose.take i) d.safe_) (fun x hx => ?_) (fun f i x hi hx hf => ?_) rfl
 ·rw [List.length_take, Nat.min_eq_left hle] at hx
  subst hx
  unfold tB qJ cZ
  by_cases hk : cK d keep < d.loose.length
  ·rw [bm (by simpa using hk), aD (by simp [inb]; omega)]
   have hct : decide (0 < min (max torn 0) (((gt d.loose (cK d keep)).tail.length : Nat) : Int)) = cT d (cK d keep) torn := by
    unfold cT
    rw [Bool.eq_iff_iff]
    simp only [Bool.and_eq_true, decide_eq_true_eq]
    omega
   rw [hct]
   cases hc : cT d (cK d keep) torn with
   | false => rfl
   | true =>
    obtain ⟨_, ht, _⟩ := uh h hc
    have htk : List.take (min (max torn 0) (((gt d.loose (cK d keep)).tail.length : Nat) : Int)).toNat (gt d.loose (cK d keep)).tail = (gt d.loose (cK d keep)).tail.take torn.toNat := by
     rw [List.take_eq_take_iff]; omega
    unfold kd
    rw [bm rfl, aD (by simp [inle]; omega), Option.bind_some, htk, yz (c := .disk_add_1 _ _) trivial (Nat.le_trans (zH h hc).1 (nD hR))]; rfl
  ·rw [ax (by simpa using hk)]
   have : cT d (cK d keep) torn = false := by unfold cT; simp [hk]
   rw [this]; rfl
 ·subst hx
  rw [List.length_take, Nat.min_eq_left hle] at hi
  have hg : gt (d.loose.take (cK d keep)) i = gt d.loose i := by
   rw [bz (by rw [List.length_take]; omega), bz (by omega), List.getElem_take]
  unfold jw
  have hz := h.szs (i + 1) (by omega)
  rw [rf (by omega)] at hz
  rw [hg, yz (h.oks i (by omega)) (Nat.le_trans hz (nD hR)), Option.bind_some]
  exact hf _ (by rw [rf (by omega)])
end
def rm (room : Int) : Nat := (min (max room 0) 1073741824).toNat
def d0 (room : Int) : Dk := ⟨(rm room : Int), [], [], []⟩
theorem Ce (room : Int) : kw room = some (d0 room) := by
 unfold kw d0 rm
 rw [show (((min (max room 0) 1073741824).toNat : Nat) : Int) = min (max room 0) 1073741824 by omega]
theorem di0 (room : Int) : DI (rm room) 0 (d0 room) := DI.clean rfl NK.nil (Nat.zero_le _) (Nat.zero_le _)
end Fw
end Go.Proofs.YtlfmppjcgaekhaaGreat
namespace Go.Proofs.YtlfmppjcgaekhaaGreat
namespace Fw
set_option linter.unusedVariables false
set_option linter.unusedSimpArgs false
set_option linter.unusedSectionVars false
theorem AK (l : List UInt8) : Rk (allB l).1 := by
 have key : ∀ (n : Nat) (l : List UInt8), l.length ≤ n → Rk (allB l).1 := by
  intro n
  induction n with
  | zero =>
   intro l h
   have : l = [] := List.eq_nil_of_length_eq_zero (by omega)
   subst this
   intro x hx; cases hx
  | succ n ih =>
   intro l h
   rw [qz]
   split
   ·intro x hx; cases hx
   ·split
    ·intro x hx; cases hx
    ·rename_i he
     have hk := oB (l := l) (by simpa using he)
     intro x hx
     rcases List.mem_cons.1 hx with e | hx
     ·rw [e]; exact hk.2.2
     ·exact ih (l.drop (dh l).2.1) (by rw [List.length_drop]; omega) x hx
 exact key l.length l (Nat.le_refl _)
def uw : Nat → List (List UInt8) → Option Nat
 | g, [] => some g
 | g, x :: l => if (numF 0 0 x).2.2 ≠ 0 ∨ (numF 0 0 x).2.1 ≠ x.length ∨ (numF 0 0 x).1 < 1 ∨ 999999 < (numF 0 0 x).1 then none else uw (numF 0 0 x).1 l
def yk (at_ : Nat) : Option Nat → Int × Int × Int
 | some g => ((g : Int), (at_ : Int), 0)
 | none => (0, 0, 2)
theorem qD {at_ : Nat} : ∀ (l : List (List UInt8)) (i g : Nat), Rk l → g ≤ 999999 → forI fa (fun gen_33 => chk (i64b gen_33) (some (gen_33, (at_ : Int), 0))) i l (g : Int) = some (yk at_ (uw g l))
 | [], i, g, _, hg => by
  show chk (i64b (g : Int)) (some ((g : Int), (at_ : Int), 0)) = _
  rw [aD (by unfold i64b; simp; omega)]; rfl
 | x :: l, i, g, hr, hg => by
  have hx := hr x List.mem_cons_self
  rw [forI]
  show Option.bind (fO x 0) (fun z44 => bif ((((z44.2.2 != 0) || (z44.2.1 != ((x.length : Nat) : Int))) || (decide (z44.1 < 1))) || (decide (999999 < z44.1))) then some (0, 0, 2) else forI fa (fun gen_33 => chk (i64b gen_33) (some (gen_33, (at_ : Int), 0))) (i + 1) l z44.1) = _
  have e := y7 (b := x) (at_ := 0) (by rw [aJ]; omega) (Nat.zero_le _)
  rw [show ((0 : Nat) : Int) = 0 from rfl, List.drop_zero] at e
  rw [e, Option.bind_some]
  unfold uw numR
  generalize numF 0 0 x = r
  obtain ⟨n, k, er⟩ := r
  simp only [Nat.zero_add]
  by_cases hc : er ≠ 0 ∨ k ≠ x.length ∨ n < 1 ∨ 999999 < n
  ·rw [if_pos hc, bm ?_]; rfl
   simp only [Bool.or_eq_true, bne_iff_ne, decide_eq_true_eq]
   rcases hc with h | h | h | h
   ·exact .inl (.inl (.inl h))
   ·by_cases he : er = 0
    ·rw [if_pos he]; exact .inl (.inl (.inr (by omega)))
    ·exact .inl (.inl (.inl he))
   ·exact .inl (.inr (by omega))
   ·exact .inr (by omega)
  ·rw [if_neg hc]
   have h1 : er = 0 := Classical.byContradiction fun h => hc (.inl h)
   have h2 : k = x.length := Classical.byContradiction fun h => hc (.inr (.inl h))
   have h3 : ¬ n < 1 := fun h => hc (.inr (.inr (.inl h)))
   have h4 : ¬ 999999 < n := fun h => hc (.inr (.inr (.inr h)))
   rw [if_pos h1, ax ?_]
   ·exact qD l (i + 1) n (fun y hy => hr y (List.mem_cons_of_mem _ hy)) (by omega)
   ·simp only [Bool.or_eq_false_iff, bne_eq_false_iff_eq, decide_eq_false_iff_not]
    exact ⟨⟨⟨h1, by omega⟩, by omega⟩, by omega⟩
section
variable {R N : Nat} {d : Dk}
def fb (d : Dk) (f : ByteArray) : List UInt8 := (mget f d.seen).getD []
theorem xl (h : DI R N d) (hR : R ≤ MX) (f : ByteArray) : (fb d f).length ≤ lim := Nat.le_trans uO (Nat.le_trans h.sz (nD hR))
theorem e_holds (h : DI R N d) (hR : R ≤ MX) {nm : ByteArray} (hn : Nm nm) (p2 : Int) : m_seglog_place_holds nm p2 d = some (yk (allB (fb d (mn nm))).2.1 (uw 0 (allB (fb d (mn nm))).1)) := by
 unfold m_seglog_place_holds
 have hs := wB hn
 rw [yw, Option.bind_some, aD (by rw [aJ, decide_eq_true_eq]; omega), e_Rd h hR, Option.bind_some]
 obtain ⟨e, he⟩ := As (xl h hR (mn nm))
 unfold fb at he ⊢
 simp only
 rw [he, Option.bind_some]
 exact qD _ 0 0 (AK _) (by omega)
def l4 (d : Dk) (f : ByteArray) (n : Nat) : Dk := if n < (fb d f).length then (dCut d f (n : Int)).1 else d
theorem wA (h : DI R N d) (hR : R ≤ MX) (hN : N + 1 ≤ lim) (p1 : ByteArray) (p2 : Int) (f : ByteArray) (n : Nat) : cD p1 p2 f (n : Int) d = some (l4 d f n) ∧ DI R (N + 1) (l4 d f n) := by
 unfold cD l4
 rw [e_Rd h hR, Option.bind_some]
 simp only
 obtain ⟨a, b⟩ := AL h hR hN f (n : Int)
 by_cases hc : n < (fb d f).length
 ·rw [if_pos hc, bm (by rw [decide_eq_true_eq]; unfold fb at hc; omega), a]
  exact ⟨rfl, b⟩
 ·rw [if_neg hc, ax (by rw [decide_eq_false_iff_not]; unfold fb at hc; omega)]
  exact ⟨rfl, h.mono (Nat.le_succ _)⟩
theorem tX {f : ByteArray} {n : Nat} (h : (fb d f).length ≤ n) : l4 d f n = d := by unfold l4; rw [if_neg (by omega)]
theorem qI {f : ByteArray} {n : Nat} (hf : okn f = true) (h : n < (fb d f).length) : (l4 d f n).seen = mput f ((fb d f).take n) d.seen ∧ (l4 d f n).loose.length = d.loose.length + 1 := by
 have hp : (mget f d.seen).isSome = true := by
  unfold fb at h
  cases hm : mget f d.seen with
  | none => rw [hm] at h; exact absurd h (Nat.not_lt_zero _)
  | some v => rfl
 unfold l4
 rw [if_pos h]
 unfold dCut
 rw [vI hf hp, ax (by decide), ax (by unfold fb at h; simp; omega)]
 exact ⟨rfl, by show (d.loose ++ [_]).length = _; simp⟩
def remL (d : Dk) (l : List ByteArray) : Dk := l.foldl (fun d f => (dRem d f).1) d
def hJ (nm : ByteArray) (q : Int → Int → Bool) (es : Mp) : List ByteArray := (fG es).filter fun f => (pf nm f).any fun x => q x.1 x.2
theorem pX {R : Nat} (hR : R ≤ MX) : ∀ (l : List ByteArray) (i N : Nat) (d : Dk), DI R N d → N + l.length ≤ lim → forI fl some i l d = some (remL d l) ∧ DI R (N + l.length) (remL d l)
 | [], _, _, d, h, _ => ⟨rfl, h⟩
 | f :: l, i, N, d, h, hN => by
  simp only [List.length_cons] at hN
  obtain ⟨a, b⟩ := BZ h hR (by omega) f
  rw [forI]
  show Option.bind (dE d f) (fun z => forI fl some (i + 1) l z.1) = _ ∧ _
  rw [a, Option.bind_some]
  obtain ⟨a2, b2⟩ := pX hR l (i + 1) (N + 1) _ b (by omega)
  exact ⟨a2, by rw [List.length_cons, show N + (l.length + 1) = N + 1 + l.length by omega]; exact b2⟩
theorem r7 {nm : ByteArray} (h : nm.size ≤ 2) {pred : Int → Int → Option Bool} {q : Int → Int → Bool} (hq : ∀ a b, pred a b = some (q a b)) : ∀ (l : List ByteArray) (i : Nat) (o : List ByteArray), (∀ f ∈ l, f.size ≤ lim) → o.length + l.length ≤ lim →
  forI (bV (cQ pred) nm) (fun o13 => some o13) i l o = some (o ++ l.filter fun f => (pf nm f).any fun x => q x.1 x.2)
 | [], _, o, _, _ => by simp [forI]
 | f :: l, i, o, hf, ho => by
  simp only [List.length_cons] at ho
  rw [forI, uU h (hf f List.mem_cons_self) hq _ _ _ (by omega)]
  rw [r7 h hq l (i + 1) _ (fun g hg => hf g (List.mem_cons_of_mem _ hg)) (by split <;> simp <;> omega)]
  by_cases hc : (pf nm f).any (fun x => q x.1 x.2) = true
  ·rw [if_pos hc, List.filter_cons_of_pos (by simpa using hc)]; simp
  ·rw [if_neg hc, List.filter_cons_of_neg (by simpa using hc)]; simp
def Ks (es : Mp) : Prop := ∀ k, (mget k es).isSome = true → okn k = true
theorem uu (h : DI R N d) (hR : R ≤ MX) (hN : N + N ≤ lim) {nm : ByteArray} (hn : nm.size ≤ 2) (hk : Ks d.seen) {pred : Int → Int → Option Bool} {q : Int → Int → Bool} (hq : ∀ a b, pred a b = some (q a b)) (g : Int) :
  cd d nm g pred = some (remL d (hJ nm q d.seen)) ∧ DI R (N + N) (remL d (hJ nm q d.seen)) := by
 have hln := h.ln
 have hlen : (hJ nm q d.seen).length ≤ N := Nat.le_trans (List.length_filter_le _ _) (by rw [mP]; exact hln)
 have hkl : ∀ f ∈ fG d.seen, f.size ≤ lim := fun f hf => by
  have := hk f (jB.2 (sD.1 hf))
  unfold okn at this
  simp only [Bool.and_eq_true, decide_eq_true_eq] at this
  rw [aJ]; omega
 unfold cd fm
 rw [zM h (by omega), Option.bind_some]
 have hp := r7 hn hq (fG d.seen) 0 [] hkl (by rw [mP]; simp; omega)
 rw [List.nil_append] at hp
 show Option.bind (forI (bV (cQ pred) nm) (fun o13 => some o13) 0 (fG d.seen) []) (fun l => forI fl some 0 l d) = _ ∧ _
 rw [hp, Option.bind_some]
 obtain ⟨a, b⟩ := pX hR (hJ nm q d.seen) 0 N d h (by omega)
 exact ⟨a, b.mono (by omega)⟩
theorem yx {f : ByteArray} (hf : okn f = true) (hp : (mget f d.seen).isSome = true) : (dRem d f).1.seen = mdel f d.seen ∧ (dRem d f).1.loose.length = d.loose.length + 1 := by
 unfold dRem
 rw [vI hf hp, ax (by decide)]
 exact ⟨rfl, by show (d.loose ++ [_]).length = _; simp⟩
theorem su : ∀ (l : List ByteArray) (d : Dk), NK d.seen → l.Nodup → (∀ f ∈ l, okn f = true ∧ (mget f d.seen).isSome = true) → (∀ k, mget k (remL d l).seen = if k ∈ l then none else mget k d.seen) ∧ (remL d l).loose.length = d.loose.length + l.length
 | [], d, _, _, _ => ⟨fun k => by rw [if_neg (by simp)]; rfl, rfl⟩
 | f :: l, d, hn, hd, hl => by
  rw [List.nodup_cons] at hd
  obtain ⟨h1, h2⟩ := hl f List.mem_cons_self
  obtain ⟨s1, s2⟩ := yx h1 h2
  have hn2 : NK (dRem d f).1.seen := by rw [s1]; exact hn.del
  have hl2 : ∀ g ∈ l, okn g = true ∧ (mget g (dRem d f).1.seen).isSome = true := fun g hg => by
   obtain ⟨a, b⟩ := hl g (List.mem_cons_of_mem _ hg)
   refine ⟨a, ?_⟩
   rw [s1, k6 hn, if_neg (show ¬ g = f from fun e => hd.1 (e ▸ hg))]; exact b
  obtain ⟨r1, r2⟩ := su l (dRem d f).1 hn2 hd.2 hl2
  refine ⟨fun k => ?_, ?_⟩
  ·show mget k (remL (dRem d f).1 l).seen = _
   rw [r1 k, s1, k6 hn]
   by_cases hk : k ∈ l
   ·rw [if_pos hk, if_pos (List.mem_cons_of_mem _ hk)]
   ·rw [if_neg hk]
    by_cases hf : k = f
    ·rw [if_pos hf, if_pos (hf ▸ List.mem_cons_self)]
    ·rw [if_neg hf, if_neg (by simp [hf, hk])]
  ·show (remL (dRem d f).1 l).loose.length = _
   rw [r2, s2, List.length_cons]; omega
theorem xe {nm : ByteArray} {q : Int → Int → Bool} {es : Mp} (hn : NK es) : (hJ nm q es).Nodup := (xm hn).filter _
theorem lR {nm : ByteArray} {q : Int → Int → Bool} {es : Mp} {k : ByteArray} : k ∈ hJ nm q es ↔ (mget k es).isSome = true ∧ (pf nm k).any (fun x => q x.1 x.2) = true := by
 unfold hJ
 rw [List.mem_filter, sD, jB]
theorem zG {nm : ByteArray} {q : Int → Int → Bool} (h : DI R N d) (hk : Ks d.seen) : (∀ k, mget k (remL d (hJ nm q d.seen)).seen = if (pf nm k).any (fun x => q x.1 x.2) = true then none else mget k d.seen) ∧
  (remL d (hJ nm q d.seen)).loose.length = d.loose.length + (hJ nm q d.seen).length := by
 obtain ⟨a, b⟩ := su (hJ nm q d.seen) d h.nk (xe h.nk) fun f hf => by
  have := (lR.1 hf).1
  exact ⟨hk f this, this⟩
 refine ⟨fun k => ?_, b⟩
 rw [a k]
 by_cases hc : (pf nm k).any (fun x => q x.1 x.2) = true
 ·rw [if_pos hc]
  split
  ·rfl
  ·rename_i hm
   cases hs : mget k d.seen with
   | none => rfl
   | some v => exact absurd (lR.2 ⟨by rw [hs]; rfl, hc⟩) hm
 ·rw [if_neg hc, if_neg (fun hm => hc (lR.1 hm).2)]
end
end Fw
end Go.Proofs.YtlfmppjcgaekhaaGreat
namespace Go.Proofs.YtlfmppjcgaekhaaGreat
namespace Fw
set_option linter.unusedVariables false
set_option linter.unusedSimpArgs false
set_option linter.unusedSectionVars false
abbrev Bs := List (List UInt8)
def tot (bs : Bs) : Nat := (bs.map List.length).sum
def fe (bs : Bs) : List UInt8 := bs.getLastD []
theorem qB (a b : Bs) : tot (a ++ b) = tot a + tot b := by simp [tot]
theorem kj (a : List UInt8) (b : Bs) : tot (a :: b) = a.length + tot b := by simp [tot]
theorem kl (a : Bs) (b : List UInt8) : fe (a ++ [b]) = b := by simp [fe]
theorem wd (bs : Bs) : (fe bs).length ≤ tot bs := by
 rcases List.eq_nil_or_concat bs with h | ⟨l, b, h⟩
 ·rw [h]; exact Nat.le_refl _
 ·rw [h, List.concat_eq_append, kl, qB, kj]; omega
def lg (nm : ByteArray) (g : Nat) (size : Int) (bs : Bs) (cnt : Nat) : af := ⟨nm, (g : Int), size, (bs.length : Int), ((fe bs).length : Int), (cnt : Int), (tot bs : Int)⟩
def Has (nm : ByteArray) (g : Nat) (bs : Bs) (es : Mp) : Prop := bs.length ≤ 999999 ∧ ∀ k, 1 ≤ k → k ≤ 999999 → mget (fn nm g k) es = bs[k - 1]?
theorem vT : ∀ (ks : List ByteArray) (es : Mp), NK es → ks.Nodup → (ks.map fun k => ((mget k es).getD []).length).sum ≤ sz es
 | [], _, _, _ => Nat.zero_le _
 | k :: ks, es, hn, hd => by
  rw [List.nodup_cons] at hd
  have ih := vT ks (mdel k es) hn.del hd.2
  have hs := vi (x := k) (es := es)
  have : (ks.map fun j => ((mget j (mdel k es)).getD []).length) = ks.map fun j => ((mget j es).getD []).length := by
   apply List.map_congr_left
   intro j hj
   rw [k6 hn, if_neg (show ¬ j = k from fun e => hd.1 (e ▸ hj))]
  rw [this] at ih
  simp only [List.map_cons, List.sum_cons]
  omega
theorem Has.sz {nm : ByteArray} {g : Nat} {bs : Bs} {es : Mp} (h : Has nm g bs es) (hnm : Nm nm) (hn : NK es) : tot bs ≤ Fw.sz es := by
 have h1 := vT ((List.range bs.length).map fun j => fn nm g (j + 1)) es hn (by
  refine List.Pairwise.map _ (R := fun a b => a ≠ b) (fun a b hab e => hab ?_) List.nodup_range
  have := (tj hnm hnm e).2.2; omega)
 rw [List.map_map] at h1
 refine Nat.le_trans (Nat.le_of_eq ?_) h1
 unfold tot
 congr 1
 apply List.ext_getElem
 ·simp
 ·intro i h2 h3
  simp only [List.length_map] at h2
  simp only [List.getElem_map, List.getElem_range, Function.comp]
  rw [h.2 (i + 1) (by omega) (by have := h.1; omega), Nat.add_sub_cancel, List.getElem?_eq_getElem h2]; rfl
def bd : Bs → Bs × Bs
 | [] => ([], [])
 | b :: t => if (allB b).2.1 = b.length then ((allB b).1 ++ (bd t).1, b :: (bd t).2) else ((allB b).1, [b.take (allB b).2.1])
theorem tY : ∀ bs : Bs, tot (bd bs).2 ≤ tot bs ∧ (bd bs).1.length ≤ tot bs ∧ (bd bs).2.length ≤ bs.length
 | [] => ⟨Nat.le_refl _, Nat.le_refl _, Nat.le_refl _⟩
 | b :: t => by
  have ih := tY t
  have ha := wb b
  unfold bd
  split
  ·simp only [kj, List.length_append, List.length_cons]; omega
  ·simp only [kj, List.length_cons, List.length_nil, List.length_take]
   have : tot ([] : Bs) = 0 := rfl
   omega
section
variable {R N : Nat} {d : Dk}
theorem vA {f : ByteArray} {n : Nat} (hf : okn f = true) (h : n < (fb d f).length) (k : ByteArray) : mget k (l4 d f n).seen = if k = f then some ((fb d f).take n) else mget k d.seen := by
 rw [(qI hf h).1, k8]
theorem tc {nm : ByteArray} (hnm : Nm nm) {g k : Nat} (hg : g ≤ 999999) (hk : k ≤ 999999) : okn (fn nm g k) = true := by
 have := qw hnm hg hk
 unfold okn
 simp only [Bool.and_eq_true, decide_eq_true_eq]; omega
theorem xi (h : DI R N d) (hR : R ≤ MX) (hN : N + 1 ≤ lim) {nm : ByteArray} (hnm : Nm nm) {g : Nat} (hg : g ≤ 999999) {size : Int} {bs : Bs} (hb : Has nm g bs d.seen) : ∀ (t pre : Bs) (out : Bs) (F : Nat), bs = pre ++ t → out.length + tot t ≤ R → tot pre + tot t ≤ R →
  ∃ d', loopN bv (F + t.length + 1) (out, true, (⟨nm, (g : Int), size, (pre.length : Int), ((fe pre).length : Int), 0, (tot pre : Int)⟩ : af), d) = some (lg nm g size (pre ++ (bd t).2) (out ++ (bd t).1).length, d', out ++ (bd t).1) ∧ DI R (N + 1) d' ∧
   ((bd t).2 = t ∧ d' = d ∨ 0 < (bd t).2.length ∧ (∀ k, mget k d'.seen = if k = fn nm g (pre.length + (bd t).2.length) then some (fe (bd t).2) else mget k d.seen) ∧ d'.loose.length = d.loose.length + 1 ∧ (bd t).2 ≠ t) := by
 intro t
 induction t with
 | nil =>
  intro pre out F hbs ho htot
  rw [List.append_nil] at hbs
  have hl := hb.1
  rw [hbs] at hl
  refine ⟨d, ?_, h.mono (Nat.le_succ _), .inl ⟨rfl, rfl⟩⟩
  rw [jt]
  generalize loopN bv (F + ([] : Bs).length) = f
  unfold bv d5
  simp only [Bool.true_and]
  by_cases hlt : pre.length < 999999
  ·have hm := hb.2 (pre.length + 1) (by omega) (by omega)
   rw [hbs, Nat.add_sub_cancel, List.getElem?_eq_none (Nat.le_refl _)] at hm
   have hsz := qw hnm hg (show pre.length + 1 ≤ 999999 by omega)
   rw [bm (by rw [decide_eq_true_eq]; omega), bM (by unfold I64; omega), show (pre.length : Int) + 1 = ((pre.length + 1 : Nat) : Int) by omega, vx hnm hg (by omega), Option.bind_some, aD (by rw [aJ, decide_eq_true_eq]; omega), e_Rd h hR, Option.bind_some, hm, bm (by rfl)]
   simp [bd, lg]
  ·rw [ax (by rw [decide_eq_false_iff_not]; omega)]
   simp [bd, lg]
 | cons b t ih =>
  intro pre out F hbs ho htot
  have hl := hb.1
  rw [hbs, List.length_append, List.length_cons] at hl
  have hm := hb.2 (pre.length + 1) (by omega) (by omega)
  rw [hbs, Nat.add_sub_cancel, List.getElem?_append_right (Nat.le_refl _), Nat.sub_self] at hm
  have hm : mget (fn nm g (pre.length + 1)) d.seen = some b := hm
  have hfb : fb d (fn nm g (pre.length + 1)) = b := by unfold fb; rw [hm]; rfl
  have hsz := qw hnm hg (show pre.length + 1 ≤ 999999 by omega)
  have hbl : b.length ≤ lim := by have := xl h hR (fn nm g (pre.length + 1)); rwa [hfb] at this
  obtain ⟨e, he⟩ := As hbl
  have ha := wb b
  rw [kj] at ho htot
  have hRv : R ≤ 1073741824 := hR
  obtain ⟨s1, s2⟩ := wA h hR hN nm (g : Int) (fn nm g (pre.length + 1)) (allB b).2.1
  rw [show F + (b :: t).length + 1 = (F + t.length + 1) + 1 by simp; omega, jt]
  generalize hf : loopN bv (F + t.length + 1) = f
  unfold bv
  simp only [Bool.true_and]
  rw [bm (by rw [decide_eq_true_eq]; omega), bM (x := (pre.length : Int) + 1) (by unfold I64; omega), show (pre.length : Int) + 1 = ((pre.length + 1 : Nat) : Int) by omega, vx hnm hg (by omega), Option.bind_some, aD (by rw [aJ, decide_eq_true_eq]; omega), e_Rd h hR, Option.bind_some, hm]
  simp only [Option.isSome_some, Option.getD_some, Bool.not_true]
  rw [ax rfl, he, Option.bind_some]
  simp only
  rw [s1, Option.bind_some, aD (by rw [aJ, decide_eq_true_eq]; omega), bM (by unfold I64; omega)]
  unfold bd
  by_cases hw : (allB b).2.1 = b.length
  ·rw [if_pos hw]
   have hd : l4 d (fn nm g (pre.length + 1)) (allB b).2.1 = d := tX (by rw [hfb]; omega)
   rw [hd, hw, show (((b.length : Nat) : Int) == ((b.length : Nat) : Int)) = true by simp, ← hf]
   obtain ⟨d', i1, i2, i3⟩ := ih (pre ++ [b]) (out ++ (allB b).1) F (by rw [hbs]; simp) (by simp; omega) (by rw [qB, kj]; simp [tot] at htot ⊢; omega)
   refine ⟨d', ?_, i2, ?_⟩
   ·have e1 : (⟨nm, (g : Int), size, ((pre.length + 1 : Nat) : Int), ((b.length : Nat) : Int), 0, (tot pre : Int) + ((b.length : Nat) : Int)⟩ : af) = ⟨nm, (g : Int), size, ((pre ++ [b]).length : Int), ((fe (pre ++ [b])).length : Int), 0, (tot (pre ++ [b]) : Int)⟩ := by
     rw [kl, qB, kj]; simp [tot]
    rw [e1, i1]
    simp [List.append_assoc]
   ·rcases i3 with ⟨a1, a2⟩ | ⟨a0, a1, a2⟩
    ·exact .inl ⟨by rw [a1], a2⟩
    ·refine .inr ⟨by simp, fun k => ?_, a2.1, fun e => a2.2 (List.cons.inj e).2⟩
     rw [a1 k]
     have e2 : (pre ++ [b]).length + (bd t).2.length = pre.length + (b :: (bd t).2).length := by simp; omega
     have e3 : fe (b :: (bd t).2) = fe (bd t).2 := by
      cases hq : (bd t).2 with
      | nil => rw [hq] at a0; exact absurd a0 (Nat.lt_irrefl 0)
      | cons x l => simp [fe]
     rw [e2, e3]
  ·rw [if_neg hw]
   have hlt : (allB b).2.1 < (fb d (fn nm g (pre.length + 1))).length := by rw [hfb]; omega
   have hok := tc hnm hg (show pre.length + 1 ≤ 999999 by omega)
   refine ⟨_, ?_, s2, .inr ⟨by simp, fun k => ?_, (qI hok hlt).2, fun e => ?_⟩⟩
   ·rw [show ((((allB b).2.1 : Nat) : Int) == ((b.length : Nat) : Int)) = false by rw [beq_eq_false_iff_ne]; omega, ← hf, jt]
    generalize loopN bv (F + t.length) = f2
    unfold bv d5
    simp only [Bool.false_and]
    rw [ax rfl]
    unfold lg
    rw [kl, qB, kj]
    simp [tot, List.length_take]
    omega
   ·rw [vA hok hlt k, hfb]
    rfl
   ·have := congrArg List.length (List.cons.inj e).1
    rw [List.length_take] at this
    omega
theorem AU (h : DI R N d) (hR : R ≤ MX) (hN : N + 1 ≤ lim) {nm : ByteArray} (hnm : Nm nm) {g : Nat} (hg : g ≤ 999999) {size : Int} {bs : Bs} (hb : Has nm g bs d.seen) :
  ∃ d', gn (⟨nm, (g : Int), size, 0, 0, 0, 0⟩ : af) d = some (lg nm g size (bd bs).2 (bd bs).1.length, d', (bd bs).1) ∧ DI R (N + 1) d' ∧
   ((bd bs).2 = bs ∧ d' = d ∨ 0 < (bd bs).2.length ∧ (∀ k, mget k d'.seen = if k = fn nm g (bd bs).2.length then some (fe (bd bs).2) else mget k d.seen) ∧ d'.loose.length = d.loose.length + 1 ∧ (bd bs).2 ≠ bs) := by
 have h1 := hb.sz hnm h.nk
 have h2 := h.sz
 have h3 := hb.1
 obtain ⟨F, hF⟩ : ∃ F, FU = F + bs.length + 1 := ⟨FU - bs.length - 1, by unfold FU; omega⟩
 have := xi h hR hN hnm hg (size := size) hb bs [] [] F rfl (by simp; omega) (by show 0 + tot bs ≤ R; omega)
 unfold gn
 rw [hF]
 simpa [fe, tot] using this
end
end Fw
end Go.Proofs.YtlfmppjcgaekhaaGreat
namespace Go.Proofs.YtlfmppjcgaekhaaGreat
namespace Fw
set_option linter.unusedVariables false
set_option linter.unusedSimpArgs false
set_option linter.unusedSectionVars false
theorem u6 : ∀ (bs : Bs) (i : Nat), i + 1 < (bd bs).2.length → (bd bs).2[i]? = bs[i]?
 | [], i, h => by simp [bd] at h
 | b :: t, i, h => by
  unfold bd at h ⊢
  split
  ·rename_i hc
   rw [if_pos hc] at h
   cases i with
   | zero => rfl
   | succ i =>
    simp only [List.length_cons] at h
    simp only [List.getElem?_cons_succ]
    exact u6 t i (by omega)
  ·rename_i hc
   rw [if_neg hc] at h
   simp at h
theorem rl {bs : Bs} (h : 0 < bs.length) : bs[bs.length - 1]? = some (fe bs) := by
 rcases List.eq_nil_or_concat bs with e | ⟨l, b, e⟩
 ·rw [e] at h; exact absurd h (Nat.lt_irrefl 0)
 ·rw [e, List.concat_eq_append, kl]; simp
def Own1 (nm : ByteArray) (g : Nat) (es : Mp) : Prop := ∀ k, (mget k es).isSome = true → pf nm k = none ∨ ∃ j, 1 ≤ j ∧ j ≤ 999999 ∧ k = fn nm g j
theorem nO {nm : ByteArray} {q : Int → Int → Bool} {es : Mp} (h : ∀ k, (mget k es).isSome = true → (pf nm k).any (fun x => q x.1 x.2) = false) : hJ nm q es = [] := by
 apply List.eq_nil_iff_forall_not_mem.2
 intro k hk
 obtain ⟨a, b⟩ := lR.1 hk
 rw [h k a] at b; cases b
section
variable {R N : Nat} {d : Dk}
theorem BH (h : DI R N d) (hR : R ≤ MX) (hN : 4 * N + 10 ≤ lim) {nm : ByteArray} (hnm : Nm nm) (hk : Ks d.seen) (size : Int) {gl : Bs} {e0 : Int} {g : Nat} {bs : Bs} (hg : g ≤ 999999)
  (hm : allB (fb d (mn nm)) = (gl, (fb d (mn nm)).length, e0)) (hh : uw 0 gl = some g) (hb : Has nm g bs d.seen) (hx : Own1 nm g d.seen) :
  ∃ d', fN d nm size = some (d', some (lg nm g (max size 16) (bd bs).2 (bd bs).1.length), (bd bs).1, 0) ∧ DI R (4 * N + 10) d' ∧ Has nm g (bd bs).2 d'.seen ∧
   (∀ k, (∀ j, 1 ≤ j → j ≤ 999999 → k ≠ fn nm g j) → mget k d'.seen = mget k d.seen) ∧ (∀ k, (mget k d'.seen).isSome = true → (mget k d.seen).isSome = true) ∧ (d' = d ∨ d'.loose = []) ∧ ((bd bs).2 = bs → d' = d) := by
 have hlo := hnm.lo
 have hhi := hnm.hi
 have hms := wB hnm
 have hsl := (tY bs).2.2
 have hbl := hb.1
 unfold fN
 have c1 : (decide (((nm.size : Nat) : Int) < 1) || decide (2 < ((nm.size : Nat) : Int))) = false := by simp; omega
 rw [c1, show (!false) = true from rfl, zb hnm]
 unfold dM
 rw [bm rfl, Option.bind_some, show (false || false) = false from rfl, ax rfl, e_holds h hR hnm 0, Option.bind_some, hm, hh]
 unfold yk ga
 simp only
 rw [ax (by decide), Option.bind_some, yw, Option.bind_some, aD (by rw [aJ, decide_eq_true_eq]; omega)]
 rw [(wA h hR (by omega) nm (g : Int) (mn nm) (fb d (mn nm)).length).1, Option.bind_some, tX (Nat.le_refl _)]
 have q1 : hJ nm (fun x _ => x != (g : Int)) d.seen = [] := nO fun k hks => by
  rcases hx k hks with e | ⟨j, j1, j2, e⟩
  ·rw [e]; rfl
  ·rw [e, sI ⟨hg, j1, j2⟩]; simp
 have r1 := (uu h hR (by omega) (nm := nm) hhi hk (pred := fun x y => fH x y (g : Int)) (q := fun x _ => x != (g : Int)) (fun a b => rfl) (g : Int)).1
 rw [q1] at r1
 have r1 : cd d nm (g : Int) (fun x y => fH x y (g : Int)) = some d := r1
 rw [r1, Option.bind_some]
 obtain ⟨d1, s1, s2, s3⟩ := AU h hR (by omega) hnm hg (size := max size 16) hb
 rw [s1, Option.bind_some]
 simp only
 have hk1 : Ks d1.seen ∧ (∀ k, (mget k d1.seen).isSome = true → (mget k d.seen).isSome = true) ∧ (∀ k, (∀ j, 1 ≤ j → j ≤ 999999 → k ≠ fn nm g j) → mget k d1.seen = mget k d.seen) := by
  rcases s3 with ⟨a, b⟩ | ⟨a0, a, b, hne⟩
  ·rw [b]; exact ⟨hk, fun k hks => hks, fun k _ => rfl⟩
  ·have hin : (mget (fn nm g (bd bs).2.length) d.seen).isSome = true := by
    rw [hb.2 _ (by omega) (by omega), List.getElem?_eq_getElem (by omega)]; rfl
   have hsub : ∀ k, (mget k d1.seen).isSome = true → (mget k d.seen).isSome = true := fun k hks => by
    rw [a k] at hks
    split at hks
    ·rename_i e; rw [e]; exact hin
    ·exact hks
   exact ⟨fun k hks => hk k (hsub k hks), hsub, fun k hj => by rw [a k, if_neg (hj _ (by omega) (by omega))]⟩
 have r2 := uu s2 hR (by omega) (nm := nm) hhi hk1.1 (pred := fun x y => ik x y (lg nm g (max size 16) (bd bs).2 (bd bs).1.length)) (q := fun _ n => decide ((((bd bs).2.length : Nat) : Int) < n)) (fun a b => rfl) (g : Int)
 rw [r2.1, Option.bind_some, Option.bind_some]
 have hrem := zG (nm := nm) (q := fun _ n => decide ((((bd bs).2.length : Nat) : Int) < n)) s2 hk1.1
 have dd := r2.2
 generalize hD : remL d1 (hJ nm (fun _ n => decide ((((bd bs).2.length : Nat) : Int) < n)) d1.seen) = D at hrem dd ⊢
 have f1 : Has nm g (bd bs).2 D.seen := by
  refine ⟨by omega, fun k k1 k2 => ?_⟩
  rw [hrem.1, sI ⟨hg, k1, k2⟩]
  simp only [Option.any_some, decide_eq_true_eq]
  by_cases hc : (((bd bs).2.length : Nat) : Int) < (k : Int)
  ·rw [if_pos hc, List.getElem?_eq_none (by omega)]
  ·rw [if_neg hc]
   rcases s3 with ⟨a, b⟩ | ⟨a0, a, b, hne⟩
   ·rw [b, hb.2 k k1 k2, a]
   ·rw [a]
    by_cases hl : k = (bd bs).2.length
    ·rw [if_pos (by rw [hl]), hl, rl a0]
    ·rw [if_neg (fun e => hl (tj hnm hnm e).2.2), hb.2 k k1 k2, u6 bs (k - 1) (by omega)]
 have f2 : ∀ k, (∀ j, 1 ≤ j → j ≤ 999999 → k ≠ fn nm g j) → mget k D.seen = mget k d.seen := fun k hj => by
  rw [hrem.1, hk1.2.2 k hj]
  split
  ·rename_i hc
   cases hs : mget k d.seen with
   | none => rfl
   | some v =>
    rcases hx k (by rw [hs]; rfl) with e | ⟨j, j1, j2, e⟩
    ·rw [e] at hc; cases hc
    ·exact absurd e (hj j j1 j2)
  ·rfl
 have f3 : ∀ k, (mget k D.seen).isSome = true → (mget k d.seen).isSome = true := fun k hks => by
  rw [hrem.1] at hks
  split at hks
  ·cases hks
  ·exact hk1.2.1 k hks
 have f4 : D = d ∨ D.loose.length ≠ d.loose.length := by
  rcases s3 with ⟨a, b⟩ | ⟨a0, a, b, hne⟩
  ·left
   have q2 : hJ nm (fun _ n => decide ((((bd bs).2.length : Nat) : Int) < n)) d1.seen = [] := nO fun k hks => by
    rw [b] at hks
    rcases hx k hks with e | ⟨j, j1, j2, e⟩
    ·rw [e]; rfl
    ·rw [e] at hks ⊢
     rw [hb.2 j j1 j2] at hks
     rw [sI ⟨hg, j1, j2⟩, a]
     simp only [Option.any_some, decide_eq_false_iff_not]
     intro hlt
     rw [List.getElem?_eq_none (by omega)] at hks; cases hks
   rw [← hD, q2, b]; rfl
  ·right; omega
 have f5 : (bd bs).2 = bs → D = d := fun hw => by
  rcases s3 with ⟨a, b⟩ | ⟨a0, a, b, hne⟩
  ·rcases f4 with e | e
   ·exact e
   ·exfalso
    apply e
    have q2 : hJ nm (fun _ n => decide ((((bd bs).2.length : Nat) : Int) < n)) d1.seen = [] := nO fun k hks => by
     rw [b] at hks
     rcases hx k hks with e | ⟨j, j1, j2, e⟩
     ·rw [e]; rfl
     ·rw [e] at hks ⊢
      rw [hb.2 j j1 j2] at hks
      rw [sI ⟨hg, j1, j2⟩, a]
      simp only [Option.any_some, decide_eq_false_iff_not]
      intro hlt
      rw [List.getElem?_eq_none (by omega)] at hks; cases hks
    rw [← hD, q2, b]; rfl
  ·exact absurd hw hne
 by_cases hz : D.loose.length = d.loose.length
 ·have e : D = d := f4.elim id (fun hc => absurd hz hc)
  rw [ax (by rw [bne_eq_false_iff_eq]; omega)]
  unfold eV
  exact ⟨D, rfl, dd.mono (by omega), f1, f2, f3, .inl e, f5⟩
 ·rw [bm (by rw [bne_iff_ne]; omega), qS, Option.bind_some]
  unfold eV
  exact ⟨nj D, rfl, (DI.sync dd).mono (by omega), f1, f2, f3, .inr rfl, fun hw => absurd (by rw [f5 hw]) hz⟩
end
end Fw
end Go.Proofs.YtlfmppjcgaekhaaGreat
namespace Go.Proofs.YtlfmppjcgaekhaaGreat
namespace Fw
set_option linter.unusedVariables false
set_option linter.unusedSimpArgs false
set_option linter.unusedSectionVars false
def gp (size : Int) (bs : Bs) (f : List UInt8) : Bool := decide (bs.length = 0) || (decide (0 < (fe bs).length) && decide (size - ((fe bs).length : Int) < (f.length : Int)))
def addP (size : Int) (bs : Bs) (f : List UInt8) : Bs := bif gp size bs f then bs ++ [f] else bs.dropLast ++ [fe bs ++ f]
def pnum (size : Int) (bs : Bs) (f : List UInt8) : Nat := bif gp size bs f then bs.length + 1 else bs.length
theorem ze {bs : Bs} (h : 0 < bs.length) : bs = bs.dropLast ++ [fe bs] := by
 rcases List.eq_nil_or_concat bs with e | ⟨l, b, e⟩
 ·rw [e] at h; exact absurd h (Nat.lt_irrefl 0)
 ·rw [e, List.concat_eq_append, kl]; simp
theorem mN {size : Int} {bs : Bs} {f : List UInt8} (h : gp size bs f = false) : 0 < bs.length := by
 unfold gp at h
 simp only [Bool.or_eq_false_iff, decide_eq_false_iff_not] at h
 omega
theorem yJ (size : Int) (bs : Bs) (f : List UInt8) : tot (addP size bs f) = tot bs + f.length := by
 unfold addP
 cases h : gp size bs f with
 | true => simp [tot]
 | false =>
  conv => rhs; rw [ze (mN h)]
  simp [tot]; omega
theorem mc (size : Int) (bs : Bs) (f : List UInt8) : (addP size bs f).length = pnum size bs f := by
 unfold addP pnum
 cases h : gp size bs f with
 | true => simp
 | false => have := mN h; simp; omega
theorem sx (size : Int) (bs : Bs) (f : List UInt8) : fe (addP size bs f) = (bif gp size bs f then [] else fe bs) ++ f := by
 unfold addP
 cases h : gp size bs f with
 | true => simp [fe]
 | false => simp [fe]
theorem ue (size : Int) (bs : Bs) (f : List UInt8) : 1 ≤ pnum size bs f := by
 unfold pnum
 cases h : gp size bs f with
 | true => simp
 | false => have := mN h; simp only [cond_false]; omega
theorem sS (size : Int) (bs : Bs) (f : List UInt8) : pnum size bs f ≤ bs.length + 1 := by
 unfold pnum
 cases gp size bs f <;> simp
theorem zk {nm : ByteArray} {g : Nat} {size : Int} {bs : Bs} {es : Mp} {f : List UInt8} (hnm : Nm nm) (hb : Has nm g bs es) (hp : pnum size bs f ≤ 999999) :
  (mget (fn nm g (pnum size bs f)) es).getD [] = (bif gp size bs f then [] else fe bs) ∧ Has nm g (addP size bs f) (mput (fn nm g (pnum size bs f)) ((mget (fn nm g (pnum size bs f)) es).getD [] ++ f) es) := by
 have h1 := ue size bs f
 have hold : (mget (fn nm g (pnum size bs f)) es).getD [] = (bif gp size bs f then [] else fe bs) := by
  rw [hb.2 _ h1 hp]
  unfold pnum
  cases h : gp size bs f with
  | true => simp
  | false => simp only [cond_false]; rw [rl (mN h)]; rfl
 refine ⟨hold, by rw [mc]; exact hp, fun k k1 k2 => ?_⟩
 rw [k8, hold]
 by_cases hk : k = pnum size bs f
 ·have hl := rl (bs := addP size bs f) (by rw [mc]; omega)
  rw [mc] at hl
  rw [if_pos (by rw [hk]), hk, hl, sx]
 ·rw [if_neg (fun e => hk (tj hnm hnm e).2.2), hb.2 k k1 k2]
  unfold addP
  unfold pnum at hk
  cases h : gp size bs f with
  | true =>
   rw [h] at hk
   simp only [cond_true] at hk ⊢
   rcases Nat.lt_or_ge (k - 1) bs.length with hlt | hge
   ·rw [List.getElem?_append_left hlt]
   ·rw [List.getElem?_eq_none hge, List.getElem?_eq_none (by simp; omega)]
  | false =>
   have hpos := mN h
   rw [h] at hk
   simp only [cond_false] at hk ⊢
   rcases Nat.lt_or_ge (k - 1) (bs.length - 1) with hlt | hge
   ·rw [List.getElem?_append_left (by simpa using hlt), List.getElem?_dropLast, if_pos hlt]
   ·rw [List.getElem?_eq_none (by omega), List.getElem?_eq_none (by simp; omega)]
section
variable {R N : Nat} {d : Dk}
def dAdd (d : Dk) (nm : ByteArray) (g : Nat) (size : Int) (bs : Bs) (f : List UInt8) : Dk := s6 d ⟨.disk_add_1 (fn nm g (pnum size bs f)) f, fn nm g (pnum size bs f), f⟩
inductive AppR (R : Nat) (d : Dk) (nm : ByteArray) (g : Nat) (size : Int) (bs : Bs) (cnt : Nat) (x : List UInt8) : af × Dk × Int → Prop
 | long : 1048576 < x.length → AppR R d nm g size bs cnt x (lg nm g size bs cnt, d, 3)
 | many : x.length ≤ 1048576 → 999999 < pnum size bs (fr x) → AppR R d nm g size bs cnt x (lg nm g size bs cnt, d, 72)
 | full : x.length ≤ 1048576 → pnum size bs (fr x) ≤ 999999 → R < Fw.sz d.seen + (fr x).length → AppR R d nm g size bs cnt x (lg nm g size bs cnt, d, 72)
 | ok : x.length ≤ 1048576 → pnum size bs (fr x) ≤ 999999 → Fw.sz d.seen + (fr x).length ≤ R → AppR R d nm g size bs cnt x (lg nm g size (addP size bs (fr x)) (cnt + 1), dAdd d nm g size bs (fr x), 0)
theorem xz (d : Dk) (nm : ByteArray) (g : Nat) (size : Int) (bs : Bs) (f : List UInt8) : (dAdd d nm g size bs f).seen = mput (fn nm g (pnum size bs f)) ((mget (fn nm g (pnum size bs f)) d.seen).getD [] ++ f) d.seen := rfl
theorem Bx (h : DI R N d) (hR : R ≤ MX) (hN : N + 1 ≤ lim) {nm : ByteArray} (hnm : Nm nm) {g : Nat} (hg : g ≤ 999999) {size : Int} (hs0 : 0 ≤ size) (hs1 : size ≤ 9223372036854775807) {bs : Bs} (hb : Has nm g bs d.seen) {cnt : Nat} (hc : cnt ≤ 4611686018427387904) (x : List UInt8) :
  ∃ r, b4 (lg nm g size bs cnt) x d = some r ∧ AppR R d nm g size bs cnt x r ∧ DI R (N + 1) r.2.1 := by
 have h1 := hb.sz hnm h.nk
 have h2 := h.sz
 have h3 := wd bs
 have hRv : R ≤ 1073741824 := hR
 have hbl := hb.1
 unfold b4
 by_cases hl : 1048576 < x.length
 ·rw [v6 hl, Option.bind_some]
  exact ⟨_, rfl, .long hl, h.mono (Nat.le_succ _)⟩
 ·have hx : x.length ≤ 1048576 := by omega
  have hfl := rt x
  have hp3 := pn3 hx
  rw [BQ hx, Option.bind_some]
  simp only
  rw [ax (by decide)]
  have hfr : (((lg nm g size bs cnt).last == 0) || ((decide (0 < (lg nm g size bs cnt).tail)) && (decide ((w64 ((lg nm g size bs cnt).size - (lg nm g size bs cnt).tail)) < (((fr x).length : Nat) : Int))))) = gp size bs (fr x) := by
   unfold lg gp
   simp only
   rw [bM (by unfold I64; omega), Bool.eq_iff_iff]
   simp only [Bool.or_eq_true, Bool.and_eq_true, beq_iff_eq, decide_eq_true_eq]
   omega
  rw [hfr]
  have key : ∀ (p : Nat) (t : Int), p = pnum size bs (fr x) → t = (((bif gp size bs (fr x) then [] else fe bs).length : Nat) : Int) → ∃ r, cE (lg nm g size bs cnt) d (fr x, 0) (p : Int) t = some r ∧ AppR R d nm g size bs cnt x r ∧ DI R (N + 1) r.2.1 := by
   intro p t hp ht
   unfold cE
   by_cases hm : 999999 < p
   ·rw [bm (by rw [decide_eq_true_eq]; omega)]
    exact ⟨_, rfl, .many hx (by omega), h.mono (Nat.le_succ _)⟩
   ·have hsz := qw hnm hg (show p ≤ 999999 by omega)
    rw [ax (by rw [decide_eq_false_iff_not]; omega)]
    show ∃ r, Option.bind (cH nm (g : Int) (g : Int) (p : Int)) _ = some r ∧ _
    rw [vx hnm hg (by omega), Option.bind_some, aD (by rw [aJ, decide_eq_true_eq]; omega)]
    obtain ⟨a1, a2⟩ := BT h hR hN (fn nm g p) (fr x)
    rw [a1, Option.bind_some]
    have hok := tc hnm hg (show p ≤ 999999 by omega)
    unfold dApp at a2 ⊢
    rw [hok] at a2 ⊢
    rw [show (!true) = false from rfl, ax rfl] at a2 ⊢
    by_cases hroom : R < Fw.sz d.seen + (fr x).length
    ·rw [bm (by rw [decide_eq_true_eq, h.rd]; omega)]
     exact ⟨_, rfl, .full hx (by omega) hroom, h.mono (Nat.le_succ _)⟩
    ·have hq : decide (d.room - (Fw.sz d.seen : Int) < ((fr x).length : Int)) = false := by rw [decide_eq_false_iff_not, h.rd]; omega
     rw [hq, ax rfl] at a2 ⊢
     unfold fy
     simp only
     rw [ax (by decide)]
     have el : (⟨(lg nm g size bs cnt).place_name, (lg nm g size bs cnt).place_gen, (lg nm g size bs cnt).size, (p : Int), w64 (t + (((fr x).length : Nat) : Int)), w64 ((lg nm g size bs cnt).count + 1), w64 ((lg nm g size bs cnt).bytes + (((fr x).length : Nat) : Int))⟩ : af) = lg nm g size (addP size bs (fr x)) (cnt + 1) := by
      have ht2 : t + (((fr x).length : Nat) : Int) = (((fe (addP size bs (fr x))).length : Nat) : Int) := by rw [sx, ht]; simp
      have hlt := wd (addP size bs (fr x))
      have htt := yJ size bs (fr x)
      unfold lg
      simp only
      rw [mc, ht2, htt, bM (by unfold I64; omega), bM (by unfold I64; omega), bM (by unfold I64; omega), hp]
      rfl
     rw [el]
     subst hp
     exact ⟨_, rfl, .ok hx (by omega) (by omega), a2⟩
  cases hq : gp size bs (fr x) with
  | true =>
   rw [bm rfl]
   have e1 : w64 ((lg nm g size bs cnt).last + 1) = ((bs.length + 1 : Nat) : Int) := by
    unfold lg; simp only; rw [bM (by unfold I64; omega)]; rfl
   rw [e1]
   exact key _ _ (by unfold pnum; rw [hq]; rfl) (by rw [hq]; rfl)
  | false =>
   rw [ax rfl]
   exact key bs.length _ (by unfold pnum; rw [hq]; rfl) (by rw [hq]; rfl)
theorem AppR.has {nm : ByteArray} {g : Nat} {size : Int} {bs : Bs} (hnm : Nm nm) (hb : Has nm g bs d.seen) {f : List UInt8} (hp : pnum size bs f ≤ 999999) : Has nm g (addP size bs f) (dAdd d nm g size bs f).seen := (zk hnm hb hp).2
theorem x3 {nm : ByteArray} {g : Nat} {size : Int} {bs : Bs} {f : List UInt8} {k : ByteArray} (hk : k ≠ fn nm g (pnum size bs f)) : mget k (dAdd d nm g size bs f).seen = mget k d.seen := by
 rw [xz, k8, if_neg hk]
end
end Fw
end Go.Proofs.YtlfmppjcgaekhaaGreat
namespace Go.Proofs.YtlfmppjcgaekhaaGreat
namespace Fw
set_option linter.unusedVariables false
set_option linter.unusedSimpArgs false
set_option linter.unusedSectionVars false
theorem lF {α S R : Type} [Inhabited α] {body : (S → Option R) → Nat → α → S → Option R} {K : S → Option R} {P : R → Prop} {l : List α} (I : Nat → S → Prop) (hend : ∀ s, I l.length s → ∃ r, K s = some r ∧ P r)
  (hstep : ∀ f i s, i < l.length → I i s → (∀ s', I (i + 1) s' → ∃ r, f s' = some r ∧ P r) → ∃ r, body f i (gt l i) s = some r ∧ P r) {s : S} (h0 : I 0 s) : ∃ r, forI body K 0 l s = some r ∧ P r := by
 have key : ∀ m i s, l.length - i = m → i ≤ l.length → I i s → ∃ r, forI body K i (l.drop i) s = some r ∧ P r := by
  intro m
  induction m with
  | zero =>
   intro i s hm hi hI
   have : i = l.length := by omega
   subst this
   rw [List.drop_of_length_le (Nat.le_refl _)]
   exact hend s hI
  | succ m ih =>
   intro i s hm hi hI
   rw [js (by omega)]
   exact hstep _ i s (by omega) hI fun s' h' => ih (i + 1) s' (by omega) (by omega) h'
 exact key _ 0 s rfl (Nat.zero_le _) h0
def addR (size : Int) (rs : List Bs) (x : List UInt8) : List Bs := bif gp size (rs.map frs) (fr x) then rs ++ [[x]] else rs.dropLast ++ [rs.getLastD [] ++ [x]]
def lo (size : Int) (l : Bs) : List Bs := l.foldl (addR size) []
def bsOf (size : Int) (l : Bs) : Bs := (lo size l).map frs
theorem yv (rs : List Bs) : fe (rs.map frs) = frs (rs.getLastD []) := by
 rcases List.eq_nil_or_concat rs with e | ⟨l, b, e⟩
 ·rw [e]; rfl
 ·rw [e, List.concat_eq_append]; simp [fe]
theorem yI (size : Int) (rs : List Bs) (x : List UInt8) : (addR size rs x).map frs = addP size (rs.map frs) (fr x) := by
 unfold addR addP
 cases h : gp size (rs.map frs) (fr x) with
 | true => simp [frs]
 | false =>
  simp only [cond_false]
  rw [List.map_append, yv, List.map_dropLast]
  simp [zu, frs]
theorem x0 (size : Int) (rs : List Bs) (x : List UInt8) : (addR size rs x).flatten = rs.flatten ++ [x] := by
 unfold addR
 cases h : gp size (rs.map frs) (fr x) with
 | true => simp
 | false =>
  have hp := mN h
  rw [List.length_map] at hp
  simp only [cond_false]
  rcases List.eq_nil_or_concat rs with e | ⟨l, b, e⟩
  ·rw [e] at hp; exact absurd hp (Nat.lt_irrefl 0)
  ·rw [e, List.concat_eq_append]; simp
theorem vQ (size : Int) (l : Bs) (x : List UInt8) : lo size (l ++ [x]) = addR size (lo size l) x := by unfold lo; rw [List.foldl_append]; rfl
theorem wC (size : Int) (l : Bs) : (lo size l).flatten = l := by
 have key : ∀ (n : Nat) (l : Bs), l.length = n → (lo size l).flatten = l := by
  intro n
  induction n with
  | zero => intro l h; rw [List.eq_nil_of_length_eq_zero h]; rfl
  | succ n ih =>
   intro l h
   rcases List.eq_nil_or_concat l with e | ⟨m, b, e⟩
   ·rw [e] at h; cases h
   ·rw [List.concat_eq_append] at e
    rw [e, vQ, x0, ih m (by rw [e] at h; simpa using h)]
 exact key _ l rfl
theorem pT (size : Int) (l : Bs) (x : List UInt8) : bsOf size (l ++ [x]) = addP size (bsOf size l) (fr x) := by
 unfold bsOf
 rw [vQ, yI]
theorem qH : ∀ {rs : List Bs} (ex : Bs), (∀ l ∈ rs, Rk l) → bd (rs.map frs ++ ex) = (rs.flatten ++ (bd ex).1, rs.map frs ++ (bd ex).2)
 | [], ex, _ => rfl
 | l :: rs, ex, h => by
  rw [List.map_cons, List.cons_append, bd, xE (h l List.mem_cons_self), if_pos rfl, qH ex fun m hm => h m (List.mem_cons_of_mem _ hm)]
  simp
theorem C4 {size : Int} {l : Bs} (h : Rk l) : ∀ m ∈ lo size l, Rk m := fun m hm x hx => h x (by
 have := wC size l
 rw [← this]; exact List.mem_flatten.2 ⟨m, hm, hx⟩)
theorem wZ (size : Int) {l : Bs} (h : Rk l) : bd (bsOf size l) = (l, bsOf size l) := by
 have := qH (rs := lo size l) [] (C4 h)
 rw [List.append_nil] at this
 unfold bsOf
 rw [this, wC]
 simp [bd]
section
variable {R N : Nat} {d : Dk}
structure Mid (R M : Nat) (d : Dk) (nm : ByteArray) (g : Nat) (bs : Bs) (e : Dk) : Prop where
 di : DI R M e
 has : Has nm g bs e.seen
 same : ∀ k, (∀ j, 1 ≤ j → j ≤ 999999 → k ≠ fn nm g j) → mget k e.seen = mget k d.seen
theorem Mid.ks {M : Nat} {nm : ByteArray} {g : Nat} {bs : Bs} {e : Dk} (h : Mid R M d nm g bs e) (hnm : Nm nm) (hg : g ≤ 999999) (hk : Ks d.seen) : Ks e.seen := fun k hks => by
 by_cases hc : ∀ j, 1 ≤ j → j ≤ 999999 → k ≠ fn nm g j
 ·rw [h.same k hc] at hks; exact hk k hks
 ·obtain ⟨j, hc⟩ := Classical.not_forall.1 hc
  obtain ⟨j1, hc⟩ := Classical.not_imp.1 hc
  obtain ⟨j2, hc⟩ := Classical.not_imp.1 hc
  rw [Classical.not_not.1 hc]; exact tc hnm hg j2
theorem yF (size : Int) (l : Bs) : (bsOf size l).length ≤ l.length := by
 have key : ∀ (n : Nat) (l : Bs), l.length = n → (bsOf size l).length ≤ l.length := by
  intro n
  induction n with
  | zero => intro l h; rw [List.eq_nil_of_length_eq_zero h]; exact Nat.le_refl _
  | succ n ih =>
   intro l h
   rcases List.eq_nil_or_concat l with e | ⟨m, b, e⟩
   ·rw [e] at h; cases h
   ·rw [List.concat_eq_append] at e
    have hm : m.length = n := by rw [e] at h; simpa using h
    have := ih m hm
    have h2 := sS size (bsOf size m) (fr b)
    rw [e, pT, mc, List.length_append]
    simp; omega
 exact key _ l rfl
theorem B0 {d : Dk} {nm : ByteArray} {g : Nat} {size : Int} {bs : Bs} {f : List UInt8} : Fw.sz (dAdd d nm g size bs f).seen = Fw.sz d.seen + f.length := sL
end
end Fw
end Go.Proofs.YtlfmppjcgaekhaaGreat
namespace Go.Proofs.YtlfmppjcgaekhaaGreat
namespace Fw
set_option linter.unusedVariables false
set_option linter.unusedSimpArgs false
set_option linter.unusedSectionVars false
def SpOk (x : Span) : Prop := 1 ≤ x.s ∧ x.s ≤ 16 ∧ 1 ≤ x.f ∧ x.f ≤ x.t ∧ x.t ≤ 4611686018427387904
structure VeOk (v : Ver) : Prop where
 s : 1 ≤ v.dot.s ∧ v.dot.s ≤ 16
 n : 1 ≤ v.dot.n ∧ v.dot.n ≤ 4611686018427387904
 pl : v.past.length ≤ 1024
 past : ∀ x ∈ v.past, SpOk x
 val : v.val.size ≤ 256
 gone : v.gone = true → v.val = ByteArray.empty
structure ReOk (r : Rec) : Prop where
 key : 1 ≤ r.key.size ∧ r.key.size ≤ 32
 vl : r.vers.length ≤ 512
 vers : ∀ v ∈ r.vers, VeOk v
theorem vK {α : Type} [Inhabited α] {l : List α} {i : Nat} (h : i < l.length) : gt l i ∈ l := by rw [bz h]; exact List.getElem_mem h
theorem xZ {α : Type} [Inhabited α] {l : List α} {p : α → Prop} (h : ∀ j, j < l.length → p (gt l j)) : ∀ x ∈ l, p x := fun x hx => by
 obtain ⟨j, hj, rfl⟩ := List.getElem_of_mem hx
 have := h j hj
 rwa [bz hj] at this
theorem AF (l : List Span) : ∃ b, gM l = some b ∧ (b = true → l.length ≤ 1024 ∧ ∀ x ∈ l, SpOk x) := by
 unfold gM
 refine lF (fun i _ => ∀ j, j < i → SpOk (gt l j)) (fun s hI => ⟨_, rfl, fun hb => ⟨by have := of_decide_eq_true hb; omega, xZ hI⟩⟩) (fun f i s hi hI hf => ?_) (fun j hj => absurd hj (Nat.not_lt_zero _))
 ·unfold ic
  cases hc : (((((((decide ((gt l i).s < 1)) || (decide (16 < (gt l i).s))) || (decide ((gt l i).f < 1))) || (decide ((gt l i).t < (gt l i).f))) || (decide (4611686018427387904 < (gt l i).t))) || (decide ((gt l i).s < s.s))) || (((gt l i).s == s.s) && (decide ((gt l i).f ≤ (w64 (s.t + 1)))))) with
  | true => exact ⟨false, rfl, fun h => by cases h⟩
  | false =>
   refine hf _ fun j hj => ?_
   rcases Nat.lt_or_ge j i with h | h
   ·exact hI j h
   ·obtain rfl : j = i := by omega
    simp only [Bool.or_eq_false_iff, decide_eq_false_iff_not] at hc
    obtain ⟨⟨⟨⟨⟨⟨h1, h2⟩, h3⟩, h4⟩, h5⟩, h6⟩, h7⟩ := hc
    clear h6 h7
    unfold SpOk
    omega
theorem BP (l : List Span) (s : Int) : ∃ n, lz l s = some n := by
 unfold lz
 obtain ⟨r, h, _⟩ := lF (body := kY s) (K := fun t => some t) (P := fun _ => True) (l := l) (fun _ _ => True) (fun s _ => ⟨_, rfl, trivial⟩) (fun f i t hi _ hf => by
  unfold kY jj
  cases (gt l i).s == s <;> exact hf _ trivial) (s := 0) trivial
 exact ⟨r, h⟩
theorem ul (v : Ver) : ∃ b, dX v = some b ∧ (b = true → VeOk v) := by
 unfold dX
 obtain ⟨a, a1, a2⟩ := AF [⟨v.dot.s, v.dot.n, v.dot.n⟩]
 obtain ⟨b, b1, b2⟩ := AF v.past
 obtain ⟨n, n1⟩ := BP v.past v.dot.s
 rw [a1, Option.bind_some, b1, jp, Option.bind_some, n1, jp, Option.bind_some]
 refine ⟨_, rfl, fun h => ?_⟩
 simp only [Bool.and_eq_true, decide_eq_true_eq, Bool.or_eq_true, Bool.not_eq_true', beq_iff_eq] at h
 obtain ⟨⟨⟨⟨h1, h2⟩, h3⟩, h4⟩, h5⟩ := h
 rw [h1] at h2
 have ha := (a2 h1).2 _ List.mem_cons_self
 unfold SpOk at ha
 simp only at ha
 have hb := b2 h2
 refine ⟨⟨ha.1, ha.2.1⟩, ⟨ha.2.2.1, ha.2.2.2.2⟩, hb.1, hb.2, by omega, fun hg => ?_⟩
 rcases h5 with h5 | h5
 ·rw [hg] at h5; cases h5
 ·exact h5
theorem wT (d : Dot) (l : List Ver) : ∃ b, jo d l = some b := by
 unfold jo
 obtain ⟨r, h, _⟩ := lF (body := je d) (K := fun _ => some false) (P := fun _ => True) (l := l) (fun _ _ => True) (fun s _ => ⟨_, rfl, trivial⟩) (fun f i t hi _ hf => by
  unfold je nN
  obtain ⟨z, h, _⟩ := lF (body := kR d) (K := fun _ => some false) (P := fun _ => True) (l := (gt l i).past) (fun _ _ => True) (fun s _ => ⟨_, rfl, trivial⟩) (fun f j t hi _ hf => by
   unfold kR
   cases (((gt (gt l i).past j).s == d.s) && (decide ((gt (gt l i).past j).f ≤ d.n))) && (decide (d.n ≤ (gt (gt l i).past j).t)) with
   | true => exact ⟨_, rfl, trivial⟩
   | false => exact hf _ trivial) (s := ()) trivial
  rw [h, Option.bind_some]
  cases z with
  | true => exact ⟨_, rfl, trivial⟩
  | false => exact hf _ trivial) (s := ()) trivial
 exact ⟨r, h⟩
theorem xa {l : List Ver} (hl : l.length ≤ lim) : ∃ b, gS l = some b ∧ (b = true → l.length ≤ 512 ∧ ∀ x ∈ l, VeOk x) := by
 rw [aJ] at hl
 unfold gS
 refine lF (fun i _ => ∀ j, j < i → VeOk (gt l j)) (fun s hI => ⟨_, rfl, fun hb => ⟨by have := of_decide_eq_true hb; omega, xZ hI⟩⟩) (fun f i s hi hI hf => ?_) (fun j hj => absurd hj (Nat.not_lt_zero _))
 ·unfold ij
  obtain ⟨a, a1, a2⟩ := ul (gt l i)
  obtain ⟨b, b1⟩ := wT (gt l i).dot l
  have e1 : w64 (((i : Nat) : Int) - 1) = ((i : Nat) : Int) - 1 := bM (by unfold I64; omega)
  have hc : imp ((!(!a)) && (decide (0 < ((i : Nat) : Int)))) (inb (w64 (((i : Nat) : Int) - 1)) l.length) = true := by
   rw [e1]
   by_cases h0 : 0 < ((i : Nat) : Int)
   ·have : inb (((i : Nat) : Int) - 1) l.length = true := by
     unfold inb
     rw [Bool.and_eq_true, decide_eq_true_eq, decide_eq_true_eq]
     clear e1 a1 a2 b1 hf hI
     omega
    rw [this]; cases a <;> cases decide (0 < ((i : Nat) : Int)) <;> rfl
   ·rw [decide_eq_false h0]; cases a <;> rfl
  rw [a1, Option.bind_some, aD hc, b1]
  unfold kZ
  rw [jp, Option.bind_some, jp, Option.bind_some]
  cases a with
  | false => exact ⟨_, rfl, fun h => by cases h⟩
  | true =>
   have hn : ∀ j, j < i + 1 → VeOk (gt l j) := fun j hj => by
    rcases Nat.lt_or_ge j i with h | h
    ·exact hI j h
    ·obtain rfl : j = i := by omega
     exact a2 rfl
   generalize hg : (((!true) || _) || _) = g
   cases g with
   | true => exact ⟨_, rfl, fun h => by cases h⟩
   | false => exact hf _ hn
theorem uI {r : Rec} (hl : r.vers.length ≤ lim) : ∃ b, aI r = some b ∧ (b = true → ReOk r) := by
 unfold aI
 obtain ⟨a, a1, a2⟩ := xa hl
 rw [a1, jp, Option.bind_some]
 refine ⟨_, rfl, fun h => ?_⟩
 simp only [Bool.and_eq_true, decide_eq_true_eq] at h
 obtain ⟨⟨h1, h2⟩, h3⟩ := h
 have hc : ((decide (1 ≤ ((r.key.size : Nat) : Int))) && (decide (((r.key.size : Nat) : Int) ≤ 32))) = true := by rw [Bool.and_eq_true, decide_eq_true_eq, decide_eq_true_eq]; exact ⟨h1, h2⟩
 rw [hc] at h3
 have := a2 h3
 exact ⟨⟨by omega, by omega⟩, this.1, this.2⟩
def pz (n : Int) : List UInt8 := pn n.toNat
def spB (x : Span) : List UInt8 := pz x.s ++ (pz x.f ++ pz (x.t - x.f))
def spsB (l : List Span) : List UInt8 := pz l.length ++ (l.map spB).flatten
def txB (s : ByteArray) : List UInt8 := pz s.size ++ s.data.toList
def veB (v : Ver) : List UInt8 := pz v.dot.s ++ (pz v.dot.n ++ (spsB v.past ++ (bif v.gone then pz 1 else pz 0 ++ txB v.val)))
def vesB (l : List Ver) : List UInt8 := pz l.length ++ (l.map veB).flatten
def reB (r : Rec) : List UInt8 := txB r.key ++ vesB r.vers
theorem bo {n : Int} (h : n ≤ 4611686018427387904) : (pz n).length ≤ 9 := uZ 8 _ (by omega)
theorem ve (n : Int) : 0 < (pz n).length := yT _
theorem p7 {α : Type} {e : α → List UInt8} {c : Nat} : ∀ {l : List α}, (∀ x ∈ l, (e x).length ≤ c) → ((l.map e).flatten).length ≤ c * l.length
 | [], _ => Nat.le_refl _
 | x :: l, h => by
  have h1 := h x List.mem_cons_self
  have h2 := p7 (l := l) fun y hy => h y (List.mem_cons_of_mem _ hy)
  rw [List.map_cons, List.flatten_cons, List.length_append, List.length_cons, Nat.mul_add]; omega
theorem qA {α : Type} {e : α → List UInt8} : ∀ {l : List α}, (∀ x ∈ l, 0 < (e x).length) → l.length ≤ ((l.map e).flatten).length
 | [], _ => Nat.le_refl _
 | x :: l, h => by
  have h1 := h x List.mem_cons_self
  have h2 := qA (l := l) fun y hy => h y (List.mem_cons_of_mem _ hy)
  rw [List.map_cons, List.flatten_cons, List.length_append, List.length_cons]; omega
theorem zp {x : Span} (h : SpOk x) : (spB x).length ≤ 27 := by
 obtain ⟨h1, h2, h3, h4, h5⟩ := h
 have a := bo (n := x.s) (by omega)
 have b := bo (n := x.f) (by omega)
 have c := bo (n := x.t - x.f) (by omega)
 unfold spB; simp only [List.length_append]; omega
theorem zQ (x : Span) : 0 < (spB x).length := by
 have := ve x.s
 unfold spB; simp only [List.length_append]; omega
theorem vV {s : ByteArray} (h : s.size ≤ 256) : (txB s).length ≤ 265 := by
 have a := bo (n := (s.size : Int)) (by omega)
 have b : s.data.toList.length = s.size := rfl
 unfold txB; simp only [List.length_append]; omega
theorem zj {v : Ver} (h : VeOk v) : (veB v).length ≤ 28000 := by
 have a := bo (n := v.dot.s) (by have := h.s; omega)
 have b := bo (n := v.dot.n) h.n.2
 have hp := h.pl
 have c := bo (n := (v.past.length : Int)) (by omega)
 have d := p7 (e := spB) (c := 27) (l := v.past) fun x hx => zp (h.past x hx)
 have e1 := bo (n := 1) (by omega)
 have e0 := bo (n := 0) (by omega)
 have f := vV h.val
 have g : (bif v.gone then pz 1 else pz 0 ++ txB v.val).length ≤ 274 := by cases v.gone <;> simp only [cond_true, cond_false, List.length_append] <;> omega
 unfold veB spsB; simp only [List.length_append]; omega
theorem zT (v : Ver) : 0 < (veB v).length := by
 have := ve v.dot.s
 unfold veB; simp only [List.length_append]; omega
theorem mT {r : Rec} (h : ReOk r) : (reB r).length ≤ 14400000 := by
 have hk := h.key
 have hv := h.vl
 have a := vV (s := r.key) (by omega)
 have c := bo (n := (r.vers.length : Int)) (by omega)
 have d := p7 (e := veB) (c := 28000) (l := r.vers) fun x hx => zj (h.vers x hx)
 unfold reB vesB; simp only [List.length_append]; omega
theorem wm {b : List UInt8} {n : Int} (h0 : 0 ≤ n) (h1 : n ≤ 4611686018427387904) (hb : b.length + (pz n).length ≤ lim) : cx ⟨b⟩ n = some ⟨b ++ pz n⟩ := by
 unfold cx
 obtain ⟨m, rfl⟩ : ∃ m : Nat, n = (m : Int) := ⟨n.toNat, by omega⟩
 rw [nU (by omega), Option.bind_some]
 exact aD (decide_eq_true hb)
theorem sj {b : List UInt8} {n : Int} (h0 : 0 ≤ n) (h1 : n ≤ 4611686018427387904) (hb : b.length + (pz n).length ≤ lim) : bH ⟨b⟩ n = some ⟨b ++ pz n⟩ := by
 unfold bH
 rw [wm h0 h1 hb]; rfl
theorem xn {b : List UInt8} {s : ByteArray} (h : s.size ≤ 256) (hb : b.length + (txB s).length ≤ lim) : dF ⟨b⟩ s = some ⟨b ++ txB s⟩ := by
 unfold dF kS
 have hl : s.data.toList.length = s.size := rfl
 have hx : (txB s).length = (pn s.size).length + s.size := by unfold txB pz; rw [List.length_append, hl, Int.toNat_natCast]
 rw [nU (by omega), Option.bind_some, aD (decide_eq_true (by omega)), Option.bind_some]
 exact aD (decide_eq_true hb)
theorem AQ {b : List UInt8} {x : Span} (h : SpOk x) (hb : b.length + (spB x).length ≤ lim) : dC ⟨b⟩ x = some ⟨b ++ spB x⟩ := by
 obtain ⟨h1, h2, h3, h4, h5⟩ := h
 have e : (spB x).length = (pz x.s).length + ((pz x.f).length + (pz (x.t - x.f)).length) := by unfold spB; simp only [List.length_append]
 unfold dC
 rw [sj (by omega) (by omega) (by omega), Option.bind_some, wm (by omega) (by omega) (by rw [List.length_append]; omega), Option.bind_some, bM (x := x.t - x.f) (by unfold I64; omega),
  wm (by omega) (by omega) (by rw [List.length_append, List.length_append]; omega), Option.bind_some]
 unfold spB
 rw [List.append_assoc, List.append_assoc]
theorem wi : ∀ {l : List Span} {b : List UInt8} (i : Nat), (∀ x ∈ l, SpOk x) → b.length + ((l.map spB).flatten).length ≤ lim → forI bO (fun o => some o) i l ⟨b⟩ = some ⟨b ++ (l.map spB).flatten⟩
 | [], b, i, _, _ => by show some (⟨b⟩ : ae) = some ⟨b ++ []⟩; rw [List.append_nil]
 | x :: l, b, i, h, hb => by
  rw [List.map_cons, List.flatten_cons, List.length_append] at hb
  show bO (forI bO (fun o => some o) (i + 1) l) i x ⟨b⟩ = _
  unfold bO
  rw [AQ (h x List.mem_cons_self) (by omega), Option.bind_some]
  rw [show (fun f14 i15 ei15 o11 => Option.bind (dC o11 ei15) fun z22 => f14 z22) = bO from rfl]
  rw [wi (i + 1) (fun y hy => h y (List.mem_cons_of_mem _ hy)) (by rw [List.length_append]; omega), List.map_cons, List.flatten_cons, List.append_assoc]
theorem Ci {l : List Span} {b : List UInt8} (h : ∀ x ∈ l, SpOk x) (hl : l.length ≤ 1024) (hb : b.length + (spsB l).length ≤ lim) : eG ⟨b⟩ l = some ⟨b ++ spsB l⟩ := by
 have e : (spsB l).length = (pz l.length).length + ((l.map spB).flatten).length := by unfold spsB; rw [List.length_append]
 unfold eG
 rw [sj (by omega) (by omega) (by omega), Option.bind_some, wi 0 h (by rw [List.length_append]; omega), List.append_assoc]; rfl
theorem BX {b : List UInt8} {v : Ver} (h : VeOk v) (hb : b.length + (veB v).length ≤ lim) : e8 ⟨b⟩ v = some ⟨b ++ veB v⟩ := by
 have hs := h.s
 have hn := h.n
 have e : (veB v).length = (pz v.dot.s).length + ((pz v.dot.n).length + ((spsB v.past).length + (bif v.gone then pz 1 else pz 0 ++ txB v.val).length)) := by unfold veB; simp only [List.length_append]
 unfold e8
 rw [sj (by omega) (by omega) (by omega), Option.bind_some, wm (by omega) (by omega) (by rw [List.length_append]; omega), Option.bind_some, Ci h.past h.pl (by rw [List.length_append, List.length_append]; omega), Option.bind_some]
 unfold veB
 cases hg : v.gone with
 | true =>
  rw [hg] at e
  simp only [cond_true] at e ⊢
  rw [sj (by omega) (by omega) (by rw [List.length_append, List.length_append, List.length_append]; omega), Option.bind_some]
  simp only [List.append_assoc]
 | false =>
  rw [hg] at e
  simp only [cond_false, List.length_append] at e ⊢
  rw [sj (by omega) (by omega) (by rw [List.length_append, List.length_append, List.length_append]; omega), Option.bind_some, xn h.val (by rw [List.length_append, List.length_append, List.length_append, List.length_append]; omega), Option.bind_some]
  simp only [List.append_assoc]
theorem zc : ∀ {l : List Ver} {b : List UInt8} (i : Nat), (∀ x ∈ l, VeOk x) → b.length + ((l.map veB).flatten).length ≤ lim → forI ce (fun o => some o) i l ⟨b⟩ = some ⟨b ++ (l.map veB).flatten⟩
 | [], b, i, _, _ => by show some (⟨b⟩ : ae) = some ⟨b ++ []⟩; rw [List.append_nil]
 | x :: l, b, i, h, hb => by
  rw [List.map_cons, List.flatten_cons, List.length_append] at hb
  show ce (forI ce (fun o => some o) (i + 1) l) i x ⟨b⟩ = _
  unfold ce
  rw [BX (h x List.mem_cons_self) (by omega), Option.bind_some]
  rw [show (fun f14 i15 ei15 o11 => Option.bind (e8 o11 ei15) fun z25 => f14 z25) = ce from rfl]
  rw [zc (i + 1) (fun y hy => h y (List.mem_cons_of_mem _ hy)) (by rw [List.length_append]; omega), List.map_cons, List.flatten_cons, List.append_assoc]
theorem uK {r : Rec} (h : ReOk r) : fW ⟨[]⟩ r = some ⟨reB r⟩ := by
 have hk := h.key
 have hv := h.vl
 have hl := mT h
 have e : (reB r).length = (txB r.key).length + ((pz r.vers.length).length + ((r.vers.map veB).flatten).length) := by unfold reB vesB; simp only [List.length_append]
 have hlim : 14400000 ≤ lim := by rw [aJ]; omega
 unfold fW
 rw [xn (by omega) (by simp only [List.length_nil]; omega), Option.bind_some]
 unfold iq
 rw [sj (by omega) (by omega) (by simp only [List.nil_append]; omega), Option.bind_some, zc 0 h.vers (by simp only [List.nil_append, List.length_append]; omega), Option.bind_some]
 unfold reB vesB
 simp only [List.nil_append, List.append_assoc]
end Fw
end Go.Proofs.YtlfmppjcgaekhaaGreat
namespace Go.Proofs.YtlfmppjcgaekhaaGreat
namespace Fw
set_option linter.unusedVariables false
set_option linter.unusedSimpArgs false
set_option linter.unusedSectionVars false
def At (B : List UInt8) (p : Int) (rest : List UInt8) : Prop := ∃ q : Nat, p = (q : Int) ∧ q ≤ B.length ∧ B.drop q = rest
theorem At.go {B a rest : List UInt8} {q : Nat} (hq : q ≤ B.length) (h : B.drop q = a ++ rest) : At B ((q + a.length : Nat) : Int) rest ∧ q + a.length ≤ B.length := by
 have h1 := congrArg List.length h
 rw [List.length_drop, List.length_append] at h1
 refine ⟨⟨q + a.length, rfl, by omega, ?_⟩, by omega⟩
 rw [← List.drop_drop, h, List.drop_left]
theorem At.len {B rest : List UInt8} {p : Int} (h : At B p rest) : (B.length : Int) - p = (rest.length : Int) ∧ 0 ≤ p := by
 obtain ⟨q, rfl, h1, rfl⟩ := h
 rw [List.length_drop]; omega
theorem At.end_ {B : List UInt8} {p : Int} (h : At B p []) : p = (B.length : Int) := by have := h.len; simp at this; omega
section
variable {B : List UInt8} (hB : B.length ≤ lim)
include hB
theorem y8 {p n : Int} {rest : List UInt8} (h0 : 0 ≤ n) (h1 : n ≤ 4611686018427387904) (h : At B p (pz n ++ rest)) : ∃ q : Nat, fO B p = some (n, (q : Int), 0) ∧ At B q rest ∧ q ≤ B.length := by
 obtain ⟨q, rfl, hq, hd⟩ := h
 have hg := At.go hq hd
 have hl := bo h1
 refine ⟨q + (pz n).length, ?_, hg.1, hg.2⟩
 rw [y7 hB hq, hd]
 unfold pz at hl ⊢
 rw [xR n.toNat 0 0 rest (fun h => absurd h (Nat.lt_irrefl 0)) (by omega)]
 unfold numR
 have e1 : (((0 + n.toNat * 128 ^ 0 : Nat) : Nat) : Int) = n := by rw [Nat.pow_zero, Nat.mul_one, Nat.zero_add]; omega
 simp only [if_pos]
 rw [e1, Nat.zero_add]
theorem qe {p n : Int} {rest : List UInt8} (h0 : 0 ≤ n) (h1 : n ≤ 4611686018427387904) (h : At B p (pz n ++ rest)) : ∃ q, br ⟨B, p⟩ = some (some (⟨B, q⟩, n)) ∧ At B q rest := by
 obtain ⟨q, e, hA, hq⟩ := y8 hB h0 h1 h
 rw [aJ] at hB
 refine ⟨(q : Int), ?_, hA⟩
 unfold br gJ
 simp only
 rw [e, Option.bind_some]
 simp only
 rw [ax (by decide), aD (by unfold i64b; rw [Bool.and_eq_true, decide_eq_true_eq, decide_eq_true_eq]; omega), aD (by unfold i64b; rw [Bool.and_eq_true, decide_eq_true_eq, decide_eq_true_eq]; omega)]
theorem AA {p n : Int} {rest : List UInt8} (h0 : 0 ≤ n) (h1 : n ≤ 4611686018427387904) (h : At B p (pz n ++ rest)) : ∃ q, ek ⟨B, p⟩ = some (some (⟨B, q⟩, n)) ∧ At B q rest := by
 obtain ⟨q, e, hA⟩ := qe hB h0 h1 h
 refine ⟨q, ?_, hA⟩
 unfold ek
 rw [e]; rfl
theorem xv {p : Int} {s : ByteArray} {rest : List UInt8} (hs : s.size ≤ 256) (h : At B p (txB s ++ rest)) : ∃ q, dH ⟨B, p⟩ = some (some (⟨B, q⟩, s)) ∧ At B q rest := by
 unfold txB at h
 rw [List.append_assoc] at h
 obtain ⟨q, e, hA, hq⟩ := y8 hB (by omega) (by omega) h
 obtain ⟨q2, e2, hq2, hd⟩ := hA
 obtain rfl : q = q2 := by omega
 have hg := At.go hq hd
 have hsl : s.data.toList.length = s.size := rfl
 rw [hsl] at hg
 have hB2 := hB
 rw [aJ] at hB2
 refine ⟨((q + s.size : Nat) : Int), ?_, hg.1⟩
 have hgl := hg.2
 have ew : w64 (((q : Nat) : Int) + ((s.size : Nat) : Int)) = ((q + s.size : Nat) : Int) := by rw [bM (by unfold I64; omega)]; omega
 have ew2 : w64 (((B.length : Nat) : Int) - ((q : Nat) : Int)) = ((B.length : Nat) : Int) - ((q : Nat) : Int) := bM (by unfold I64; omega)
 have ed : (⟨(List.drop ((q : Nat) : Int).toNat (List.take ((q + s.size : Nat) : Int).toNat B)).toArray⟩ : ByteArray) = s := by
  apply kT
  show List.drop ((q : Nat) : Int).toNat (List.take ((q + s.size : Nat) : Int).toNat B) = s.data.toList
  rw [Int.toNat_natCast, Int.toNat_natCast, List.drop_take, hd, Nat.add_sub_cancel_left, ← hsl, List.take_left]
 unfold dH nM fR
 simp only
 rw [e, Option.bind_some]
 simp only
 rw [ax (by decide), ax (by rw [decide_eq_false_iff_not]; clear ew ew2; omega), ew2, ax (by rw [decide_eq_false_iff_not]; clear ew ew2; omega), ew,
  aD (by unfold inle; rw [Bool.and_eq_true, decide_eq_true_eq, decide_eq_true_eq]; clear ew ew2; omega), aD (by rw [decide_eq_true_eq]; clear ew ew2; omega), aD (by rw [decide_eq_true_eq, Int.toNat_natCast, Int.toNat_natCast]; clear ew ew2; omega), ed, Option.bind_some]
 simp only
 rw [ax (by decide), aD (by unfold i64b; rw [Bool.and_eq_true, decide_eq_true_eq, decide_eq_true_eq]; clear ew ew2; omega), aD (by rw [aJ, decide_eq_true_eq]; clear ew ew2; omega)]
theorem AS {p : Int} {x : Span} {rest : List UInt8} (hx : SpOk x) (h : At B p (spB x ++ rest)) : ∃ q, fj ⟨B, p⟩ = some (some (⟨B, q⟩, x)) ∧ At B q rest := by
 obtain ⟨h1, h2, h3, h4, h5⟩ := hx
 unfold spB at h
 rw [List.append_assoc, List.append_assoc] at h
 obtain ⟨q1, e1, a1⟩ := AA hB (by omega) (by omega) h
 obtain ⟨q2, e2, a2⟩ := qe hB (by omega) (by omega) a1
 obtain ⟨q3, e3, a3⟩ := qe hB (by omega) (by omega) a2
 refine ⟨q3, ?_, a3⟩
 unfold fj fQ fS optm
 rw [e1, Option.bind_some]
 simp only
 rw [e2, Option.bind_some]
 simp only
 rw [e3, Option.bind_some]
 simp only
 rw [show w64 (x.f + (x.t - x.f)) = x.t by rw [bM (by unfold I64; omega)]; omega, ax (by rw [decide_eq_false_iff_not]; omega)]
theorem vO : ∀ {l : List Span} {out : List Span} {p : Int} {rest : List UInt8} (i : Nat), (∀ x ∈ l, SpOk x) → out.length + l.length ≤ lim → At B p ((l.map spB).flatten ++ rest) →
  ∃ q, forU bI (fun (out_20, o25) => some (some (o25, out_20))) l.length i (out, ⟨B, p⟩) = some (some (⟨B, q⟩, out ++ l)) ∧ At B q rest
 | [], out, p, rest, i, _, _, h => ⟨p, by show some (some ((⟨B, p⟩ : a8), out)) = _; rw [List.append_nil], h⟩
 | x :: l, out, p, rest, i, hx, hl, h => by
  rw [List.length_cons] at hl
  rw [List.map_cons, List.flatten_cons, List.append_assoc] at h
  obtain ⟨q1, e1, a1⟩ := AS hB (hx x List.mem_cons_self) h
  obtain ⟨q2, e2, a2⟩ := vO (l := l) (out := out ++ [x]) (i + 1) (fun y hy => hx y (List.mem_cons_of_mem _ hy)) (by rw [List.length_append, List.length_singleton]; omega) a1
  refine ⟨q2, ?_, a2⟩
  show bI (forU bI (fun (out_20, o25) => some (some (o25, out_20))) l.length (i + 1)) i (out, ⟨B, p⟩) = _
  rw [List.append_assoc] at e2
  generalize forU bI (fun (out_20, o25) => some (some (o25, out_20))) l.length (i + 1) = f at e2 ⊢
  unfold bI optm
  simp only
  rw [e1, Option.bind_some]
  simp only
  rw [aD (decide_eq_true (by omega)), e2]; rfl
theorem BM {p : Int} {l : List Span} {rest : List UInt8} (hx : ∀ x ∈ l, SpOk x) (hl : l.length ≤ 1024) (h : At B p (spsB l ++ rest)) : ∃ q, e7 ⟨B, p⟩ = some (some (⟨B, q⟩, l)) ∧ At B q rest := by
 unfold spsB at h
 rw [List.append_assoc] at h
 obtain ⟨q1, e1, a1⟩ := qe hB (by omega) (by omega) h
 have hg := qA (e := spB) (l := l) fun x _ => zQ x
 have hr := a1.len
 rw [List.length_append] at hr
 have hB2 := hB
 rw [aJ] at hB2
 obtain ⟨q2, e2, a2⟩ := vO hB (l := l) (out := []) 0 hx (by rw [aJ]; simp only [List.length_nil]; omega) a1
 refine ⟨q2, ?_, a2⟩
 unfold e7 eP optm
 rw [e1, Option.bind_some]
 simp only
 rw [bM (x := ((B.length : Nat) : Int) - q1) (by unfold I64; omega), ax (by rw [decide_eq_false_iff_not]; omega), Int.toNat_natCast, e2]; rfl
theorem BW {p : Int} {v : Ver} {rest : List UInt8} (hv : VeOk v) (h : At B p (veB v ++ rest)) : ∃ q, fZ ⟨B, p⟩ = some (some (⟨B, q⟩, v)) ∧ At B q rest := by
 have hs := hv.s
 have hn := hv.n
 unfold veB at h
 simp only [List.append_assoc] at h
 obtain ⟨q1, e1, a1⟩ := AA hB (by omega) (by omega) h
 obtain ⟨q2, e2, a2⟩ := qe hB (by omega) (by omega) a1
 obtain ⟨q3, e3, a3⟩ := BM hB hv.past hv.pl a2
 unfold fZ ep optm
 rw [e1, Option.bind_some]
 simp only
 rw [e2, Option.bind_some]
 simp only
 rw [e3, Option.bind_some]
 simp only
 have hgo := hv.gone
 obtain ⟨⟨ds, dn⟩, past, gone, val⟩ := v
 simp only at a3 hgo ⊢
 cases gone with
 | true =>
  simp only [cond_true] at a3
  obtain ⟨q4, e4, a4⟩ := qe hB (by omega) (by omega) a3
  refine ⟨q4, ?_, a4⟩
  rw [e4, Option.bind_some]
  simp only
  rw [ax (by decide), bm (by decide), hgo rfl]
 | false =>
  simp only [cond_false, List.append_assoc] at a3
  obtain ⟨q4, e4, a4⟩ := qe hB (by omega) (by omega) a3
  obtain ⟨q5, e5, a5⟩ := xv hB hv.val a4
  refine ⟨q5, ?_, a5⟩
  rw [e4, Option.bind_some]
  simp only
  rw [bm (by decide), e5, Option.bind_some]
theorem yj : ∀ {l : List Ver} {out : List Ver} {p : Int} {rest : List UInt8} (i : Nat), (∀ x ∈ l, VeOk x) → out.length + l.length ≤ lim → At B p ((l.map veB).flatten ++ rest) →
  ∃ q, forU bQ (fun (out_20, o25) => some (some (o25, out_20))) l.length i (out, ⟨B, p⟩) = some (some (⟨B, q⟩, out ++ l)) ∧ At B q rest
 | [], out, p, rest, i, _, _, h => ⟨p, by show some (some ((⟨B, p⟩ : a8), out)) = _; rw [List.append_nil], h⟩
 | x :: l, out, p, rest, i, hx, hl, h => by
  rw [List.length_cons] at hl
  rw [List.map_cons, List.flatten_cons, List.append_assoc] at h
  obtain ⟨q1, e1, a1⟩ := BW hB (hx x List.mem_cons_self) h
  obtain ⟨q2, e2, a2⟩ := yj (l := l) (out := out ++ [x]) (i + 1) (fun y hy => hx y (List.mem_cons_of_mem _ hy)) (by rw [List.length_append, List.length_singleton]; omega) a1
  refine ⟨q2, ?_, a2⟩
  show bQ (forU bQ (fun (out_20, o25) => some (some (o25, out_20))) l.length (i + 1)) i (out, ⟨B, p⟩) = _
  rw [List.append_assoc] at e2
  generalize forU bQ (fun (out_20, o25) => some (some (o25, out_20))) l.length (i + 1) = f at e2 ⊢
  unfold bQ optm
  simp only
  rw [e1, Option.bind_some]
  simp only
  rw [aD (decide_eq_true (by omega)), e2]; rfl
theorem BL {p : Int} {l : List Ver} {rest : List UInt8} (hx : ∀ x ∈ l, VeOk x) (hl : l.length ≤ 512) (h : At B p (vesB l ++ rest)) : ∃ q, eO ⟨B, p⟩ = some (some (⟨B, q⟩, l)) ∧ At B q rest := by
 unfold vesB at h
 rw [List.append_assoc] at h
 obtain ⟨q1, e1, a1⟩ := qe hB (by omega) (by omega) h
 have hg := qA (e := veB) (l := l) fun x _ => zT x
 have hr := a1.len
 rw [List.length_append] at hr
 have hB2 := hB
 rw [aJ] at hB2
 obtain ⟨q2, e2, a2⟩ := yj hB (l := l) (out := []) 0 hx (by rw [aJ]; simp only [List.length_nil]; omega) a1
 refine ⟨q2, ?_, a2⟩
 unfold eO fv optm
 rw [e1, Option.bind_some]
 simp only
 rw [bM (x := ((B.length : Nat) : Int) - q1) (by unfold I64; omega), ax (by rw [decide_eq_false_iff_not]; omega), Int.toNat_natCast, e2]; rfl
theorem Cc {p : Int} {r : Rec} {rest : List UInt8} (hr : ReOk r) (h : At B p (reB r ++ rest)) : ∃ q, gi ⟨B, p⟩ = some (some (⟨B, q⟩, r)) ∧ At B q rest := by
 have hk := hr.key
 unfold reB at h
 rw [List.append_assoc] at h
 obtain ⟨q1, e1, a1⟩ := xv hB (by omega) h
 obtain ⟨q2, e2, a2⟩ := BL hB hr.vers hr.vl a1
 refine ⟨q2, ?_, a2⟩
 unfold gi optm
 rw [e1, Option.bind_some]
 simp only
 rw [e2, Option.bind_some]
end
theorem Az {r : Rec} (hr : ReOk r) (h : aI r = some true) : ky (reB r) = some (r, 0) := by
 have hl := mT hr
 obtain ⟨q, e, a⟩ := Cc (B := reB r) (by rw [aJ]; omega) (p := 0) (rest := []) hr ⟨0, rfl, Nat.zero_le _, by rw [List.append_nil]; rfl⟩
 have hq := a.end_
 unfold ky gw eS optm
 rw [e, Option.bind_some]
 simp only
 rw [hq, show (((reB r).length : Int) != ((reB r).length : Int)) = false by simp, h]
 rfl
end Fw
end Go.Proofs.YtlfmppjcgaekhaaGreat
namespace Go.Proofs.YtlfmppjcgaekhaaGreat
namespace Fw
set_option linter.unusedVariables false
set_option linter.unusedSimpArgs false
set_option linter.unusedSectionVars false
def Only (nm : ByteArray) (g : Nat) (bs : Bs) (es : Mp) : Prop := Has nm g bs es ∧ ∀ k, (mget k es).isSome = true → ∃ j, 1 ≤ j ∧ j ≤ 999999 ∧ k = fn nm g j
section
variable {R N : Nat} {d : Dk} {nm : ByteArray} {g : Nat} {bs : Bs} {es : Mp}
theorem Only.own (h : Only nm g bs es) : Own1 nm g es := fun k hk => .inr (h.2 k hk)
theorem Only.ks (h : Only nm g bs es) (hnm : Nm nm) (hg : g ≤ 999999) : Ks es := fun k hk => by
 obtain ⟨j, _, j2, e⟩ := h.2 k hk
 rw [e]; exact tc hnm hg j2
theorem Only.list (h : Only nm g bs d.seen) (hnm : Nm nm) : fb d (mn nm) = [] := by
 unfold fb
 cases hs : mget (mn nm) d.seen with
 | none => rfl
 | some v =>
  obtain ⟨j, _, _, e⟩ := h.2 _ (by rw [hs]; rfl)
  exact absurd e (BJ hnm hnm)
theorem Only.nil : Only nm g [] [] := ⟨⟨Nat.zero_le _, fun k _ _ => rfl⟩, fun k hk => by cases hk⟩
theorem Only.add {size : Int} {f : List UInt8} (h : Only nm g bs d.seen) (hnm : Nm nm) (hp : pnum size bs f ≤ 999999) : Only nm g (addP size bs f) (dAdd d nm g size bs f).seen := by
 refine ⟨AppR.has hnm h.1 hp, fun k hk => ?_⟩
 by_cases e : k = fn nm g (pnum size bs f)
 ·exact ⟨_, ue _ _ _, hp, e⟩
 ·rw [x3 e] at hk; exact h.2 k hk
theorem Only.len (h : Only nm g bs es) (hnm : Nm nm) (hn : NK es) : es.length = bs.length := by
 have h1 : (es.map (·.1)).Nodup := hn
 have h2 : ((List.range bs.length).map fun j => fn nm g (j + 1)).Nodup := by
  refine List.Pairwise.map _ (R := fun a b => a ≠ b) (fun a b hab e => hab ?_) List.nodup_range
  have := (tj hnm hnm e).2.2; omega
 have h3 : (es.map (·.1)).Perm ((List.range bs.length).map fun j => fn nm g (j + 1)) := by
  rw [List.perm_ext_iff_of_nodup h1 h2]
  intro k
  rw [← jB, List.mem_map]
  constructor
  ·intro hk
   obtain ⟨j, j1, j2, e⟩ := h.2 k hk
   rw [e, h.1.2 j j1 j2] at hk
   refine ⟨j - 1, List.mem_range.2 ?_, by rw [e, show j - 1 + 1 = j by omega]⟩
   rcases Nat.lt_or_ge (j - 1) bs.length with hlt | hge
   ·exact hlt
   ·rw [List.getElem?_eq_none hge] at hk; cases hk
  ·rintro ⟨j, hj, rfl⟩
   have hj := List.mem_range.1 hj
   have := h.1.1
   rw [h.1.2 (j + 1) (by omega) (by omega), Nat.add_sub_cancel, List.getElem?_eq_getElem hj]; rfl
 have := h3.length_eq
 simpa using this
theorem wI (h : DI R N d) (hR : R ≤ MX) (hN : 4 * N + 10 ≤ lim) (hnm : Nm nm) (size : Int) (ho : Only nm 0 bs d.seen) :
  ∃ d', fN d nm size = some (d', some (lg nm 0 (max size 16) (bd bs).2 (bd bs).1.length), (bd bs).1, 0) ∧ DI R (4 * N + 10) d' ∧ Only nm 0 (bd bs).2 d'.seen ∧ (d' = d ∨ d'.loose = []) ∧ ((bd bs).2 = bs → d' = d) := by
 obtain ⟨d', h1, h2, h3, h4, h5, h6, h7⟩ := BH h hR hN hnm (ho.ks hnm (Nat.zero_le _)) size (gl := []) (e0 := 0) (g := 0) (bs := bs) (Nat.zero_le _) (by rw [ho.list hnm]; rfl) rfl ho.1 ho.own
 exact ⟨d', h1, h2, ⟨h3, fun k hk => ho.2 k (h5 k hk)⟩, h6, h7⟩
end
theorem nm1 {c : UInt8} (h : c ≠ 46) : Nm ⟨#[c]⟩ := ⟨by show 1 ≤ 1; omega, by show 1 ≤ 2; omega, fun x hx => by rw [List.mem_singleton.1 hx]; exact h⟩
theorem B7 {R : Nat} {d : Dk} {nm : ByteArray} {g : Nat} {bs : Bs} {size : Int} {cnt : Nat} {x : List UInt8} {r : af × Dk × Int} (h : AppR R d nm g size bs cnt x r) (hx : x.length ≤ 1048576) (hb : bs.length < 999999) (hz : Fw.sz d.seen + (fr x).length ≤ R) :
  r = (lg nm g size (addP size bs (fr x)) (cnt + 1), dAdd d nm g size bs (fr x), 0) := by
 have hp := sS size bs (fr x)
 cases h with
 | long q => omega
 | many _ q => omega
 | full _ _ q => omega
 | ok _ _ _ => rfl
theorem ut {d : Dk} {R N : Nat} (h : DI R N d) (hl : d.loose = []) (keep torn : Int) : qJ d keep torn = d.seen := by
 have h1 : cK d keep = 0 := by have := Ay (d := d) keep; rw [hl] at this; exact Nat.le_zero.1 this
 unfold qJ
 have h2 : cT d (cK d keep) torn = false := by unfold cT; rw [hl]; simp
 rw [h2, ax rfl, h.see, hl, List.take_nil]
theorem tz {d : Dk} {R N : Nat} (h : DI R N d) (hl : d.loose = []) (keep torn : Int) : tB d keep torn = d := by
 unfold tB
 rw [ut h hl]
 have h2 : d.safe_ = d.seen := by rw [h.see, hl]; rfl
 obtain ⟨a, b, c, l⟩ := d
 simp only at h2 hl ⊢
 rw [h2, hl]
end Fw
end Go.Proofs.YtlfmppjcgaekhaaGreat
namespace Go.Proofs.YtlfmppjcgaekhaaGreat
namespace Fw
set_option linter.unusedVariables false
set_option linter.unusedSimpArgs false
set_option linter.unusedSectionVars false
def rc (s n : Int) : Rec := ⟨⟨#[107]⟩, [⟨⟨s, n⟩, [], false, ⟨#[118]⟩⟩]⟩
def D62 (n : Int) : Prop := 1 ≤ n ∧ n ≤ 4611686018427387904
theorem C9 {s n : Int} (hs : 1 ≤ s ∧ s ≤ 16) (hn : D62 n) : aI (rc s n) = some true ∧ ReOk (rc s n) := by
 obtain ⟨hn1, hn2⟩ := hn
 have h1 : gM [(⟨s, n, n⟩ : Span)] = some true := by
  show ic (fun _ => some true) 0 ⟨s, n, n⟩ ⟨0, 0, 0⟩ = _
  unfold ic
  simp only
  rw [ax]
  have e : (s == 0) = false := by simp; omega
  rw [e]
  simp only [Bool.false_and, Bool.or_false, Bool.or_eq_false_iff, decide_eq_false_iff_not]
  omega
 have h2 : dX ⟨⟨s, n⟩, [], false, ⟨#[118]⟩⟩ = some true := by
  unfold dX
  simp only
  rw [h1, Option.bind_some]
  show some ((((true && true) && (decide ((0 : Int) < n))) && true) && true) = _
  rw [decide_eq_true (by omega : (0 : Int) < n)]
  rfl
 have h : aI (rc s n) = some true := by
  have h3 : gS [⟨⟨s, n⟩, [], false, ⟨#[118]⟩⟩] = some true := by
   show ij [⟨⟨s, n⟩, [], false, ⟨#[118]⟩⟩] (fun _ => some true) 0 ⟨⟨s, n⟩, [], false, ⟨#[118]⟩⟩ () = _
   unfold ij
   simp only
   rw [h2, Option.bind_some]
   rfl
  unfold aI rc
  simp only
  show Option.bind (dM true (gS [⟨⟨s, n⟩, [], false, ⟨#[118]⟩⟩])) _ = _
  rw [h3]
  rfl
 obtain ⟨b, h4, h5⟩ := uI (r := rc s n) (by rw [aJ]; show 1 ≤ _; omega)
 rw [h] at h4
 injection h4 with h4
 exact ⟨h, h5 h4.symm⟩
def isB (r : Rec) : List UInt8 := pz 1 ++ reB r
def diB (l : List Int) (r : Rec) : List UInt8 := pz 2 ++ (pz l.length ++ ((l.map pz).flatten ++ reB r))
def acB (a b : Int) : List UInt8 := pz 4 ++ (pz a ++ pz b)
def clB (a : Int) : List UInt8 := pz 5 ++ pz a
theorem AY {n : Int} (h0 : 0 ≤ n) (h1 : n ≤ 4611686018427387904) : ef n = some (pz n) := by
 have := nU (n := n.toNat) (by omega)
 rw [show ((n.toNat : Nat) : Int) = n by omega] at this
 exact this
theorem Bl (f : List UInt8 → Option (List UInt8)) (i : Nat) {n : Int} {b : List UInt8} (h0 : 0 ≤ n) (h1 : n ≤ 4611686018427387904) (hb : b.length + 9 ≤ lim) : dV f i n b = f (b ++ pz n) := by
 have hp := bo h1
 unfold dV
 rw [AY h0 h1, Option.bind_some, aD (by rw [decide_eq_true_eq]; omega)]
theorem yd : ∀ (l : List Int) (i : Nat) (b : List UInt8), (∀ x ∈ l, 0 ≤ x ∧ x ≤ 4611686018427387904) → b.length + 9 * l.length ≤ lim → forI dV (fun b => some b) i l b = some (b ++ (l.map pz).flatten)
 | [], i, b, _, _ => by show some b = _; simp
 | n :: l, i, b, h, hb => by
  have hn := h n List.mem_cons_self
  have hp := bo hn.2
  rw [List.length_cons] at hb
  show dV (forI dV (fun b => some b) (i + 1) l) i n b = _
  rw [Bl _ _ hn.1 hn.2 (by omega), yd l (i + 1) _ (fun x hx => h x (List.mem_cons_of_mem _ hx)) (by rw [List.length_append]; omega)]
  rw [List.map_cons, List.flatten_cons, List.append_assoc]
theorem pE {l : List Int} {b : List UInt8} (h : ∀ x ∈ l, 0 ≤ x ∧ x ≤ 4611686018427387904) (hb : b.length + 9 * l.length ≤ lim) : eb b l = some (b ++ (l.map pz).flatten) := yd l 0 b h hb
theorem Bw (f : List UInt8 → Option (List UInt8)) (i : Nat) {n : Int} {b : List UInt8} (h0 : 0 ≤ n) (h1 : n ≤ 4611686018427387904) (hb : b.length + 9 ≤ lim) : cI f i n b = f (b ++ pz n) := by
 unfold cI
 rw [pE (fun x hx => by rw [List.mem_singleton.1 hx]; exact ⟨h0, h1⟩) (by rw [List.length_singleton]; omega), Option.bind_some]
 simp only [List.map_cons, List.map_nil, List.flatten_cons, List.flatten_nil, List.append_nil]
theorem yY : ∀ (l : List Int) (i : Nat) (b : List UInt8), (∀ x ∈ l, 0 ≤ x ∧ x ≤ 4611686018427387904) → b.length + 9 * l.length ≤ lim → forI cI (fun b => some b) i l b = some (b ++ (l.map pz).flatten)
 | [], i, b, _, _ => by show some b = _; simp
 | n :: l, i, b, h, hb => by
  have hn := h n List.mem_cons_self
  have hp := bo hn.2
  rw [List.length_cons] at hb
  show cI (forI cI (fun b => some b) (i + 1) l) i n b = _
  rw [Bw _ _ hn.1 hn.2 (by omega), List.map_cons, List.flatten_cons, yY l (i + 1) _ (fun x hx => h x (List.mem_cons_of_mem _ hx)) (by rw [List.length_append]; omega), List.append_assoc]
theorem zw {l : List Int} {b : List UInt8} (h : ∀ x ∈ l, 0 ≤ x ∧ x ≤ 4611686018427387904) (hb : b.length + 9 * (l.length + 1) ≤ lim) (hl : l.length ≤ 1000) : gQ b l = some (b ++ (pz l.length ++ (l.map pz).flatten)) := by
 have hp := bo (n := (l.length : Int)) (by omega)
 unfold gQ
 rw [pE (fun x hx => by rw [List.mem_singleton.1 hx]; omega) (by rw [List.length_singleton]; omega), Option.bind_some]
 simp only [List.map_cons, List.map_nil, List.flatten_cons, List.flatten_nil, List.append_nil]
 rw [yY l 0 _ h (by rw [List.length_append]; omega), List.append_assoc]
theorem yZ {r : Rec} {b : List UInt8} (hr : aI r = some true ∧ ReOk r) (hb : b.length + (reB r).length ≤ lim) : iN b r = some (b ++ reB r) := by
 unfold iN hO
 rw [hr.1, Option.bind_some, show (!true) = false from rfl, ax rfl, uK hr.2]
 simp only [Option.bind_some]
 rw [aD (decide_eq_true hb)]
theorem xr {r : Rec} (hr : aI r = some true ∧ ReOk r) : i8 ⟨r⟩ = some (isB r) := by
 have h1 := mT hr.2
 unfold i8
 rw [pE (fun x hx => by rw [List.mem_singleton.1 hx]; omega) (by rw [aJ]; decide), Option.bind_some]
 simp only [List.map_cons, List.map_nil, List.flatten_cons, List.flatten_nil, List.append_nil, List.nil_append]
 rw [yZ hr (by have := bo (n := 1) (by omega); rw [aJ]; omega)]; rfl
theorem xO {r : Rec} {l : List Int} (hr : aI r = some true ∧ ReOk r) (hl : l.length ≤ 1000) (h : ∀ x ∈ l, 0 ≤ x ∧ x ≤ 4611686018427387904) : fc ⟨l, r⟩ = some (diB l r) := by
 have h1 := mT hr.2
 have h2 := p7 (e := pz) (c := 9) (l := l) (fun x hx => bo (h x hx).2)
 have h3 := bo (n := 2) (by omega)
 have h4 := bo (n := (l.length : Int)) (by omega)
 unfold fc
 rw [pE (fun x hx => by rw [List.mem_singleton.1 hx]; omega) (by rw [aJ]; decide), Option.bind_some]
 simp only [List.map_cons, List.map_nil, List.flatten_cons, List.flatten_nil, List.append_nil, List.nil_append]
 rw [zw h (by rw [aJ]; omega) hl, Option.bind_some, yZ hr (by simp only [List.length_append]; rw [aJ]; omega), Option.bind_some]
 unfold diB
 simp only [List.append_assoc]
theorem yC {a b : Int} (ha : 0 ≤ a ∧ a ≤ 4611686018427387904) (hb : 0 ≤ b ∧ b ≤ 4611686018427387904) : eY ⟨a, b⟩ = some (acB a b) := by
 unfold eY
 rw [pE (fun x hx => by simp only [List.mem_cons, List.not_mem_nil, or_false] at hx; rcases hx with rfl | rfl | rfl <;> omega) (by rw [aJ]; show 0 + 9 * 3 ≤ _; omega), Option.bind_some]
 simp only [List.map_cons, List.map_nil, List.flatten_cons, List.flatten_nil, List.append_nil, List.nil_append]; rfl
theorem xT {a : Int} (ha : 0 ≤ a ∧ a ≤ 4611686018427387904) : eW ⟨a⟩ = some (clB a) := by
 unfold eW
 rw [pE (fun x hx => by simp only [List.mem_cons, List.not_mem_nil, or_false] at hx; rcases hx with rfl | rfl <;> omega) (by rw [aJ]; show 0 + 9 * 2 ≤ _; omega), Option.bind_some]
 simp only [List.map_cons, List.map_nil, List.flatten_cons, List.flatten_nil, List.append_nil, List.nil_append]; rfl
section
variable {B : List UInt8} (hB : B.length ≤ lim)
include hB
theorem oD {p n : Int} {rest : List UInt8} (h0 : 0 ≤ n) (h1 : n ≤ 4611686018427387904) (h : At B p (pz n ++ rest)) : ∃ q : Int, bD ⟨B, p, false⟩ = some (⟨B, q, false⟩, n) ∧ At B q rest := by
 obtain ⟨q, e, hA, hq⟩ := y8 hB h0 h1 h
 rw [aJ] at hB
 refine ⟨(q : Int), ?_, hA⟩
 unfold bD
 simp only
 rw [e, Option.bind_some]
 simp only
 rw [ax (by decide), aD (by unfold i64b; rw [Bool.and_eq_true, decide_eq_true_eq, decide_eq_true_eq]; omega), aD (by unfold i64b; rw [Bool.and_eq_true, decide_eq_true_eq, decide_eq_true_eq]; omega)]
theorem Aw {p : Int} {r : Rec} (hr : aI r = some true ∧ ReOk r) (h : At B p (reB r)) : dA ⟨B, p, false⟩ = some (⟨B, (B.length : Int), false⟩, r) := by
 obtain ⟨q, rfl, hq, hd⟩ := h
 unfold dA
 simp only
 have e1 : min ((q : Nat) : Int) ((B.length : Nat) : Int) = (q : Int) := by omega
 rw [e1, aD (by unfold inle; rw [Bool.and_eq_true, decide_eq_true_eq, decide_eq_true_eq]; omega)]
 rw [show ((q : Nat) : Int).toNat = q by omega, hd, Az hr.2 hr.1]
 rfl
theorem xG : ∀ (l : List Int) (i : Nat) (out : List Int) (p : Int) (rest : List UInt8), (∀ x ∈ l, 0 ≤ x ∧ x ≤ 4611686018427387904) → out.length + l.length ≤ lim → At B p ((l.map pz).flatten ++ rest) →
  ∃ q : Int, forU cM (fun (out, o) => some (o, out)) l.length i (out, (⟨B, p, false⟩ : al)) = some (⟨B, q, false⟩, out ++ l) ∧ At B q rest
 | [], i, out, p, rest, _, _, h => ⟨p, by show some _ = _; rw [List.append_nil], h⟩
 | n :: l, i, out, p, rest, hl, ho, h => by
  have hn := hl n List.mem_cons_self
  rw [List.length_cons] at ho
  rw [List.map_cons, List.flatten_cons, List.append_assoc] at h
  obtain ⟨q1, a1, a2⟩ := oD hB hn.1 hn.2 h
  obtain ⟨q2, b1, b2⟩ := xG l (i + 1) (out ++ [n]) q1 rest (fun x hx => hl x (List.mem_cons_of_mem _ hx)) (by rw [List.length_append, List.length_singleton]; omega) a2
  refine ⟨q2, ?_, b2⟩
  show cM (forU cM (fun (out, o) => some (o, out)) l.length (i + 1)) i (out, ⟨B, p, false⟩) = _
  unfold cM
  simp only
  rw [a1, Option.bind_some, aD (by rw [decide_eq_true_eq]; omega)]
  have := b1
  unfold cM at this
  rw [this]
  simp
end
end Fw
end Go.Proofs.YtlfmppjcgaekhaaGreat
namespace Go.Proofs.YtlfmppjcgaekhaaGreat
namespace Fw
set_option linter.unusedVariables false
set_option linter.unusedSimpArgs false
set_option linter.unusedSectionVars false
theorem at0 {a b : List UInt8} : At (a ++ b) 0 (a ++ b) := ⟨0, rfl, Nat.zero_le _, rfl⟩
theorem Af {r : Rec} (hr : aI r = some true ∧ ReOk r) : aW (isB r) = some (.queue_issue ⟨r⟩, true) := by
 have h1 := mT hr.2
 have h2 := bo (n := 1) (by omega)
 have hB : (isB r).length ≤ lim := by unfold isB; rw [List.length_append, aJ]; omega
 obtain ⟨q, a1, a2⟩ := oD hB (p := 0) (n := 1) (rest := reB r) (by omega) (by omega) at0
 unfold aW
 rw [a1, Option.bind_some]
 simp only
 rw [bm (by decide), Aw hB hr a2, Option.bind_some]
 simp
theorem zY {r : Rec} {l : List Int} (hr : aI r = some true ∧ ReOk r) (hl : l.length ≤ 1000) (h : ∀ x ∈ l, 0 ≤ x ∧ x ≤ 4611686018427387904) : aW (diB l r) = some (.queue_did ⟨l, r⟩, true) := by
 have h1 := mT hr.2
 have h2 := bo (n := 2) (by omega)
 have h3 := p7 (e := pz) (c := 9) (l := l) (fun x hx => bo (h x hx).2)
 have h4 := bo (n := (l.length : Int)) (by omega)
 have hB : (diB l r).length ≤ lim := by unfold diB; simp only [List.length_append]; rw [aJ]; omega
 obtain ⟨q, a1, a2⟩ := oD hB (p := 0) (n := 2) (rest := pz l.length ++ ((l.map pz).flatten ++ reB r)) (by omega) (by omega) at0
 obtain ⟨q2, b1, b2⟩ := oD hB (p := q) (n := (l.length : Int)) (by omega) (by omega) a2
 obtain ⟨q3, c1, c2⟩ := xG hB l 0 [] q2 (reB r) h (by rw [aJ]; simp; omega) b2
 have hlen := qA (e := pz) (l := l) (fun x _ => ve x)
 have hr2 := b2.len
 rw [List.length_append] at hr2
 have hm : gU ⟨diB l r, q, false⟩ = some (⟨diB l r, q3, false⟩, l) := by
  unfold gU
  rw [b1, Option.bind_some]
  simp only
  rw [bM (by unfold I64; rw [aJ] at hB; omega), ax (by rw [decide_eq_false_iff_not]; omega), show ((l.length : Nat) : Int).toNat = l.length by omega]
  exact c1
 unfold aW
 rw [a1, Option.bind_some]
 simp only
 rw [ax (by decide), bm (by decide), hm, Option.bind_some]
 simp only
 rw [Aw hB hr c2, Option.bind_some]
 simp
theorem Ac {a b : Int} (ha : 0 ≤ a ∧ a ≤ 4611686018427387904) (hb : 0 ≤ b ∧ b ≤ 4611686018427387904) : aW (acB a b) = some (.queue_ack ⟨a, b⟩, true) := by
 have h1 := bo ha.2
 have h2 := bo hb.2
 have h3 := bo (n := 4) (by omega)
 have hB : (acB a b).length ≤ lim := by unfold acB; simp only [List.length_append]; rw [aJ]; omega
 obtain ⟨q, a1, a2⟩ := oD hB (p := 0) (n := 4) (rest := pz a ++ pz b) (by omega) (by omega) at0
 obtain ⟨q2, b1, b2⟩ := oD hB (p := q) (n := a) ha.1 ha.2 a2
 obtain ⟨q3, c1, c2⟩ := oD hB (p := q2) (n := b) (rest := []) hb.1 hb.2 (by rw [List.append_nil]; exact b2)
 have he := c2.end_
 unfold aW
 rw [a1, Option.bind_some]
 simp only
 rw [ax (by decide), ax (by decide), ax (by decide), bm (by decide), b1, Option.bind_some]
 simp only
 rw [c1, Option.bind_some, he]
 simp
theorem zn {a : Int} (ha : 0 ≤ a ∧ a ≤ 4611686018427387904) : aW (clB a) = some (.queue_clear ⟨a⟩, true) := by
 have h1 := bo ha.2
 have h3 := bo (n := 5) (by omega)
 have hB : (clB a).length ≤ lim := by unfold clB; simp only [List.length_append]; rw [aJ]; omega
 obtain ⟨q, a1, a2⟩ := oD hB (p := 0) (n := 5) (rest := pz a) (by omega) (by omega) at0
 obtain ⟨q2, b1, b2⟩ := oD hB (p := q) (n := a) (rest := []) ha.1 ha.2 (by rw [List.append_nil]; exact a2)
 have he := b2.end_
 unfold aW
 rw [a1, Option.bind_some]
 simp only
 rw [ax (by decide), ax (by decide), ax (by decide), ax (by decide), bm (by decide), b1, Option.bind_some, he]
 simp
structure Sq where
 applied : List Int
 under : Option Rec
 list : List az
 next : Int
 gaps : List (Int × Bool)
def mkq (c : aa) (g : af) (s : Sq) : a6 := ⟨c.self, c.sites, c.links, c.cap, c.base, c.members, g, s.applied, s.under, s.list, s.next, s.gaps, c.members⟩
inductive Stp (c : aa) (s s' : Sq) : List UInt8 → Prop
 | is (x : ar) (b : List UInt8) : aW b = some (.queue_issue x, true) → (∀ g, bC (mkq c g s) x = some true ∧ aT (mkq c g s) x = some (mkq c g s')) → Stp c s s' b
 | di (x : aj) (b : List UInt8) : aW b = some (.queue_did x, true) → (∀ g, bA (mkq c g s) x = some true ∧ aM (mkq c g s) x = some (mkq c g s')) → Stp c s s' b
 | ac (x : ak) (b : List UInt8) : aW b = some (.queue_ack x, true) → (∀ g, bx (mkq c g s) x = some true ∧ aL (mkq c g s) x = some (mkq c g s')) → Stp c s s' b
 | cl (x : au) (b : List UInt8) : aW b = some (.queue_clear x, true) → (∀ g, bw (mkq c g s) x = some true ∧ b7 (mkq c g s) x = some (mkq c g s')) → Stp c s s' b
inductive Run (c : aa) : Sq → List (List UInt8) → Sq → Prop
 | nil (s : Sq) : Run c s [] s
 | cons {s s' s'' : Sq} {b : List UInt8} {L : List (List UInt8)} : Stp c s s' b → Run c s' L s'' → Run c s (b :: L) s''
theorem Run.snoc {c : aa} {s s' s'' : Sq} {b : List UInt8} {L : List (List UInt8)} (h : Run c s L s') (h2 : Stp c s' s'' b) : Run c s (L ++ [b]) s'' := by
 induction h with
 | nil s => exact .cons h2 (.nil _)
 | cons a _ ih => exact .cons a (ih h2)
theorem Bn {c : aa} {g : af} {s s' : Sq} {b : List UInt8} (h : Stp c s s' b) (z : a7 × Option af × List (List UInt8) × Int) (f : a6 → Option (a7 × Option a6 × Int)) (i : Nat) : ie z f i b (mkq c g s) = f (mkq c g s') := by
 unfold ie
 cases h with
 | is x _ h1 h2 =>
  rw [h1, Option.bind_some]
  show Option.bind (dM true (bC (mkq c g s) x)) _ = _
  rw [(h2 g).1]
  show Option.bind (aT (mkq c g s) x) _ = _
  rw [(h2 g).2]; rfl
 | di x _ h1 h2 =>
  rw [h1, Option.bind_some]
  show Option.bind (dM true (bA (mkq c g s) x)) _ = _
  rw [(h2 g).1]
  show Option.bind (aM (mkq c g s) x) _ = _
  rw [(h2 g).2]; rfl
 | ac x _ h1 h2 =>
  rw [h1, Option.bind_some]
  show Option.bind (dM true (bx (mkq c g s) x)) _ = _
  rw [(h2 g).1]
  show Option.bind (aL (mkq c g s) x) _ = _
  rw [(h2 g).2]; rfl
 | cl x _ h1 h2 =>
  rw [h1, Option.bind_some]
  show Option.bind (dM true (bw (mkq c g s) x)) _ = _
  rw [(h2 g).1]
  show Option.bind (b7 (mkq c g s) x) _ = _
  rw [(h2 g).2]; rfl
theorem xY {c : aa} {g : af} {z : a7 × Option af × List (List UInt8) × Int} {K : a6 → Option (a7 × Option a6 × Int)} {s s' : Sq} {L : List (List UInt8)} (h : Run c s L s') : ∀ i, forI (ie z) K i L (mkq c g s) = K (mkq c g s') := by
 induction h with
 | nil s => exact fun i => rfl
 | cons a _ ih =>
  intro i
  rw [← ih (i + 1)]
  exact Bn a z _ i
theorem se {c : aa} {K : List Int → Option (a7 × Option a6 × Int)} : ∀ (n i : Nat) (x : List Int), x.length + n ≤ lim → forU (dZ c) K n i x = K (x ++ List.replicate n c.base)
 | 0, i, x, _ => by show K x = _; rw [List.replicate_zero, List.append_nil]
 | n + 1, i, x, h => by
  have ih := se (K := K) (c := c) n (i + 1) (x ++ [c.base]) (by rw [List.length_append, List.length_singleton]; omega)
  show dZ c (forU (dZ c) K n (i + 1)) i x = _
  generalize forU (dZ c) K n (i + 1) = f at ih ⊢
  unfold dZ
  rw [aD (by rw [decide_eq_true_eq]; omega), ih, List.append_assoc, List.replicate_succ]; rfl
theorem tp {l : List Int} (h : l.length ≤ lim) : bR l = some l := by
 unfold bR nilc
 cases l with
 | nil => rfl
 | cons a l =>
  show chk _ _ = _
  rw [aD (by rw [decide_eq_true_eq]; omega)]; rfl
def s0 (c : aa) : Sq := ⟨List.replicate c.sites.toNat c.base, none, [], 1, []⟩
theorem zS {c : aa} {d d' : a7} {g : af} {L : List (List UInt8)} {s' : Sq} (hc : dB c = some true) (h1 : c.links.length ≤ lim) (h2 : c.members.length ≤ lim) (h3 : c.sites.toNat ≤ lim) {size : Int} (h : fN d ⟨#[103]⟩ size = some (d', some g, L, 0)) (hr : Run c (s0 c) L s') :
  ea d size c = some (d', some (mkq c g s'), 0) := by
 unfold ea
 rw [hc, Option.bind_some, show (!true) = false from rfl, ax rfl, h, Option.bind_some]
 simp only
 rw [ax (by decide), tp h1, Option.bind_some, Option.bind_some, tp h2, Option.bind_some, se _ _ _ (by simpa using h3), List.nil_append]
 exact xY hr 0
end Fw
end Go.Proofs.YtlfmppjcgaekhaaGreat
namespace Go.Proofs.YtlfmppjcgaekhaaGreat
namespace Fw
set_option linter.unusedVariables false
set_option linter.unusedSimpArgs false
set_option linter.unusedSectionVars false
def nG : ByteArray := ⟨#[103]⟩
theorem nmG : Nm nG := nm1 (by decide)
def gl (L : List (List UInt8)) : af := lg nG 0 4096 (bsOf 4096 L) L.length
def RQ : Nat := 16777216
structure QI (c : aa) (N : Nat) (d : a7) (L : List (List UInt8)) (s : Sq) : Prop where
 di : DI RQ N d
 rk : Rk L
 on : Only nG 0 (bsOf 4096 L) d.seen
 ln : L.length = N
 run : Run c (s0 c) L s
 sz : Fw.sz d.seen ≤ 1000 * N
section
variable {c : aa} {N : Nat} {d : a7} {L : List (List UInt8)} {s s' : Sq} {b : List UInt8}
theorem xw : RQ ≤ MX := by unfold RQ MX; omega
theorem QI.sync (h : QI c N d L s) : QI c N (nj d) L s := ⟨h.di.sync, h.rk, h.on, h.ln, h.run, h.sz⟩
theorem QI.app (h : QI c N d L s) (hs : Stp c s s' b) (hb : b.length ≤ 900) (hN : N < 1000) : ∃ d', b4 (gl L) b d = some (gl (L ++ [b]), d', 0) ∧ QI c (N + 1) d' (L ++ [b]) s' := by
 have hln := h.ln
 have hsz := h.sz
 obtain ⟨z, a1, a2, a3⟩ := Bx h.di xw (by rw [aJ]; omega) nmG (g := 0) (Nat.zero_le _) (size := 4096) (by omega) (by omega) h.on.1 (cnt := L.length) (by omega) b
 have hbl := yF 4096 L
 have hf : (fr b).length ≤ 910 := by
  have := rt b
  have h2 := uZ 4 b.length (by omega)
  omega
 have e := B7 a2 (by omega) (by omega) (by unfold RQ; omega)
 subst e
 have hp := sS 4096 (bsOf 4096 L) (fr b)
 refine ⟨_, ?_, a3, ?_, ?_, ?_, h.run.snoc hs, ?_⟩
 ·unfold gl
  rw [a1, pT, List.length_append, List.length_singleton]
 ·intro x hx
  rcases List.mem_append.1 hx with hx | hx
  ·exact h.rk x hx
  ·rw [List.mem_singleton.1 hx]; omega
 ·rw [pT]
  exact h.on.add nmG (by omega)
 ·rw [List.length_append, List.length_singleton]; omega
 ·show Fw.sz (dAdd d nG 0 4096 (bsOf 4096 L) (fr b)).seen ≤ _
  rw [B0]; omega
theorem B4 (h : QI c N d L s) (hN : N < 1000) {x : ar} (hw : i8 x = some b) (hr : aW b = some (.queue_issue x, true)) (hb : b.length ≤ 900)
  (hs : ∀ g, bC (mkq c g s) x = some true ∧ aT (mkq c g s) x = some (mkq c g s')) :
  ∃ d', cY (mkq c (gl L) s) x true d = some (mkq c (gl (L ++ [b])) s', d', 0) ∧ QI c (N + 1) d' (L ++ [b]) s' := by
 obtain ⟨d', a1, a2⟩ := h.app (.is x b hr hs) hb hN
 refine ⟨nj d', ?_, a2.sync⟩
 unfold cY
 rw [(hs _).1, Option.bind_some, show (!true) = false from rfl, ax rfl, hw, Option.bind_some]
 show Option.bind (b4 (gl L) b d) _ = _
 rw [a1, Option.bind_some]
 simp only
 rw [ax (by decide), bm rfl]
 unfold cc
 rw [qS, Option.bind_some, Option.bind_some]
 unfold db
 rw [hr, Option.bind_some]
 show Option.bind (aT (mkq c (gl (L ++ [b])) s) x) (fun z => some (z, nj d', (0 : Int))) = _
 rw [(hs _).2, Option.bind_some]
theorem Bj (h : QI c N d L s) (hN : N < 1000) {x : aj} (hw : fc x = some b) (hr : aW b = some (.queue_did x, true)) (hb : b.length ≤ 900)
  (hs : ∀ g, bA (mkq c g s) x = some true ∧ aM (mkq c g s) x = some (mkq c g s')) :
  ∃ d', cp (mkq c (gl L) s) x true d = some (mkq c (gl (L ++ [b])) s', d', 0) ∧ QI c (N + 1) d' (L ++ [b]) s' := by
 obtain ⟨d', a1, a2⟩ := h.app (.di x b hr hs) hb hN
 refine ⟨nj d', ?_, a2.sync⟩
 unfold cp
 rw [(hs _).1, Option.bind_some, show (!true) = false from rfl, ax rfl, hw, Option.bind_some]
 show Option.bind (b4 (gl L) b d) _ = _
 rw [a1, Option.bind_some]
 simp only
 rw [ax (by decide), bm rfl]
 unfold cc
 rw [qS, Option.bind_some, Option.bind_some]
 unfold cz
 rw [hr, Option.bind_some]
 show Option.bind (aM (mkq c (gl (L ++ [b])) s) x) (fun z => some (z, nj d', (0 : Int))) = _
 rw [(hs _).2, Option.bind_some]
theorem Bz (h : QI c N d L s) (hN : N < 1000) {x : ak} (hw : eY x = some b) (hr : aW b = some (.queue_ack x, true)) (hb : b.length ≤ 900)
  (hs : ∀ g, bx (mkq c g s) x = some true ∧ aL (mkq c g s) x = some (mkq c g s')) :
  ∃ d', d8 (mkq c (gl L) s) x false d = some (mkq c (gl (L ++ [b])) s', d', 0) ∧ QI c (N + 1) d' (L ++ [b]) s' := by
 obtain ⟨d', a1, a2⟩ := h.app (.ac x b hr hs) hb hN
 refine ⟨d', ?_, a2⟩
 unfold d8
 rw [(hs _).1, Option.bind_some, show (!true) = false from rfl, ax rfl, hw, Option.bind_some]
 show Option.bind (b4 (gl L) b d) _ = _
 rw [a1, Option.bind_some]
 simp only
 rw [ax (by decide), ax rfl]
 unfold cv
 rw [hr, Option.bind_some]
 show Option.bind (aL (mkq c (gl (L ++ [b])) s) x) (fun z => some (z, d', (0 : Int))) = _
 rw [(hs _).2, Option.bind_some]
theorem B9 (h : QI c N d L s) (hN : N < 1000) {x : au} (hw : eW x = some b) (hr : aW b = some (.queue_clear x, true)) (hb : b.length ≤ 900)
  (hs : ∀ g, bw (mkq c g s) x = some true ∧ b7 (mkq c g s) x = some (mkq c g s')) :
  ∃ d', d6 (mkq c (gl L) s) x true d = some (mkq c (gl (L ++ [b])) s', d', 0) ∧ QI c (N + 1) d' (L ++ [b]) s' := by
 obtain ⟨d', a1, a2⟩ := h.app (.cl x b hr hs) hb hN
 refine ⟨nj d', ?_, a2.sync⟩
 unfold d6
 rw [(hs _).1, Option.bind_some, show (!true) = false from rfl, ax rfl, hw, Option.bind_some]
 show Option.bind (b4 (gl L) b d) _ = _
 rw [a1, Option.bind_some]
 simp only
 rw [ax (by decide), bm rfl]
 unfold cc
 rw [qS, Option.bind_some, Option.bind_some]
 unfold cw
 rw [hr, Option.bind_some]
 show Option.bind (b7 (mkq c (gl (L ++ [b])) s) x) (fun z => some (z, nj d', (0 : Int))) = _
 rw [(hs _).2, Option.bind_some]
structure CR (c : aa) : Prop where
 right : dB c = some true
 self : 1 ≤ c.self ∧ c.self ≤ c.sites
 sites : 1 ≤ c.sites ∧ c.sites ≤ 16
 links : ∀ x ∈ c.links, 1 ≤ x ∧ x ≤ c.sites ∧ x ≠ c.self
 nd : c.links.Nodup
 ll : c.links.length ≤ 16
 ml : c.members.length ≤ 16
 cap : 1 ≤ c.cap
 base : 0 ≤ c.base
theorem QI.reopen (h : QI c N d L s) (hc : CR c) (hN : N < 1000) : ea d 4096 c = some (d, some (mkq c (gl L) s), 0) := by
 have hln := h.ln
 obtain ⟨d', a1, a2, a3, a4, a5⟩ := wI h.di xw (by rw [aJ]; omega) nmG 4096 h.on
 rw [wZ 4096 h.rk] at a1 a5
 rw [a5 rfl] at a1
 have h1 := hc.ll
 have h2 := hc.ml
 have h3 := hc.sites
 exact zS hc.right (by rw [aJ]; omega) (by rw [aJ]; omega) (by rw [aJ]; omega) a1 h.run
theorem qi0 (c : aa) : QI c 0 (d0 16777216) [] (s0 c) := ⟨di0 16777216, (fun x hx => by cases hx), Only.nil, rfl, .nil _, Nat.zero_le _⟩
end
end Fw
end Go.Proofs.YtlfmppjcgaekhaaGreat
