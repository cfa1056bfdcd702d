/- The plain side: what the models come to. No condition. -/
import Derived.Test.YtckindfllegbgaaGreatG6
import Derived.Test.YtckindfllegbgaaGreatH1
namespace Go.Proofs.YtckindfllegbgaaGreat
namespace Fw
set_option linter.unusedVariables false
set_option linter.unusedSimpArgs false
set_option linter.unusedSectionVars false

/-! ### loops -/
section
variable {α S R : Type} [Inhabited α]
theorem forI_inv {body : (S → Option R) → Nat → α → S → Option R} {k : S → Option R} {l : List α} (T : Nat → S → Option R) (I : Nat → S → Prop) (hend : ∀ s, I l.length s → k s = T l.length s)
    (hstep : ∀ f i s, i < l.length → I i s → (∀ s', I (i + 1) s' → f s' = T (i + 1) s') → body f i (gt l i) s = T i s) {s : S} (h0 : I 0 s) : forI body k 0 l s = T 0 s := by
  have key : ∀ m i s, l.length - i = m → i ≤ l.length → I i s → forI body k i (l.drop i) s = T i s := by
    intro m
    induction m with
    | zero =>
      intro i s hm hi hI
      have : i = l.length := by omega
      subst this
      rw [List.drop_of_length_le (Nat.le_refl _)]
      exact hend s hI
    | succ m ih =>
      intro i s hm hi hI
      rw [drop_gt (by omega)]
      exact hstep _ i s (by omega) hI fun s' h' => ih (i + 1) s' (by omega) (by omega) h'
  exact key _ 0 s rfl (Nat.zero_le _) h0
end
theorem gcall_s {R : Type} [Inhabited R] (g : Bool) (v : R) : gcall g (some v) = some (bif g then v else default) := by cases g <;> rfl
theorem chk_t {R : Type} {c : Bool} {k : Option R} (h : c = true) : chk c k = k := by rw [h]; rfl
theorem bif_t {R : Type} {c : Bool} {x y : R} (h : c = true) : (bif c then x else y) = x := by rw [h]; rfl
theorem bif_f {R : Type} {c : Bool} {x y : R} (h : c = false) : (bif c then x else y) = y := by rw [h]; rfl

instance : LawfulBEq ByteArray where
  eq_of_beq {a b} h := by rw [bytes_beq] at h; exact of_decide_eq_true h
  rfl {a} := by rw [bytes_beq]; exact decide_eq_true rfl

/-! ### maps -/
section
variable {κ α : Type} [DecidableEq κ] {x y : κ} {v : α} {es : List (κ × α)}
/-- no key twice -/
def NK (es : List (κ × α)) : Prop := (es.map (·.1)).Nodup
theorem NK.nil : NK ([] : List (κ × α)) := by simp [NK]
theorem NK.cons {p : κ × α} : NK (p :: es) ↔ (∀ q ∈ es, q.1 ≠ p.1) ∧ NK es := by
  unfold NK
  rw [List.map_cons, List.nodup_cons]
  refine ⟨fun h => ⟨fun q hq e => h.1 (by rw [← e]; exact List.mem_map.2 ⟨q, hq, rfl⟩), h.2⟩, fun h => ⟨fun hm => ?_, h.2⟩⟩
  obtain ⟨q, hq, e⟩ := List.mem_map.1 hm
  exact h.1 q hq e
theorem mget_isSome : (mget x es).isSome = true ↔ x ∈ es.map (·.1) := by
  induction es with
  | nil => simp [mget]
  | cons p es ih =>
    unfold mget
    split
    · rename_i h; simp [h]
    · rename_i h; rw [ih]; simp [h]
theorem mem_mput2 {p : κ × α} : ∀ {es : List (κ × α)}, p ∈ mput x v es → p = (x, v) ∨ p ∈ es
  | [], h => by simp only [mput, List.mem_singleton] at h; exact .inl h
  | q :: es, h => by
    unfold mput at h
    split at h
    · rcases List.mem_cons.1 h with h | h
      · exact .inl h
      · exact .inr (List.mem_cons_of_mem _ h)
    · rcases List.mem_cons.1 h with h | h
      · exact .inr (h ▸ List.mem_cons_self)
      · exact (mem_mput2 h).imp id (List.mem_cons_of_mem _)
theorem mem_mdel2 {p : κ × α} : ∀ {es : List (κ × α)}, p ∈ mdel x es → p ∈ es
  | [], h => by cases h
  | q :: es, h => by
    unfold mdel at h
    split at h
    · exact List.mem_cons_of_mem _ h
    · rcases List.mem_cons.1 h with h | h
      · exact h ▸ List.mem_cons_self
      · exact List.mem_cons_of_mem _ (mem_mdel2 h)
theorem NK.put : ∀ {es : List (κ × α)}, NK es → NK (mput x v es)
  | [], _ => by simp [NK, mput]
  | p :: es, h => by
    rw [NK.cons] at h
    unfold mput
    split
    · rename_i e; rw [NK.cons]; exact ⟨fun q hq => by rw [e]; exact h.1 q hq, h.2⟩
    · rename_i e
      rw [NK.cons]
      refine ⟨fun q hq => ?_, h.2.put⟩
      rcases mem_mput2 hq with rfl | hq
      · exact e
      · exact h.1 q hq
theorem NK.del : ∀ {es : List (κ × α)}, NK es → NK (mdel x es)
  | [], _ => by simp [NK, mdel]
  | p :: es, h => by
    rw [NK.cons] at h
    unfold mdel
    split
    · exact h.2
    · rw [NK.cons]; exact ⟨fun q hq => h.1 q (mem_mdel2 hq), h.2.del⟩
theorem mget_none2 (h : ∀ q ∈ es, q.1 ≠ x) : mget x es = none := by
  induction es with
  | nil => rfl
  | cons p es ih =>
    unfold mget
    rw [if_neg (fun e => h p List.mem_cons_self e.symm)]
    exact ih fun q hq => h q (List.mem_cons_of_mem _ hq)
theorem mget_mdel : ∀ {es : List (κ × α)}, NK es → mget y (mdel x es) = if y = x then none else mget y es
  | [], _ => by simp [mget, mdel]
  | p :: es, h => by
    rw [NK.cons] at h
    unfold mdel
    split
    · rename_i e
      by_cases hy : y = x
      · rw [if_pos hy, hy, e]; exact mget_none2 h.1
      · rw [if_neg hy, mget, if_neg (fun e2 => hy (e2.trans e.symm))]
    · rename_i e
      rw [mget, mget_mdel h.2]
      by_cases hy : y = p.1
      · rw [if_pos hy, if_neg (fun e2 => e (e2.symm.trans hy)), mget, if_pos hy]
      · rw [if_neg hy, mget, if_neg hy]
theorem len_mput : ∀ {es : List (κ × α)}, (mput x v es).length ≤ es.length + 1
  | [] => by simp [mput]
  | p :: es => by
    unfold mput
    split
    · simp
    · have := len_mput (es := es); simp only [List.length_cons]; omega
theorem len_mdel : ∀ {es : List (κ × α)}, (mdel x es).length ≤ es.length
  | [] => by simp [mdel]
  | p :: es => by
    unfold mdel
    split
    · simp
    · have := len_mdel (es := es); simp only [List.length_cons]; omega
end
/-- how many bytes the files of a map have -/
def sz (es : List (ByteArray × List UInt8)) : Nat := (es.map (fun p => p.2.length)).sum
section
variable {x : ByteArray} {v : List UInt8} {es : List (ByteArray × List UInt8)}
theorem sz_put : sz (mput x v es) + ((mget x es).getD []).length = sz es + v.length := by
  induction es with
  | nil => simp [sz, mput, mget]
  | cons p es ih =>
    unfold mput mget
    split
    · simp [sz]; omega
    · simp only [sz, List.map_cons, List.sum_cons] at ih ⊢; omega
theorem sz_del : sz (mdel x es) + ((mget x es).getD []).length = sz es := by
  induction es with
  | nil => simp [sz, mdel, mget]
  | cons p es ih =>
    unfold mdel mget
    split
    · simp [sz]; omega
    · simp only [sz, List.map_cons, List.sum_cons] at ih ⊢; omega
theorem sz_get : ((mget x es).getD []).length ≤ sz es := by have := sz_del (x := x) (es := es); omega
end

theorem ba_inj {a b : ByteArray} (h : a.data.toList = b.data.toList) : a = b := by
  rcases a with ⟨⟨a⟩⟩
  rcases b with ⟨⟨b⟩⟩
  simp only at h
  rw [h]
theorem mem_skeys {β : Type} {es : List (ByteArray × β)} {k : ByteArray} : k ∈ skeys es ↔ k ∈ es.map (·.1) := by
  unfold skeys
  simp only [List.mem_map, List.mem_mergeSort]
  constructor
  · rintro ⟨l, ⟨p, hp, rfl⟩, rfl⟩; exact ⟨p, hp, ba_inj (by simp)⟩
  · rintro ⟨p, hp, rfl⟩; exact ⟨_, ⟨p, hp, rfl⟩, ba_inj (by simp)⟩
theorem skeys_nd {β : Type} {es : List (ByteArray × β)} (hn : NK es) : (skeys es).Nodup := by
  unfold skeys
  refine List.Pairwise.map _ (R := fun a b => a ≠ b) (fun a b h e => h ?_) ?_
  · have := congrArg (fun x : ByteArray => x.data.toList) e
    simpa using this
  · have : (es.map (fun p => p.1.data.toList)).Nodup := by
      rw [show (fun p : ByteArray × β => p.1.data.toList) = ((fun b : ByteArray => b.data.toList) ∘ (·.1)) from rfl, ← List.map_map]
      exact List.Pairwise.map _ (fun a b h e => h (ba_inj e)) hn
    exact (List.mergeSort_perm _ _).nodup_iff.2 this
theorem loopN_s {S R : Type} {b : (S → Option R) → S → Option R} {n : Nat} {s : S} : loopN b (n + 1) s = b (loopN b n) s := rfl
end Fw
end Go.Proofs.YtckindfllegbgaaGreat

namespace Go.Proofs.YtckindfllegbgaaGreat
namespace Fw
set_option linter.unusedVariables false
set_option linter.unusedSimpArgs false
set_option linter.unusedSectionVars false

/-! ### numbers -/
/-- a number's bytes -/
def pn (n : Nat) : List UInt8 := if n < 128 then [UInt8.ofNat n] else UInt8.ofNat (n % 128 + 128) :: pn (n / 128)
 decreasing_by omega
theorem pn_lt {n : Nat} (h : n < 128) : pn n = [UInt8.ofNat n] := by unfold pn; rw [if_pos h]
theorem pn_ge {n : Nat} (h : ¬ n < 128) : pn n = UInt8.ofNat (n % 128 + 128) :: pn (n / 128) := by rw [pn, if_neg h]
theorem pn_len : ∀ (k n : Nat), n < 128 ^ (k + 1) → (pn n).length ≤ k + 1 := by
  intro k
  induction k with
  | zero => intro n h; rw [pn_lt (by omega)]; simp
  | succ k ih =>
    intro n h
    by_cases h1 : n < 128
    · rw [pn_lt h1]; simp
    · rw [pn_ge h1]
      have := ih (n / 128) (by rw [Nat.pow_succ] at h; omega)
      simp; omega
theorem ior8 : ∀ k : Fin 256, ior .u8 (k.val : Int) 128 = (k.val % 128 + 128 : Nat) := by decide +kernel
theorem put_loop : ∀ (k u F : Nat) (b : List UInt8), u < 128 ^ (k + 1) → b.length + k + 1 ≤ lim → loopN m_num_PutNum_b1 (F + k + 1) (b, (u : Int)) = some (b ++ pn u) := by
  intro k
  induction k with
  | zero =>
    intro u F b h hb
    rw [loopN_s]
    generalize loopN m_num_PutNum_b1 (F + 0) = f
    unfold m_num_PutNum_b1
    simp only
    rw [bif_f (by rw [decide_eq_false_iff_not]; omega), chk_t (by simp; omega), pn_lt (by omega), wu8_i (by unfold U8; omega)]
    rfl
  | succ k ih =>
    intro u F b h hb
    rw [show F + (k + 1) + 1 = (F + k + 1) + 1 by omega, loopN_s]
    generalize hf : loopN m_num_PutNum_b1 (F + k + 1) = f
    unfold m_num_PutNum_b1
    simp only
    by_cases h1 : u < 128
    · rw [bif_f (by rw [decide_eq_false_iff_not]; omega), chk_t (by simp; omega), pn_lt h1, wu8_i (by unfold U8; omega)]; rfl
    · have e1 : wu8 (u : Int) = (((⟨u % 256, by omega⟩ : Fin 256).val : Nat) : Int) := by unfold wu8; simp
      rw [bif_t (by rw [decide_eq_true_eq]; omega), e1, ior8]
      have e2 : (u % 256 % 128 + 128 : Nat) = u % 128 + 128 := by omega
      simp only [e2]
      rw [chk_t (by unfold u8b; simp; omega), chk_t (by simp; omega)]
      have e3 : ishr .u64 (u : Int) 7 = ((u / 128 : Nat) : Int) := by unfold ishr; rfl
      rw [e3, ← hf, ih (u / 128) F _ (by rw [Nat.pow_succ] at h; omega) (by simp; omega), pn_ge h1]
      unfold b8
      rw [Int.toNat_natCast, List.append_assoc]; rfl
theorem e_PutNum {n : Nat} (h : n < 9223372036854775808) : m_num_PutNum (n : Int) = some (pn n) := by
  unfold m_num_PutNum
  rw [show wu64 (max (n : Int) 0) = (n : Int) by rw [wu64_i (by unfold U64; omega)]; omega]
  obtain ⟨F, hF⟩ : ∃ F, FU = F + 8 + 1 := ⟨FU - 9, by unfold FU; omega⟩
  rw [hF]
  exact put_loop 8 n F [] (by omega) (by rw [lim_eq]; simp)

/-- what bytes tell: the number, how many bytes it has, an error -/
def numF : Nat → Nat → List UInt8 → Nat × Nat × Int
  | _, _, [] => (0, 0, 4)
  | i, n, c :: l => if (i = 8 ∧ 127 < c.toNat) ∨ (0 < i ∧ c.toNat = 0) then (0, 0, 2) else if c.toNat < 128 then (n + c.toNat * 128 ^ i, i + 1, 0) else numF (i + 1) (n + (c.toNat - 128) * 128 ^ i) l
/-! ### check sums -/
def crcB (r : BitVec 32) : BitVec 32 := (r >>> 1) ^^^ (3988292384#32 &&& -(r &&& 1#32))
def crcN : Nat → BitVec 32 → BitVec 32
  | 0, r => r
  | k + 1, r => crcN k (crcB r)
def crc (r : BitVec 32) (c : UInt8) : BitVec 32 := crcN 8 (r ^^^ BitVec.ofNat 32 c.toNat)
def sumB (l : List UInt8) : BitVec 32 := ~~~ (l.foldl crc 4294967295#32)
theorem of_toNat (x : BitVec 32) : BitVec.ofInt 32 ((x.toNat : Nat) : Int) = x := by rw [BitVec.ofInt_natCast, BitVec.ofNat_toNat]; simp
theorem wr32 (x : BitVec 32) : wr .u32 ((x.toNat : Nat) : Int) = (x.toNat : Int) := by
  have := x.isLt
  show wu32 _ = _
  exact wu32_i (by unfold U32; omega)
theorem ixor_b (x y : BitVec 32) : ixor .u32 (x.toNat : Int) (y.toNat : Int) = ((x ^^^ y).toNat : Int) := by
  unfold ixor
  show wr .u32 (((BitVec.ofInt 32 (x.toNat : Int) ^^^ BitVec.ofInt 32 (y.toNat : Int)).toNat : Nat) : Int) = _
  rw [of_toNat, of_toNat, wr32]
theorem iand_b (x y : BitVec 32) : iand .u32 (x.toNat : Int) (y.toNat : Int) = ((x &&& y).toNat : Int) := by
  unfold iand
  show wr .u32 (((BitVec.ofInt 32 (x.toNat : Int) &&& BitVec.ofInt 32 (y.toNat : Int)).toNat : Nat) : Int) = _
  rw [of_toNat, of_toNat, wr32]
theorem neg_b (x : BitVec 32) : wu32 (0 - (x.toNat : Int)) = ((-x).toNat : Int) := by
  have := x.isLt
  unfold wu32
  rw [BitVec.toNat_neg]
  omega
theorem crcB_eq (r : BitVec 32) : ixor .u32 (ishr .u32 (r.toNat : Int) 1) (iand .u32 3988292384 (wu32 (0 - (iand .u32 (r.toNat : Int) 1)))) = ((crcB r).toNat : Int) := by
  have e1 : iand .u32 (r.toNat : Int) 1 = ((r &&& 1#32).toNat : Int) := iand_b r 1#32
  have e2 : ishr .u32 (r.toNat : Int) 1 = ((r >>> 1).toNat : Int) := by
    unfold ishr
    show (r.toNat : Int) / 2 ^ 1 = _
    rw [BitVec.toNat_ushiftRight, Nat.shiftRight_eq_div_pow]; push_cast; rfl
  rw [e1, e2, neg_b]
  have e3 : iand .u32 3988292384 (((-(r &&& 1#32)).toNat : Nat) : Int) = ((3988292384#32 &&& -(r &&& 1#32)).toNat : Int) := iand_b 3988292384#32 _
  rw [e3, ixor_b]; rfl
theorem crc_loop {f : Int → Option Int} : ∀ (k i : Nat) (r : BitVec 32), forU m_frame_Sum_b21 f k i (r.toNat : Int) = f ((crcN k r).toNat : Int)
  | 0, _, _ => rfl
  | k + 1, i, r => by
    rw [forU]
    show forU m_frame_Sum_b21 f k (i + 1) (ixor .u32 (ishr .u32 (r.toNat : Int) 1) (iand .u32 3988292384 (wu32 (0 - (iand .u32 (r.toNat : Int) 1))))) = _
    rw [crcB_eq]
    exact crc_loop k (i + 1) (crcB r)
theorem crc_part {f : Int → Option Int} : ∀ (l : List UInt8) (i : Nat) (r : BitVec 32), forI m_frame_Sum_b20 f i l (r.toNat : Int) = f ((l.foldl crc r).toNat : Int)
  | [], _, _ => rfl
  | c :: l, i, r => by
    have hc := c.toNat_lt
    have e : wu32 ((c.toNat : Nat) : Int) = ((BitVec.ofNat 32 c.toNat).toNat : Int) := by
      rw [BitVec.toNat_ofNat, wu32_i (by unfold U32; omega), Nat.mod_eq_of_lt (by omega)]
    rw [forI]
    show forU m_frame_Sum_b21 (forI m_frame_Sum_b20 f (i + 1) l) 8 0 (ixor .u32 (r.toNat : Int) (wu32 ((c.toNat : Nat) : Int))) = _
    rw [e, ixor_b, crc_loop]
    exact crc_part l (i + 1) (crc r c)
theorem crc_parts {f : Int → Option Int} : ∀ (l : List (List UInt8)) (i : Nat) (r : BitVec 32), forI m_frame_Sum_b16 f i l (r.toNat : Int) = f ((l.flatten.foldl crc r).toNat : Int)
  | [], _, _ => rfl
  | p :: l, i, r => by
    rw [forI]
    show forI m_frame_Sum_b20 (forI m_frame_Sum_b16 f (i + 1) l) 0 p (r.toNat : Int) = _
    rw [crc_part, List.flatten_cons, List.foldl_append]
    exact crc_parts l (i + 1) _
theorem e_Sum (l : List (List UInt8)) : m_frame_Sum l = some ((sumB l.flatten).toNat : Int) := by
  unfold m_frame_Sum
  rw [show (4294967295 : Int) = ((4294967295#32).toNat : Int) from rfl, crc_parts]
  unfold icom
  show some (ixor .u32 (((4294967295#32).toNat : Nat) : Int) _) = _
  rw [ixor_b]
  unfold sumB
  congr 2
/-- a sum's bytes -/
def s4 (s : BitVec 32) : List UInt8 := [UInt8.ofNat (s.toNat % 256), UInt8.ofNat (s.toNat / 256 % 256), UInt8.ofNat (s.toNat / 65536 % 256), UInt8.ofNat (s.toNat / 16777216 % 256)]
theorem s4_len (s : BitVec 32) : (s4 s).length = 4 := rfl
theorem sh_eq (s : BitVec 32) (i : Nat) (hi : i < 4) : wu8 (ishr .u32 (s.toNat : Int) (w64 (8 * ((i : Nat) : Int)))) = ((s.toNat / 2 ^ (8 * i) % 256 : Nat) : Int) := by
  rw [w64_i (by unfold I64; omega)]
  unfold ishr wu8
  rw [show (8 * (i : Int)).toNat = 8 * i by omega, show min (8 * i) (IntKind.u32).bits = 8 * i from by show min (8 * i) 32 = _; omega]
  simp only [Int.natCast_emod, Int.natCast_ediv, Int.natCast_pow]; rfl
theorem s4_gt (s : BitVec 32) (i : Nat) (hi : i < 4) : b8 (wu8 (ishr .u32 (s.toNat : Int) (w64 (8 * ((i : Nat) : Int))))) = gt (s4 s) i := by
  rw [sh_eq s i hi]
  unfold b8
  rw [Int.toNat_natCast]
  match i, hi with
  | 0, _ => simp [s4, gt]
  | 1, _ => simp [s4, gt]
  | 2, _ => simp [s4, gt]
  | 3, _ => simp [s4, gt]
end Fw
end Go.Proofs.YtckindfllegbgaaGreat

namespace Go.Proofs.YtckindfllegbgaaGreat
namespace Fw
set_option linter.unusedVariables false
set_option linter.unusedSimpArgs false
set_option linter.unusedSectionVars false

/-- a record's frame -/
def fr (x : List UInt8) : List UInt8 := pn x.length ++ (s4 (sumB (pn x.length ++ x)) ++ x)
theorem fr_len (x : List UInt8) : (fr x).length = (pn x.length).length + 4 + x.length := by unfold fr; simp [s4_len]; omega
theorem pn3 {n : Nat} (h : n ≤ 1048576) : (pn n).length ≤ 3 := pn_len 2 n (by omega)
theorem e_Put {x : List UInt8} (h : x.length ≤ 1048576) : m_frame_Put x = some (fr x, 0) := by
  have h3 := pn3 h
  unfold m_frame_Put
  rw [bif_f (by rw [decide_eq_false_iff_not]; omega), e_PutNum (by omega), Option.bind_some, e_Sum, Option.bind_some]
  simp only [List.flatten_cons, List.flatten_nil, List.append_nil]
  generalize hs : sumB (pn x.length ++ x) = s
  have hstep : ∀ (f : List UInt8 → Option (List UInt8 × Int)) (i : Nat) (out : List UInt8), i < 4 → out.length + 1 ≤ lim → m_frame_Put_b1 (s.toNat : Int) f i out = f (out ++ [gt (s4 s) i]) := by
    intro f i out hi ho
    unfold m_frame_Put_b1
    rw [chk_t (by rw [w64_i (by unfold I64; omega)]; simp; omega), chk_t (by simpa using ho), s4_gt s i hi]
  simp only [forU]
  rw [hstep _ 0 _ (by decide) (by rw [lim_eq]; omega), hstep _ 1 _ (by decide) (by rw [lim_eq]; simp; omega), hstep _ 2 _ (by decide) (by rw [lim_eq]; simp; omega), hstep _ 3 _ (by decide) (by rw [lim_eq]; simp; omega)]
  rw [chk_t (by rw [lim_eq]; simp; omega)]
  unfold fr
  rw [hs]
  simp [s4, gt]
theorem e_Put_long {x : List UInt8} (h : 1048576 < x.length) : m_frame_Put x = some ([], 3) := by
  unfold m_frame_Put
  rw [bif_t (by rw [decide_eq_true_eq]; omega)]

/-- the first frame of bytes: what is in it, how many bytes it has, an error -/
def nextF (l : List UInt8) : List UInt8 × Nat × Int :=
  if (numF 0 0 l).2.2 ≠ 0 then ([], 0, (numF 0 0 l).2.2) else if 1048576 < (numF 0 0 l).1 then ([], 0, 3) else if l.length - (numF 0 0 l).2.1 < (numF 0 0 l).1 + 4 then ([], 0, 4) else
  if (l.drop (numF 0 0 l).2.1).take 4 = s4 (sumB (l.take (numF 0 0 l).2.1 ++ (l.drop ((numF 0 0 l).2.1 + 4)).take (numF 0 0 l).1)) then ((l.drop ((numF 0 0 l).2.1 + 4)).take (numF 0 0 l).1, (numF 0 0 l).2.1 + 4 + (numF 0 0 l).1, 0) else ([], 0, 20)
/-- all frames of bytes: what is in them, how far they go, an error -/
def allF : Nat → List UInt8 → List (List UInt8) × Nat × Int
  | 0, _ => ([], 0, 0)
  | f + 1, l => if l = [] then ([], 0, 0) else if (nextF l).2.2 ≠ 0 then ([], 0, (nextF l).2.2) else ((nextF l).1 :: (allF f (l.drop (nextF l).2.1)).1, (nextF l).2.1 + (allF f (l.drop (nextF l).2.1)).2.1, (allF f (l.drop (nextF l).2.1)).2.2)
def allB (l : List UInt8) : List (List UInt8) × Nat × Int := allF l.length l
theorem all_nil : allB [] = ([], 0, 0) := rfl
/-- the frames of records, one behind the other -/
def frs (l : List (List UInt8)) : List UInt8 := (l.map fr).flatten
theorem frs_app (l m : List (List UInt8)) : frs (l ++ m) = frs l ++ frs m := by unfold frs; rw [List.map_append, List.flatten_append]
def Rk (l : List (List UInt8)) : Prop := ∀ x ∈ l, x.length ≤ 1048576
end Fw
end Go.Proofs.YtckindfllegbgaaGreat

namespace Go.Proofs.YtckindfllegbgaaGreat
namespace Fw
set_option linter.unusedVariables false
set_option linter.unusedSimpArgs false
set_option linter.unusedSectionVars false

/-! ### digits -/
def dz (n : Nat) : List UInt8 := if h : n = 0 then [] else dz (n / 10) ++ [UInt8.ofNat (48 + n % 10)]
 decreasing_by omega
theorem dz_0 : dz 0 = [] := by unfold dz; rfl
theorem dz_s {n : Nat} (h : n ≠ 0) : dz n = dz (n / 10) ++ [UInt8.ofNat (48 + n % 10)] := by rw [dz, dif_neg h]
def ds (n : Nat) : List UInt8 := dz (n / 10) ++ [UInt8.ofNat (48 + n % 10)]
theorem dz_len : ∀ (k n : Nat), n < 10 ^ k → (dz n).length ≤ k := by
  intro k
  induction k with
  | zero => intro n h; rw [show n = 0 by omega, dz_0]; simp
  | succ k ih =>
    intro n h
    by_cases h1 : n = 0
    · rw [h1, dz_0]; simp
    · rw [dz_s h1]
      have := ih (n / 10) (by rw [Nat.pow_succ] at h; omega)
      simp; omega
theorem ds_len {k n : Nat} (h : n < 10 ^ (k + 1)) : (ds n).length ≤ k + 1 := by
  unfold ds
  have := dz_len k (n / 10) (by rw [Nat.pow_succ] at h; omega)
  simp; omega
theorem ds_pos (n : Nat) : 0 < (ds n).length := by unfold ds; simp
theorem dig_v (n : Nat) : (UInt8.ofNat (48 + n % 10)).toNat = 48 + n % 10 := by rw [UInt8.toNat_ofNat_of_lt']; show 48 + n % 10 < 256; omega
theorem dz_dig : ∀ (n : Nat), ∀ c ∈ dz n, 48 ≤ c.toNat ∧ c.toNat ≤ 57 := by
  intro n
  induction n using Nat.strongRecOn with
  | _ n ih =>
    intro c hc
    by_cases h1 : n = 0
    · rw [h1, dz_0] at hc; cases hc
    · rw [dz_s h1] at hc
      rcases List.mem_append.1 hc with h | h
      · exact ih (n / 10) (by omega) c h
      · rw [List.mem_singleton.1 h, dig_v]; omega
theorem ds_dig (n : Nat) : ∀ c ∈ ds n, 48 ≤ c.toNat ∧ c.toNat ≤ 57 := by
  intro c hc
  unfold ds at hc
  rcases List.mem_append.1 hc with h | h
  · exact dz_dig _ c h
  · rw [List.mem_singleton.1 h, dig_v]; omega
def rdV (n : Nat) (l : List UInt8) : Nat := l.foldl (fun n c => 10 * n + (c.toNat - 48)) n
theorem rdV_app (n : Nat) (l m : List UInt8) : rdV n (l ++ m) = rdV (rdV n l) m := by unfold rdV; rw [List.foldl_append]
theorem rdV_dz : ∀ n : Nat, rdV 0 (dz n) = n := by
  intro n
  induction n using Nat.strongRecOn with
  | _ n ih =>
    by_cases h1 : n = 0
    · rw [h1, dz_0]; rfl
    · rw [dz_s h1, rdV_app, ih (n / 10) (by omega)]
      unfold rdV
      simp only [List.foldl_cons, List.foldl_nil, dig_v]
      omega
theorem rdV_ds (n : Nat) : rdV 0 (ds n) = n := by
  unfold ds
  rw [rdV_app, rdV_dz]
  unfold rdV
  simp only [List.foldl_cons, List.foldl_nil, dig_v]
  omega
theorem ds_inj {m n : Nat} (h : ds m = ds n) : m = n := by rw [← rdV_ds m, h, rdV_ds]
theorem drop_set {x : List UInt8} {i : Nat} {v : UInt8} (h : i < x.length) : (x.set i v).drop i = v :: x.drop (i + 1) := by
  rw [List.drop_eq_getElem_cons (by simpa using h)]
  congr 1
  · simp
  · rw [List.drop_set_of_lt (by omega)]
theorem dig_step {n : Int} {f : Int × Int × List UInt8 → Option ByteArray} {at_ u : Nat} {x : List UInt8} (h1 : 0 < at_) (h2 : at_ ≤ 20) (h3 : at_ = 20 ∨ 0 < u) (h4 : u ≤ 18446744073709551615) :
    m_num_Digits_b2 n f ((at_ : Int), (u : Int), x) = f (((at_ - 1 : Nat) : Int), ((u / 10 : Nat) : Int), x.set (at_ - 1) (UInt8.ofNat (48 + u % 10))) := by
  unfold m_num_Digits_b2
  simp only
  have e1 : w64 ((at_ : Int) - 1) = ((at_ - 1 : Nat) : Int) := by rw [w64_i (by unfold I64; omega)]; omega
  have e2 : (u : Int).tdiv 10 = ((u / 10 : Nat) : Int) := by rw [Int.tdiv_eq_ediv_of_nonneg (by omega)]; omega
  have e3 : (u : Int).tmod 10 = ((u % 10 : Nat) : Int) := by rw [Int.tmod_eq_emod_of_nonneg (by omega)]; omega
  rw [e1, e2, e3]
  have c1 : (((at_ : Int) == 20) || decide (0 < (u : Int))) = true := by
    simp only [Bool.or_eq_true, beq_iff_eq, decide_eq_true_eq]; omega
  have c2 : inb ((at_ - 1 : Nat) : Int) 20 = true := by
    unfold inb
    simp only [Bool.and_eq_true, decide_eq_true_eq]; omega
  rw [c1, bif_t rfl, c2, chk_t rfl, wu64_i (x := ((u / 10 : Nat) : Int)) (by unfold U64; omega), wu64_i (x := 48 + ((u % 10 : Nat) : Int)) (by unfold U64; omega), wu8_i (by unfold U8; omega)]
  unfold b8
  rw [Int.toNat_natCast, show (48 + ((u % 10 : Nat) : Int)).toNat = 48 + u % 10 by omega]
theorem dig_loop {n : Int} (hn : 0 ≤ n) : ∀ (k u at_ F : Nat) (acc x : List UInt8), u < 10 ^ k → k ≤ at_ → at_ < 20 → x.length = 20 → x.drop at_ = acc → loopN (m_num_Digits_b2 n) (F + k + 1) ((at_ : Int), (u : Int), x) = some ⟨(dz u ++ acc).toArray⟩ := by
  intro k
  induction k with
  | zero =>
    intro u at_ F acc x hu h1 h2 h3 h4
    obtain rfl : u = 0 := by omega
    rw [loopN_s]
    generalize loopN (m_num_Digits_b2 n) (F + 0) = f
    unfold m_num_Digits_b2 m_num_Digits_j3
    simp only
    rw [bif_f (by simp; omega), bif_f (by simp; omega), chk_t (by simp [inle]; omega), Int.toNat_natCast, h4, dz_0]; rfl
  | succ k ih =>
    intro u at_ F acc x hu h1 h2 h3 h4
    rw [show F + (k + 1) + 1 = (F + k + 1) + 1 by omega, loopN_s]
    by_cases h0 : u = 0
    · generalize loopN (m_num_Digits_b2 n) (F + k + 1) = f
      subst h0
      unfold m_num_Digits_b2 m_num_Digits_j3
      simp only
      rw [bif_f (by simp; omega), bif_f (by simp; omega), chk_t (by simp [inle]; omega), Int.toNat_natCast, h4, dz_0]; rfl
    · have hb : u ≤ 18446744073709551615 := by
        have : 10 ^ (k + 1) ≤ 10 ^ 19 := Nat.pow_le_pow_right (by decide) (by omega)
        omega
      rw [dig_step (by omega) (by omega) (.inr (by omega)) hb, ih (u / 10) (at_ - 1) F (UInt8.ofNat (48 + u % 10) :: acc) _ (by rw [Nat.pow_succ] at hu; omega) (by omega) (by omega) (by simpa using h3) (by rw [drop_set (by omega), show at_ - 1 + 1 = at_ by omega, h4]), dz_s h0]
      simp
theorem e_Digits {n : Nat} (h : n < 10000000000000000000) : m_num_Digits (n : Int) = some ⟨(ds n).toArray⟩ := by
  unfold m_num_Digits m_num_Digits_j1
  rw [bif_f (by simp), wu64_i (by unfold U64; omega)]
  obtain ⟨F, hF⟩ : ∃ F, FU = (F + 18 + 1) + 1 := ⟨FU - 20, by unfold FU; omega⟩
  rw [hF, loopN_s]
  have := dig_step (n := (n : Int)) (f := loopN (m_num_Digits_b2 (n : Int)) (F + 18 + 1)) (at_ := 20) (u := n) (x := List.replicate 20 (b8 0)) (by decide) (by decide) (.inl rfl) (by omega)
  rw [show (((20 : Nat) : Nat) : Int) = 20 from rfl] at this
  rw [this, dig_loop (by omega) 18 (n / 10) 19 F [UInt8.ofNat (48 + n % 10)] _ (by omega) (by decide) (by decide) (by simp) (by rw [drop_set (by simp)]; rfl)]
  rfl

def rdP (s : ByteArray) : Int × Int := (m_num_Read s).getD (0, 0)
theorem ba_size (l : List UInt8) : (⟨l.toArray⟩ : ByteArray).size = l.length := rfl
/-! ### names -/
def ND (l : List UInt8) : Prop := ∀ c ∈ l, c ≠ 46
theorem nd_ds (n : Nat) : ND (ds n) := fun c hc e => by have := ds_dig n c hc; rw [e] at this; exact absurd this.1 (by decide)
theorem dot_split : ∀ {a b x y : List UInt8}, ND a → ND b → a ++ 46 :: x = b ++ 46 :: y → a = b ∧ x = y
  | [], [], x, y, _, _, h => by injection h with _ h; exact ⟨rfl, h⟩
  | [], d :: b, x, y, _, hb, h => by injection h with h _; exact absurd h.symm (hb d List.mem_cons_self)
  | c :: a, [], x, y, ha, _, h => by injection h with h _; exact absurd h (ha c List.mem_cons_self)
  | c :: a, d :: b, x, y, ha, hb, h => by
    injection h with h1 h2
    obtain ⟨e1, e2⟩ := dot_split (fun q hq => ha q (List.mem_cons_of_mem _ hq)) (fun q hq => hb q (List.mem_cons_of_mem _ hq)) h2
    exact ⟨by rw [h1, e1], e2⟩
/-- a log's name -/
structure Nm (nm : ByteArray) : Prop where
  lo : 1 ≤ nm.size
  hi : nm.size ≤ 2
  nd : ND nm.data.toList
theorem nm_len {nm : ByteArray} : nm.data.toList.length = nm.size := rfl
def fn (nm : ByteArray) (g k : Nat) : ByteArray := ((((nm ++ (⟨#[46]⟩ : ByteArray)) ++ ⟨(ds g).toArray⟩) ++ (⟨#[46]⟩ : ByteArray)) ++ ⟨(ds k).toArray⟩)
def mn (nm : ByteArray) : ByteArray := nm ++ (⟨#[46, 109]⟩ : ByteArray)
theorem bl_app (a b : ByteArray) : (a ++ b).data.toList = a.data.toList ++ b.data.toList := ByteArray.toList_data_append
theorem fn_l (nm : ByteArray) (g k : Nat) : (fn nm g k).data.toList = nm.data.toList ++ 46 :: (ds g ++ 46 :: ds k) := by
  unfold fn
  simp only [bl_app]
  simp
theorem mn_l (nm : ByteArray) : (mn nm).data.toList = nm.data.toList ++ 46 :: [109] := by unfold mn; rw [bl_app]
theorem fn_inj {nm nm' : ByteArray} {g k g' k' : Nat} (h : Nm nm) (h' : Nm nm') (e : fn nm g k = fn nm' g' k') : nm = nm' ∧ g = g' ∧ k = k' := by
  have e2 := congrArg (fun b : ByteArray => b.data.toList) e
  simp only [fn_l] at e2
  obtain ⟨e3, e4⟩ := dot_split h.nd h'.nd e2
  obtain ⟨e5, e6⟩ := dot_split (nd_ds g) (nd_ds g') e4
  exact ⟨ba_inj e3, ds_inj e5, ds_inj e6⟩
theorem mn_fn {nm nm' : ByteArray} {g k : Nat} (h : Nm nm) (h' : Nm nm') : mn nm ≠ fn nm' g k := by
  intro e
  have e2 := congrArg (fun b : ByteArray => b.data.toList) e
  simp only [fn_l, mn_l] at e2
  obtain ⟨_, e4⟩ := dot_split h.nd h'.nd e2
  have := congrArg List.length e4
  have h1 := ds_pos g
  have h2 := ds_pos k
  simp at this; omega
theorem fn_size {nm : ByteArray} {g k : Nat} (h : Nm nm) (hg : g ≤ 999999) (hk : k ≤ 999999) : 4 ≤ (fn nm g k).size ∧ (fn nm g k).size ≤ 16 := by
  have h1 : (ds g).length ≤ 6 := ds_len (by omega)
  have h2 : (ds k).length ≤ 6 := ds_len (by omega)
  have h3 := ds_pos g
  have h4 := ds_pos k
  have h5 := h.lo
  have h6 := h.hi
  have : (fn nm g k).size = nm.size + 1 + (ds g).length + 1 + (ds k).length := by
    show (fn nm g k).data.toList.length = _
    rw [fn_l]; simp [nm_len]; omega
  omega
theorem mn_size {nm : ByteArray} (h : Nm nm) : 3 ≤ (mn nm).size ∧ (mn nm).size ≤ 4 := by
  have h5 := h.lo
  have h6 := h.hi
  have : (mn nm).size = nm.size + 2 := by
    show (mn nm).data.toList.length = _
    rw [mn_l]; simp [nm_len]
  omega
theorem e_file {nm : ByteArray} (h : Nm nm) {g k : Nat} (hg : g ≤ 999999) (hk : k ≤ 999999) (p2 : Int) : m_seglog_place_file nm p2 (g : Int) (k : Int) = some (fn nm g k) := by
  have h1 : (ds g).length ≤ 6 := ds_len (by omega)
  have h2 : (ds k).length ≤ 6 := ds_len (by omega)
  have h6 := h.hi
  have hs1 : (⟨#[46]⟩ : ByteArray).size = 1 := rfl
  unfold m_seglog_place_file
  rw [e_Digits (by omega), Option.bind_some, e_Digits (by omega), Option.bind_some]
  have l := lim_eq
  rw [chk_t (by simp only [ByteArray.size_append, ba_size, hs1, decide_eq_true_eq]; omega), chk_t (by simp only [ByteArray.size_append, ba_size, hs1, decide_eq_true_eq]; omega), chk_t (by simp only [ByteArray.size_append, ba_size, hs1, decide_eq_true_eq]; omega), chk_t (by simp only [ByteArray.size_append, ba_size, hs1, decide_eq_true_eq]; omega), chk_t (by simp only [ByteArray.size_append, ba_size, hs1, decide_eq_true_eq]; omega)]
  rfl
/-- a string without its beginning, if it has it -/
def cutP (s p : ByteArray) : ByteArray × Bool := if p.size ≤ s.size ∧ s.extract 0 p.size = p then (s.extract p.size s.size, true) else (s, false)
/-- a string ahead of its first point, and behind it -/
def cutD (s : ByteArray) : ByteArray × ByteArray × Bool := if 0 ≤ ixb s 46 then (s.extract 0 (ixb s 46).toNat, s.extract ((ixb s 46).toNat + 1) s.size, true) else (s, ByteArray.empty, false)
/-- the generation and the number that a file's name tells -/
def pf (nm f : ByteArray) : Option (Int × Int) :=
  if ((cutP f (nm ++ (⟨#[46]⟩ : ByteArray))).2 && (cutD (cutP f (nm ++ (⟨#[46]⟩ : ByteArray))).1).2.2 && ((rdP (cutD (cutP f (nm ++ (⟨#[46]⟩ : ByteArray))).1).1).2 == 0) && ((rdP (cutD (cutP f (nm ++ (⟨#[46]⟩ : ByteArray))).1).2.1).2 == 0) && (decide ((rdP (cutD (cutP f (nm ++ (⟨#[46]⟩ : ByteArray))).1).1).1 ≤ 999999)) && (decide (1 ≤ (rdP (cutD (cutP f (nm ++ (⟨#[46]⟩ : ByteArray))).1).2.1).1)) && (decide ((rdP (cutD (cutP f (nm ++ (⟨#[46]⟩ : ByteArray))).1).2.1).1 ≤ 999999))) = true
  then some ((rdP (cutD (cutP f (nm ++ (⟨#[46]⟩ : ByteArray))).1).1).1, (rdP (cutD (cutP f (nm ++ (⟨#[46]⟩ : ByteArray))).1).2.1).1) else none
end Fw
end Go.Proofs.YtckindfllegbgaaGreat

namespace Go.Proofs.YtckindfllegbgaaGreat
namespace Fw
set_option linter.unusedVariables false
set_option linter.unusedSimpArgs false
set_option linter.unusedSectionVars false

abbrev Mp := List (ByteArray × List UInt8)
abbrev Cg := Cdisk_change_do
abbrev Dc := Ddisk_change
abbrev Dk := Odisk_Disk
/-- what a change does -/
def ap : Cg → Mp → Mp
  | .disk_Disk_Remove_1 a, es => mdel a es
  | .disk_add_1 n b, es => mput n ((mget n es).getD [] ++ b) es
  | .disk_Disk_Cut_1 n k, es => mput n (((mget n es).getD []).take k.toNat) es
def okc : Cg → Mp → Prop
  | .disk_Disk_Cut_1 n k, es => (mget n es).isSome = true ∧ 0 ≤ k ∧ k ≤ (((mget n es).getD []).length : Int)
  | .disk_Disk_Remove_1 a, es => (mget a es).isSome = true
  | _, _ => True
theorem ap_nk {c : Cg} {es : Mp} (h : NK es) : NK (ap c es) := by
  cases c with
  | disk_Disk_Remove_1 a => exact h.del
  | disk_add_1 n b => exact h.put
  | disk_Disk_Cut_1 n k => exact h.put
theorem ap_len {c : Cg} {es : Mp} : (ap c es).length ≤ es.length + 1 := by
  cases c with
  | disk_Disk_Remove_1 a => exact Nat.le_trans len_mdel (Nat.le_succ _)
  | disk_add_1 n b => exact len_mput
  | disk_Disk_Cut_1 n k => exact len_mput
theorem sz_add {n : ByteArray} {b : List UInt8} {es : Mp} : sz (ap (.disk_add_1 n b) es) = sz es + b.length := by
  have := sz_put (x := n) (v := (mget n es).getD [] ++ b) (es := es)
  rw [List.length_append] at this
  show sz (mput n _ es) = _
  omega
theorem e_chg {c : Cg} {es : Mp} (hok : okc c es) (h : sz (ap c es) ≤ lim) : m_call_Cdisk_change_do c es = some (ap c es) := by
  cases c with
  | disk_Disk_Remove_1 a => rfl
  | disk_add_1 n b =>
    rw [sz_add] at h
    have := sz_get (x := n) (es := es)
    show m_disk_add_1 es n b = _
    unfold m_disk_add_1 m_slices_Clip_byte_byte
    rw [Option.bind_some, chk_t (by simp; omega)]; rfl
  | disk_Disk_Cut_1 n k =>
    obtain ⟨_, h1, h2⟩ := hok
    show m_disk_Disk_Cut_1 es n k = _
    unfold m_disk_Disk_Cut_1
    rw [chk_t (by simp [inle, h1, h2])]; rfl
def run (cs : List Dc) (es : Mp) : Mp := cs.foldl (fun es c => ap c.do_ es) es
theorem run_snoc {cs : List Dc} {c : Dc} {es : Mp} : run (cs ++ [c]) es = ap c.do_ (run cs es) := by simp [run, List.foldl_append]
theorem run_nk {cs : List Dc} {es : Mp} (h : NK es) : NK (run cs es) := by
  induction cs generalizing es with
  | nil => exact h
  | cons c cs ih => exact ih (ap_nk h)
/-- what a change keeps of itself -/
def Tl (c : Dc) : Prop := match c.do_ with
  | .disk_add_1 n b => c.name = n ∧ c.tail = b
  | _ => c.tail = []
/-- a disk of a room, with so many files and changes at most -/
structure DI (R N : Nat) (d : Dk) : Prop where
  rd : d.room = (R : Int)
  see : d.seen = run d.loose d.safe_
  nks : NK d.safe_
  szs : ∀ k, k ≤ d.loose.length → sz (run (d.loose.take k) d.safe_) ≤ R
  lns : ∀ k, k ≤ d.loose.length → (run (d.loose.take k) d.safe_).length ≤ N
  oks : ∀ k, k < d.loose.length → okc (gt d.loose k).do_ (run (d.loose.take k) d.safe_)
  tls : ∀ k, k < d.loose.length → Tl (gt d.loose k)
  ll : d.loose.length ≤ N
def MX : Nat := 1073741824
theorem MX_lim {R : Nat} (hR : R ≤ MX) : R ≤ lim := by rw [lim_eq]; unfold MX at hR; omega
section
variable {R N : Nat} {d : Dk}
theorem DI.mono (h : DI R N d) {M : Nat} (hm : N ≤ M) : DI R M d := ⟨h.rd, h.see, h.nks, h.szs, fun k hk => Nat.le_trans (h.lns k hk) hm, h.oks, h.tls, Nat.le_trans h.ll hm⟩
theorem DI.nk (h : DI R N d) : NK d.seen := by rw [h.see]; exact run_nk h.nks
theorem DI.sz (h : DI R N d) : Fw.sz d.seen ≤ R := by
  rw [h.see]
  have := h.szs d.loose.length (Nat.le_refl _)
  rwa [List.take_length] at this
theorem DI.ln (h : DI R N d) : d.seen.length ≤ N := by
  rw [h.see]
  have := h.lns d.loose.length (Nat.le_refl _)
  rwa [List.take_length] at this
theorem DI.clean {r : Int} {es : Mp} (hr : r = (R : Int)) (h1 : NK es) (h2 : Fw.sz es ≤ R) (h3 : es.length ≤ N) : DI R N ⟨r, es, es, []⟩ :=
  ⟨hr, rfl, h1, fun k hk => by simpa [run] using h2, fun k hk => by simpa [run] using h3, fun k hk => absurd hk (Nat.not_lt_zero _), fun k hk => absurd hk (Nat.not_lt_zero _), Nat.zero_le _⟩
def okn (n : ByteArray) : Bool := decide (1 ≤ n.size) && decide (n.size ≤ 16)
theorem okn_not (s : ByteArray) : (decide (((s.size : Nat) : Int) < 1) || decide (16 < ((s.size : Nat) : Int))) = !okn s := by
  unfold okn
  rw [Bool.eq_iff_iff]
  simp only [Bool.or_eq_true, decide_eq_true_eq, Bool.not_eq_true', Bool.and_eq_false_iff, decide_eq_false_iff_not]
  omega
theorem e_right (l : List ByteArray) : m_disk_right l = some (l.all okn) := by
  unfold m_disk_right
  refine (forI_inv (fun i _ => some ((l.drop i).all okn)) (fun _ _ => True) (fun s _ => ?_) (fun f i s hi _ hf => ?_) trivial)
  · rw [List.drop_of_length_le (Nat.le_refl _)]; rfl
  · unfold m_disk_right_b1
    rw [hf () trivial, drop_gt hi, List.all_cons]
    rw [okn_not]
    cases okn (gt l i) <;> rfl
theorem e_cln {l : List UInt8} (h : l.length ≤ lim) : m_slices_Clone_byte_byte l = some l := by
  unfold m_slices_Clone_byte_byte nilc
  cases l with
  | nil => rfl
  | cons x l => rw [chk_t (by simpa using h)]; rfl
theorem fld_used : ∀ (es : Mp) (n : Int), 0 ≤ n → n + (sz es : Int) ≤ 4611686018427387904 → fldO m_disk_Disk_Used_b1 n es = some (n + (sz es : Int))
  | [], n, _, _ => by simp [fldO, Fw.sz]
  | p :: es, n, h0, h1 => by
    have hs : Fw.sz (p :: es) = p.2.length + Fw.sz es := by simp [Fw.sz]
    rw [hs] at h1 ⊢
    unfold fldO m_disk_Disk_Used_b1
    rw [Option.bind_some, w64_i (by unfold I64; omega)]
    have := fld_used es (n + (p.2.length : Int)) (by omega) (by omega)
    unfold m_disk_Disk_Used_b1 at this
    rw [this]; congr 1; omega
theorem e_used {d : Dk} (h : Fw.sz d.seen ≤ lim) : m_disk_Disk_Used d = some (Fw.sz d.seen : Int) := by
  unfold m_disk_Disk_Used
  rw [lim_eq] at h
  rw [fld_used _ _ (Int.le_refl 0) (by omega), Option.bind_some, Int.zero_add]

/-! ### acts -/
def dDone (d : Dk) (c : Dc) : Dk := ⟨d.room, d.safe_, ap c.do_ d.seen, d.loose ++ [c]⟩
def dApp (d : Dk) (n : ByteArray) (b : List UInt8) : Dk × Int :=
  bif !okn n then (d, 70) else bif decide (d.room - (Fw.sz d.seen : Int) < (b.length : Int)) then (d, 72) else (dDone d ⟨.disk_add_1 n b, n, b⟩, 0)
def dThere (d : Dk) (n : ByteArray) : Int := bif !okn n then 70 else bif !(mget n d.seen).isSome then 71 else 0
def dRem (d : Dk) (n : ByteArray) : Dk × Int :=
  bif dThere d n != 0 then (d, dThere d n) else (dDone d ⟨.disk_Disk_Remove_1 n, ByteArray.empty, []⟩, 0)
theorem e_done (h : DI R N d) (hR : R ≤ lim) (hN : N + 1 ≤ lim) {c : Dc} (h1 : Fw.sz (ap c.do_ d.seen) ≤ R) (h2 : okc c.do_ d.seen) : m_disk_Disk_done d c = some (dDone d c, 0) := by
  unfold m_disk_Disk_done
  have := h.ll
  rw [e_chg h2 (Nat.le_trans h1 hR), Option.bind_some, chk_t (by simp; omega)]; rfl
theorem DI.done (h : DI R N d) {c : Dc} (h1 : Fw.sz (ap c.do_ d.seen) ≤ R) (h2 : okc c.do_ d.seen) (h4 : Tl c) : DI R (N + 1) (dDone d c) := by
  have hs := h.see
  have hk : ∀ k, k ≤ (d.loose ++ [c]).length → k ≤ d.loose.length ∧ (d.loose ++ [c]).take k = d.loose.take k ∨ k = d.loose.length + 1 ∧ (d.loose ++ [c]).take k = d.loose ++ [c] := fun k hk => by
    rw [List.length_append] at hk
    simp only [List.length_cons, List.length_nil] at hk
    rcases Nat.lt_or_ge d.loose.length k with h | h
    · right; exact ⟨by omega, List.take_of_length_le (by simp; omega)⟩
    · left; exact ⟨h, by rw [List.take_append_of_le_length h]⟩
  have hg : ∀ k, k < (d.loose ++ [c]).length → k < d.loose.length ∧ gt (d.loose ++ [c]) k = gt d.loose k ∨ k = d.loose.length ∧ gt (d.loose ++ [c]) k = c := fun k hk => by
    rw [List.length_append] at hk
    simp only [List.length_cons, List.length_nil] at hk
    rcases Nat.lt_or_ge k d.loose.length with h5 | h5
    · left; exact ⟨h5, gt_append_left h5⟩
    · right
      have : k = d.loose.length := by omega
      subst this
      exact ⟨rfl, by rw [gt_append_right (Nat.le_refl _), Nat.sub_self]; rfl⟩
  refine ⟨h.rd, ?_, h.nks, fun k q => ?_, fun k q => ?_, fun k q => ?_, fun k q => ?_, ?_⟩
  · show ap c.do_ d.seen = run (d.loose ++ [c]) d.safe_
    rw [run_snoc, ← hs]
  · rcases hk k q with ⟨a, b⟩ | ⟨a, b⟩
    · show Fw.sz (run ((d.loose ++ [c]).take k) d.safe_) ≤ R
      rw [b]; exact h.szs k a
    · show Fw.sz (run ((d.loose ++ [c]).take k) d.safe_) ≤ R
      rw [b, run_snoc, ← hs]; exact h1
  · rcases hk k q with ⟨a, b⟩ | ⟨a, b⟩
    · show (run ((d.loose ++ [c]).take k) d.safe_).length ≤ _
      rw [b]; exact Nat.le_trans (h.lns k a) (Nat.le_succ _)
    · show (run ((d.loose ++ [c]).take k) d.safe_).length ≤ _
      rw [b, run_snoc, ← hs]
      have := h.ln
      have h6 := ap_len (c := c.do_) (es := d.seen)
      omega
  · rcases hg k q with ⟨a, b⟩ | ⟨a, b⟩
    · show okc (gt (d.loose ++ [c]) k).do_ (run ((d.loose ++ [c]).take k) d.safe_)
      rw [b, List.take_append_of_le_length (Nat.le_of_lt a)]; exact h.oks k a
    · show okc (gt (d.loose ++ [c]) k).do_ (run ((d.loose ++ [c]).take k) d.safe_)
      rw [b, a, List.take_append_of_le_length (Nat.le_refl _), List.take_length, ← hs]; exact h2
  · rcases hg k q with ⟨a, b⟩ | ⟨a, b⟩
    · show Tl (gt (d.loose ++ [c]) k)
      rw [b]; exact h.tls k a
    · show Tl (gt (d.loose ++ [c]) k)
      rw [b]; exact h4
  · show (d.loose ++ [c]).length ≤ _
    have := h.ll
    simp; omega
theorem room_w {z : Nat} (hR : R ≤ MX) (hz : z ≤ R) : w64 ((R : Int) - (z : Int)) = (R : Int) - (z : Int) := w64_i (by unfold I64 MX at *; omega)
theorem e_App (h : DI R N d) (hR : R ≤ MX) (hN : N + 1 ≤ lim) (n : ByteArray) (b : List UInt8) : m_disk_Disk_Append d n b = some (dApp d n b) ∧ DI R (N + 1) (dApp d n b).1 := by
  have hs := h.sz
  have hR2 := MX_lim hR
  unfold m_disk_Disk_Append dApp
  rw [e_right, Option.bind_some]
  simp only [List.all_cons, List.all_nil, Bool.and_true]
  cases okn n with
  | false => exact ⟨rfl, h.mono (Nat.le_succ _)⟩
  | true =>
    rw [show (!true) = false from rfl, bif_f rfl, bif_f rfl, e_used (Nat.le_trans hs hR2), Option.bind_some, h.rd, room_w hR hs]
    cases hc : decide ((R : Int) - (Fw.sz d.seen : Int) < ((b.length : Nat) : Int)) with
    | true => exact ⟨rfl, h.mono (Nat.le_succ _)⟩
    | false =>
      have hc := of_decide_eq_false hc
      have h1 : Fw.sz (ap (.disk_add_1 n b) d.seen) ≤ R := by rw [sz_add]; omega
      rw [bif_f rfl, bif_f rfl, e_cln (by omega), Option.bind_some]
      unfold m_disk_add
      rw [Option.bind_some, e_done h hR2 hN (c := ⟨.disk_add_1 n b, n, b⟩) h1 trivial]
      exact ⟨rfl, h.done (c := ⟨.disk_add_1 n b, n, b⟩) h1 trivial ⟨rfl, rfl⟩⟩
theorem there_t {n : ByteArray} (h : okn n = true) (h2 : (mget n d.seen).isSome = true) : dThere d n = 0 := by
  unfold dThere; rw [h, h2]; rfl
def dSync (d : Dk) : Dk := ⟨d.room, d.seen, d.seen, []⟩
theorem e_Sync : m_disk_Disk_Sync d = some (dSync d) := rfl
theorem DI.sync (h : DI R N d) : DI R N (dSync d) := DI.clean h.rd h.nk h.sz h.ln
theorem e_Rd (h : DI R N d) (hR : R ≤ MX) (n : ByteArray) : m_disk_Disk_Read d n = some ((mget n d.seen).getD [], (mget n d.seen).isSome) := by
  unfold m_disk_Disk_Read
  rw [e_cln (Nat.le_trans sz_get (Nat.le_trans h.sz (MX_lim hR)))]; rfl
end
/-- a room as it is kept -/
def rm (room : Int) : Nat := (min (max room 0) 1073741824).toNat
def d0 (room : Int) : Dk := ⟨(rm room : Int), [], [], []⟩
end Fw
end Go.Proofs.YtckindfllegbgaaGreat

namespace Go.Proofs.YtckindfllegbgaaGreat
namespace Fw
set_option linter.unusedVariables false
set_option linter.unusedSimpArgs false
set_option linter.unusedSectionVars false

section
variable {R N : Nat} {d : Dk}
/-- a file's bytes; none, if it isn't there -/
def fb (d : Dk) (f : ByteArray) : List UInt8 := (mget f d.seen).getD []
/-! ### what is removed -/
def remL (d : Dk) (l : List ByteArray) : Dk := l.foldl (fun d f => (dRem d f).1) d
def chosen (nm : ByteArray) (q : Int → Int → Bool) (es : Mp) : List ByteArray := (skeys es).filter fun f => (pf nm f).any fun x => q x.1 x.2
/-- all keys are names of files -/
def Ks (es : Mp) : Prop := ∀ k, (mget k es).isSome = true → okn k = true
theorem rem_seen {f : ByteArray} (hf : okn f = true) (hp : (mget f d.seen).isSome = true) : (dRem d f).1.seen = mdel f d.seen ∧ (dRem d f).1.loose.length = d.loose.length + 1 := by
  unfold dRem
  rw [there_t hf hp, bif_f (by decide)]
  exact ⟨rfl, by show (d.loose ++ [_]).length = _; simp⟩
theorem remL_seen : ∀ (l : List ByteArray) (d : Dk), NK d.seen → l.Nodup → (∀ f ∈ l, okn f = true ∧ (mget f d.seen).isSome = true) → (∀ k, mget k (remL d l).seen = if k ∈ l then none else mget k d.seen) ∧ (remL d l).loose.length = d.loose.length + l.length
  | [], d, _, _, _ => ⟨fun k => by rw [if_neg (by simp)]; rfl, rfl⟩
  | f :: l, d, hn, hd, hl => by
    rw [List.nodup_cons] at hd
    obtain ⟨h1, h2⟩ := hl f List.mem_cons_self
    obtain ⟨s1, s2⟩ := rem_seen h1 h2
    have hn2 : NK (dRem d f).1.seen := by rw [s1]; exact hn.del
    have hl2 : ∀ g ∈ l, okn g = true ∧ (mget g (dRem d f).1.seen).isSome = true := fun g hg => by
      obtain ⟨a, b⟩ := hl g (List.mem_cons_of_mem _ hg)
      refine ⟨a, ?_⟩
      rw [s1, mget_mdel hn, if_neg (show ¬ g = f from fun e => hd.1 (e ▸ hg))]; exact b
    obtain ⟨r1, r2⟩ := remL_seen l (dRem d f).1 hn2 hd.2 hl2
    refine ⟨fun k => ?_, ?_⟩
    · show mget k (remL (dRem d f).1 l).seen = _
      rw [r1 k, s1, mget_mdel hn]
      by_cases hk : k ∈ l
      · rw [if_pos hk, if_pos (List.mem_cons_of_mem _ hk)]
      · rw [if_neg hk]
        by_cases hf : k = f
        · rw [if_pos hf, if_pos (hf ▸ List.mem_cons_self)]
        · rw [if_neg hf, if_neg (by simp [hf, hk])]
    · show (remL (dRem d f).1 l).loose.length = _
      rw [r2, s2, List.length_cons]; omega
theorem chosen_nd {nm : ByteArray} {q : Int → Int → Bool} {es : Mp} (hn : NK es) : (chosen nm q es).Nodup := (skeys_nd hn).filter _
theorem mem_chosen {nm : ByteArray} {q : Int → Int → Bool} {es : Mp} {k : ByteArray} : k ∈ chosen nm q es ↔ (mget k es).isSome = true ∧ (pf nm k).any (fun x => q x.1 x.2) = true := by
  unfold chosen
  rw [List.mem_filter, mem_skeys, mget_isSome]
/-- what is there behind a removal -/
theorem removed {nm : ByteArray} {q : Int → Int → Bool} (h : DI R N d) (hk : Ks d.seen) : (∀ k, mget k (remL d (chosen nm q d.seen)).seen = if (pf nm k).any (fun x => q x.1 x.2) = true then none else mget k d.seen) ∧
    (remL d (chosen nm q d.seen)).loose.length = d.loose.length + (chosen nm q d.seen).length := by
  obtain ⟨a, b⟩ := remL_seen (chosen nm q d.seen) d h.nk (chosen_nd h.nk) fun f hf => by
    have := (mem_chosen.1 hf).1
    exact ⟨hk f this, this⟩
  refine ⟨fun k => ?_, b⟩
  rw [a k]
  by_cases hc : (pf nm k).any (fun x => q x.1 x.2) = true
  · rw [if_pos hc]
    split
    · rfl
    · rename_i hm
      cases hs : mget k d.seen with
      | none => rfl
      | some v => exact absurd (mem_chosen.2 ⟨by rw [hs]; rfl, hc⟩) hm
  · rw [if_neg hc, if_neg (fun hm => hc (mem_chosen.1 hm).2)]
end
end Fw
end Go.Proofs.YtckindfllegbgaaGreat

namespace Go.Proofs.YtckindfllegbgaaGreat
namespace Fw
set_option linter.unusedVariables false
set_option linter.unusedSimpArgs false
set_option linter.unusedSectionVars false

abbrev Bs := List (List UInt8)
def tot (bs : Bs) : Nat := (bs.map List.length).sum
def lastP (bs : Bs) : List UInt8 := bs.getLastD []
theorem tot_app (a b : Bs) : tot (a ++ b) = tot a + tot b := by simp [tot]
theorem tot_cons (a : List UInt8) (b : Bs) : tot (a :: b) = a.length + tot b := by simp [tot]
theorem lastP_snoc (a : Bs) (b : List UInt8) : lastP (a ++ [b]) = b := by simp [lastP]
theorem last_le (bs : Bs) : (lastP bs).length ≤ tot bs := by
  rcases List.eq_nil_or_concat bs with h | ⟨l, b, h⟩
  · rw [h]; exact Nat.le_refl _
  · rw [h, List.concat_eq_append, lastP_snoc, tot_app, tot_cons]; omega
/-- a log, as it stands in memory -/
def lg (nm : ByteArray) (g : Nat) (size : Int) (bs : Bs) (cnt : Nat) : Oseglog_Log := ⟨nm, (g : Int), size, (bs.length : Int), ((lastP bs).length : Int), (cnt : Int), (tot bs : Int)⟩
/-- the parts of a generation, in files -/
def Has (nm : ByteArray) (g : Nat) (bs : Bs) (es : Mp) : Prop := bs.length ≤ 999999 ∧ ∀ k, 1 ≤ k → k ≤ 999999 → mget (fn nm g k) es = bs[k - 1]?
theorem sz_keys : ∀ (ks : List ByteArray) (es : Mp), NK es → ks.Nodup → (ks.map fun k => ((mget k es).getD []).length).sum ≤ sz es
  | [], _, _, _ => Nat.zero_le _
  | k :: ks, es, hn, hd => by
    rw [List.nodup_cons] at hd
    have ih := sz_keys ks (mdel k es) hn.del hd.2
    have hs := sz_del (x := k) (es := es)
    have : (ks.map fun j => ((mget j (mdel k es)).getD []).length) = ks.map fun j => ((mget j es).getD []).length := by
      apply List.map_congr_left
      intro j hj
      rw [mget_mdel hn, if_neg (show ¬ j = k from fun e => hd.1 (e ▸ hj))]
    rw [this] at ih
    simp only [List.map_cons, List.sum_cons]
    omega
theorem Has.sz {nm : ByteArray} {g : Nat} {bs : Bs} {es : Mp} (h : Has nm g bs es) (hnm : Nm nm) (hn : NK es) : tot bs ≤ Fw.sz es := by
  have h1 := sz_keys ((List.range bs.length).map fun j => fn nm g (j + 1)) es hn (by
    refine List.Pairwise.map _ (R := fun a b => a ≠ b) (fun a b hab e => hab ?_) List.nodup_range
    have := (fn_inj hnm hnm e).2.2; omega)
  rw [List.map_map] at h1
  refine Nat.le_trans (Nat.le_of_eq ?_) h1
  unfold tot
  congr 1
  apply List.ext_getElem
  · simp
  · intro i h2 h3
    simp only [List.length_map] at h2
    simp only [List.getElem_map, List.getElem_range, Function.comp]
    rw [h.2 (i + 1) (by omega) (by have := h.1; omega), Nat.add_sub_cancel, List.getElem?_eq_getElem h2]; rfl

section
variable {R N : Nat} {d : Dk}
theorem okn_fn {nm : ByteArray} (hnm : Nm nm) {g k : Nat} (hg : g ≤ 999999) (hk : k ≤ 999999) : okn (fn nm g k) = true := by
  have := fn_size hnm hg hk
  unfold okn
  simp only [Bool.and_eq_true, decide_eq_true_eq]; omega
end
end Fw
end Go.Proofs.YtckindfllegbgaaGreat

namespace Go.Proofs.YtckindfllegbgaaGreat
namespace Fw
set_option linter.unusedVariables false
set_option linter.unusedSimpArgs false
set_option linter.unusedSectionVars false

theorem last_get {bs : Bs} (h : 0 < bs.length) : bs[bs.length - 1]? = some (lastP bs) := by
  rcases List.eq_nil_or_concat bs with e | ⟨l, b, e⟩
  · rw [e] at h; exact absurd h (Nat.lt_irrefl 0)
  · rw [e, List.concat_eq_append, lastP_snoc]; simp
/-- whose files of a name there are: of one generation alone -/
def Own1 (nm : ByteArray) (g : Nat) (es : Mp) : Prop := ∀ k, (mget k es).isSome = true → pf nm k = none ∨ ∃ j, 1 ≤ j ∧ j ≤ 999999 ∧ k = fn nm g j
section
variable {R N : Nat} {d : Dk}
end
end Fw
end Go.Proofs.YtckindfllegbgaaGreat

namespace Go.Proofs.YtckindfllegbgaaGreat
namespace Fw
set_option linter.unusedVariables false
set_option linter.unusedSimpArgs false
set_option linter.unusedSectionVars false

/-- does a record begin a part? -/
def fresh (size : Int) (bs : Bs) (f : List UInt8) : Bool := decide (bs.length = 0) || (decide (0 < (lastP bs).length) && decide (size - ((lastP bs).length : Int) < (f.length : Int)))
def addP (size : Int) (bs : Bs) (f : List UInt8) : Bs := bif fresh size bs f then bs ++ [f] else bs.dropLast ++ [lastP bs ++ f]
def pnum (size : Int) (bs : Bs) (f : List UInt8) : Nat := bif fresh size bs f then bs.length + 1 else bs.length
theorem snoc_of {bs : Bs} (h : 0 < bs.length) : bs = bs.dropLast ++ [lastP bs] := by
  rcases List.eq_nil_or_concat bs with e | ⟨l, b, e⟩
  · rw [e] at h; exact absurd h (Nat.lt_irrefl 0)
  · rw [e, List.concat_eq_append, lastP_snoc]; simp
theorem fresh_f {size : Int} {bs : Bs} {f : List UInt8} (h : fresh size bs f = false) : 0 < bs.length := by
  unfold fresh at h
  simp only [Bool.or_eq_false_iff, decide_eq_false_iff_not] at h
  omega
theorem addP_tot (size : Int) (bs : Bs) (f : List UInt8) : tot (addP size bs f) = tot bs + f.length := by
  unfold addP
  cases h : fresh size bs f with
  | true => simp [tot]
  | false =>
    conv => rhs; rw [snoc_of (fresh_f h)]
    simp [tot]; omega
theorem addP_len (size : Int) (bs : Bs) (f : List UInt8) : (addP size bs f).length = pnum size bs f := by
  unfold addP pnum
  cases h : fresh size bs f with
  | true => simp
  | false => have := fresh_f h; simp; omega
theorem addP_last (size : Int) (bs : Bs) (f : List UInt8) : lastP (addP size bs f) = (bif fresh size bs f then [] else lastP bs) ++ f := by
  unfold addP
  cases h : fresh size bs f with
  | true => simp [lastP]
  | false => simp [lastP]
theorem pnum_pos (size : Int) (bs : Bs) (f : List UInt8) : 1 ≤ pnum size bs f := by
  unfold pnum
  cases h : fresh size bs f with
  | true => simp
  | false => have := fresh_f h; simp only [cond_false]; omega
theorem pnum_le (size : Int) (bs : Bs) (f : List UInt8) : pnum size bs f ≤ bs.length + 1 := by
  unfold pnum
  cases fresh size bs f <;> simp
/-- what a part has behind one frame more -/
theorem has_add {nm : ByteArray} {g : Nat} {size : Int} {bs : Bs} {es : Mp} {f : List UInt8} (hnm : Nm nm) (hb : Has nm g bs es) (hp : pnum size bs f ≤ 999999) :
    (mget (fn nm g (pnum size bs f)) es).getD [] = (bif fresh size bs f then [] else lastP bs) ∧ Has nm g (addP size bs f) (mput (fn nm g (pnum size bs f)) ((mget (fn nm g (pnum size bs f)) es).getD [] ++ f) es) := by
  have h1 := pnum_pos size bs f
  have hold : (mget (fn nm g (pnum size bs f)) es).getD [] = (bif fresh size bs f then [] else lastP bs) := by
    rw [hb.2 _ h1 hp]
    unfold pnum
    cases h : fresh size bs f with
    | true => simp
    | false => simp only [cond_false]; rw [last_get (fresh_f h)]; rfl
  refine ⟨hold, by rw [addP_len]; exact hp, fun k k1 k2 => ?_⟩
  rw [mget_mput, hold]
  by_cases hk : k = pnum size bs f
  · have hl := last_get (bs := addP size bs f) (by rw [addP_len]; omega)
    rw [addP_len] at hl
    rw [if_pos (by rw [hk]), hk, hl, addP_last]
  · rw [if_neg (fun e => hk (fn_inj hnm hnm e).2.2), hb.2 k k1 k2]
    unfold addP
    unfold pnum at hk
    cases h : fresh size bs f with
    | true =>
      rw [h] at hk
      simp only [cond_true] at hk ⊢
      rcases Nat.lt_or_ge (k - 1) bs.length with hlt | hge
      · rw [List.getElem?_append_left hlt]
      · rw [List.getElem?_eq_none hge, List.getElem?_eq_none (by simp; omega)]
    | false =>
      have hpos := fresh_f h
      rw [h] at hk
      simp only [cond_false] at hk ⊢
      rcases Nat.lt_or_ge (k - 1) (bs.length - 1) with hlt | hge
      · rw [List.getElem?_append_left (by simpa using hlt), List.getElem?_dropLast, if_pos hlt]
      · rw [List.getElem?_eq_none (by omega), List.getElem?_eq_none (by simp; omega)]
section
variable {R N : Nat} {d : Dk}
/-- the disk behind one record more -/
def dAdd (d : Dk) (nm : ByteArray) (g : Nat) (size : Int) (bs : Bs) (f : List UInt8) : Dk := dDone d ⟨.disk_add_1 (fn nm g (pnum size bs f)) f, fn nm g (pnum size bs f), f⟩
inductive AppR (R : Nat) (d : Dk) (nm : ByteArray) (g : Nat) (size : Int) (bs : Bs) (cnt : Nat) (x : List UInt8) : Oseglog_Log × Dk × Int → Prop
  | long : 1048576 < x.length → AppR R d nm g size bs cnt x (lg nm g size bs cnt, d, 3)
  | many : x.length ≤ 1048576 → 999999 < pnum size bs (fr x) → AppR R d nm g size bs cnt x (lg nm g size bs cnt, d, 72)
  | full : x.length ≤ 1048576 → pnum size bs (fr x) ≤ 999999 → R < Fw.sz d.seen + (fr x).length → AppR R d nm g size bs cnt x (lg nm g size bs cnt, d, 72)
  | ok : x.length ≤ 1048576 → pnum size bs (fr x) ≤ 999999 → Fw.sz d.seen + (fr x).length ≤ R → AppR R d nm g size bs cnt x (lg nm g size (addP size bs (fr x)) (cnt + 1), dAdd d nm g size bs (fr x), 0)
theorem add_seen (d : Dk) (nm : ByteArray) (g : Nat) (size : Int) (bs : Bs) (f : List UInt8) : (dAdd d nm g size bs f).seen = mput (fn nm g (pnum size bs f)) ((mget (fn nm g (pnum size bs f)) d.seen).getD [] ++ f) d.seen := rfl
theorem e_LApp (h : DI R N d) (hR : R ≤ MX) (hN : N + 1 ≤ lim) {nm : ByteArray} (hnm : Nm nm) {g : Nat} (hg : g ≤ 999999) {size : Int} (hs0 : 0 ≤ size) (hs1 : size ≤ 9223372036854775807) {bs : Bs} (hb : Has nm g bs d.seen) {cnt : Nat} (hc : cnt ≤ 4611686018427387904) (x : List UInt8) :
    ∃ r, m_seglog_Log_Append (lg nm g size bs cnt) x d = some r ∧ AppR R d nm g size bs cnt x r ∧ DI R (N + 1) r.2.1 := by
  have h1 := hb.sz hnm h.nk
  have h2 := h.sz
  have h3 := last_le bs
  have hRv : R ≤ 1073741824 := hR
  have hbl := hb.1
  unfold m_seglog_Log_Append
  by_cases hl : 1048576 < x.length
  · rw [e_Put_long hl, Option.bind_some]
    exact ⟨_, rfl, .long hl, h.mono (Nat.le_succ _)⟩
  · have hx : x.length ≤ 1048576 := by omega
    have hfl := fr_len x
    have hp3 := pn3 hx
    rw [e_Put hx, Option.bind_some]
    simp only
    rw [bif_f (by decide)]
    have hfr : (((lg nm g size bs cnt).last == 0) || ((decide (0 < (lg nm g size bs cnt).tail)) && (decide ((w64 ((lg nm g size bs cnt).size - (lg nm g size bs cnt).tail)) < (((fr x).length : Nat) : Int))))) = fresh size bs (fr x) := by
      unfold lg fresh
      simp only
      rw [w64_i (by unfold I64; omega), Bool.eq_iff_iff]
      simp only [Bool.or_eq_true, Bool.and_eq_true, beq_iff_eq, decide_eq_true_eq]
      omega
    rw [hfr]
    have key : ∀ (p : Nat) (t : Int), p = pnum size bs (fr x) → t = (((bif fresh size bs (fr x) then [] else lastP bs).length : Nat) : Int) → ∃ r, m_seglog_Log_Append_j1 (lg nm g size bs cnt) d (fr x, 0) (p : Int) t = some r ∧ AppR R d nm g size bs cnt x r ∧ DI R (N + 1) r.2.1 := by
      intro p t hp ht
      unfold m_seglog_Log_Append_j1
      by_cases hm : 999999 < p
      · rw [bif_t (by rw [decide_eq_true_eq]; omega)]
        exact ⟨_, rfl, .many hx (by omega), h.mono (Nat.le_succ _)⟩
      · have hsz := fn_size hnm hg (show p ≤ 999999 by omega)
        rw [bif_f (by rw [decide_eq_false_iff_not]; omega)]
        show ∃ r, Option.bind (m_seglog_place_file nm (g : Int) (g : Int) (p : Int)) _ = some r ∧ _
        rw [e_file hnm hg (by omega), Option.bind_some, chk_t (by rw [lim_eq, decide_eq_true_eq]; omega)]
        obtain ⟨a1, a2⟩ := e_App h hR hN (fn nm g p) (fr x)
        rw [a1, Option.bind_some]
        have hok := okn_fn hnm hg (show p ≤ 999999 by omega)
        unfold dApp at a2 ⊢
        rw [hok] at a2 ⊢
        rw [show (!true) = false from rfl, bif_f rfl] at a2 ⊢
        by_cases hroom : R < Fw.sz d.seen + (fr x).length
        · rw [bif_t (by rw [decide_eq_true_eq, h.rd]; omega)]
          exact ⟨_, rfl, .full hx (by omega) hroom, h.mono (Nat.le_succ _)⟩
        · have hq : decide (d.room - (Fw.sz d.seen : Int) < ((fr x).length : Int)) = false := by rw [decide_eq_false_iff_not, h.rd]; omega
          rw [hq, bif_f rfl] at a2 ⊢
          unfold m_seglog_Log_Append_j2
          simp only
          rw [bif_f (by decide)]
          have el : (⟨(lg nm g size bs cnt).place_name, (lg nm g size bs cnt).place_gen, (lg nm g size bs cnt).size, (p : Int), w64 (t + (((fr x).length : Nat) : Int)), w64 ((lg nm g size bs cnt).count + 1), w64 ((lg nm g size bs cnt).bytes + (((fr x).length : Nat) : Int))⟩ : Oseglog_Log) = lg nm g size (addP size bs (fr x)) (cnt + 1) := by
            have ht2 : t + (((fr x).length : Nat) : Int) = (((lastP (addP size bs (fr x))).length : Nat) : Int) := by rw [addP_last, ht]; simp
            have hlt := last_le (addP size bs (fr x))
            have htt := addP_tot size bs (fr x)
            unfold lg
            simp only
            rw [addP_len, ht2, htt, w64_i (by unfold I64; omega), w64_i (by unfold I64; omega), w64_i (by unfold I64; omega), hp]
            rfl
          rw [el]
          subst hp
          exact ⟨_, rfl, .ok hx (by omega) (by omega), a2⟩
    cases hq : fresh size bs (fr x) with
    | true =>
      rw [bif_t rfl]
      have e1 : w64 ((lg nm g size bs cnt).last + 1) = ((bs.length + 1 : Nat) : Int) := by
        unfold lg; simp only; rw [w64_i (by unfold I64; omega)]; rfl
      rw [e1]
      exact key _ _ (by unfold pnum; rw [hq]; rfl) (by rw [hq]; rfl)
    | false =>
      rw [bif_f rfl]
      exact key bs.length _ (by unfold pnum; rw [hq]; rfl) (by rw [hq]; rfl)
theorem AppR.has {nm : ByteArray} {g : Nat} {size : Int} {bs : Bs} (hnm : Nm nm) (hb : Has nm g bs d.seen) {f : List UInt8} (hp : pnum size bs f ≤ 999999) : Has nm g (addP size bs f) (dAdd d nm g size bs f).seen := (has_add hnm hb hp).2
theorem add_other {nm : ByteArray} {g : Nat} {size : Int} {bs : Bs} {f : List UInt8} {k : ByteArray} (hk : k ≠ fn nm g (pnum size bs f)) : mget k (dAdd d nm g size bs f).seen = mget k d.seen := by
  rw [add_seen, mget_mput, if_neg hk]
end
end Fw
end Go.Proofs.YtckindfllegbgaaGreat

namespace Go.Proofs.YtckindfllegbgaaGreat
namespace Fw
set_option linter.unusedVariables false
set_option linter.unusedSimpArgs false
set_option linter.unusedSectionVars false

theorem forI_ex {α S R : Type} [Inhabited α] {body : (S → Option R) → Nat → α → S → Option R} {K : S → Option R} {P : R → Prop} {l : List α} (I : Nat → S → Prop) (hend : ∀ s, I l.length s → ∃ r, K s = some r ∧ P r)
    (hstep : ∀ f i s, i < l.length → I i s → (∀ s', I (i + 1) s' → ∃ r, f s' = some r ∧ P r) → ∃ r, body f i (gt l i) s = some r ∧ P r) {s : S} (h0 : I 0 s) : ∃ r, forI body K 0 l s = some r ∧ P r := by
  have key : ∀ m i s, l.length - i = m → i ≤ l.length → I i s → ∃ r, forI body K i (l.drop i) s = some r ∧ P r := by
    intro m
    induction m with
    | zero =>
      intro i s hm hi hI
      have : i = l.length := by omega
      subst this
      rw [List.drop_of_length_le (Nat.le_refl _)]
      exact hend s hI
    | succ m ih =>
      intro i s hm hi hI
      rw [drop_gt (by omega)]
      exact hstep _ i s (by omega) hI fun s' h' => ih (i + 1) s' (by omega) (by omega) h'
  exact key _ 0 s rfl (Nat.zero_le _) h0

/-! ### records in parts -/
def addR (size : Int) (rs : List Bs) (x : List UInt8) : List Bs := bif fresh size (rs.map frs) (fr x) then rs ++ [[x]] else rs.dropLast ++ [rs.getLastD [] ++ [x]]
def lo (size : Int) (l : Bs) : List Bs := l.foldl (addR size) []
def bsOf (size : Int) (l : Bs) : Bs := (lo size l).map frs
theorem last_frs (rs : List Bs) : lastP (rs.map frs) = frs (rs.getLastD []) := by
  rcases List.eq_nil_or_concat rs with e | ⟨l, b, e⟩
  · rw [e]; rfl
  · rw [e, List.concat_eq_append]; simp [lastP]
theorem addR_map (size : Int) (rs : List Bs) (x : List UInt8) : (addR size rs x).map frs = addP size (rs.map frs) (fr x) := by
  unfold addR addP
  cases h : fresh size (rs.map frs) (fr x) with
  | true => simp [frs]
  | false =>
    simp only [cond_false]
    rw [List.map_append, last_frs, List.map_dropLast]
    simp [frs_app, frs]
theorem lo_snoc (size : Int) (l : Bs) (x : List UInt8) : lo size (l ++ [x]) = addR size (lo size l) x := by unfold lo; rw [List.foldl_append]; rfl
theorem bsOf_snoc (size : Int) (l : Bs) (x : List UInt8) : bsOf size (l ++ [x]) = addP size (bsOf size l) (fr x) := by
  unfold bsOf
  rw [lo_snoc, addR_map]
section
variable {R N : Nat} {d : Dk}
/-- where a rewriting is -/
structure Mid (R M : Nat) (d : Dk) (nm : ByteArray) (g : Nat) (bs : Bs) (e : Dk) : Prop where
  di : DI R M e
  has : Has nm g bs e.seen
  same : ∀ k, (∀ j, 1 ≤ j → j ≤ 999999 → k ≠ fn nm g j) → mget k e.seen = mget k d.seen
theorem Mid.ks {M : Nat} {nm : ByteArray} {g : Nat} {bs : Bs} {e : Dk} (h : Mid R M d nm g bs e) (hnm : Nm nm) (hg : g ≤ 999999) (hk : Ks d.seen) : Ks e.seen := fun k hks => by
  by_cases hc : ∀ j, 1 ≤ j → j ≤ 999999 → k ≠ fn nm g j
  · rw [h.same k hc] at hks; exact hk k hks
  · obtain ⟨j, hc⟩ := Classical.not_forall.1 hc
    obtain ⟨j1, hc⟩ := Classical.not_imp.1 hc
    obtain ⟨j2, hc⟩ := Classical.not_imp.1 hc
    rw [Classical.not_not.1 hc]; exact okn_fn hnm hg j2
theorem bsOf_len (size : Int) (l : Bs) : (bsOf size l).length ≤ l.length := by
  have key : ∀ (n : Nat) (l : Bs), l.length = n → (bsOf size l).length ≤ l.length := by
    intro n
    induction n with
    | zero => intro l h; rw [List.eq_nil_of_length_eq_zero h]; exact Nat.le_refl _
    | succ n ih =>
      intro l h
      rcases List.eq_nil_or_concat l with e | ⟨m, b, e⟩
      · rw [e] at h; cases h
      · rw [List.concat_eq_append] at e
        have hm : m.length = n := by rw [e] at h; simpa using h
        have := ih m hm
        have h2 := pnum_le size (bsOf size m) (fr b)
        rw [e, bsOf_snoc, addP_len, List.length_append]
        simp; omega
  exact key _ l rfl
theorem add_sz {d : Dk} {nm : ByteArray} {g : Nat} {size : Int} {bs : Bs} {f : List UInt8} : Fw.sz (dAdd d nm g size bs f).seen = Fw.sz d.seen + f.length := sz_add
end
end Fw
end Go.Proofs.YtckindfllegbgaaGreat

namespace Go.Proofs.YtckindfllegbgaaGreat
namespace Fw
set_option linter.unusedVariables false
set_option linter.unusedSimpArgs false
set_option linter.unusedSectionVars false

/-! ### which records are right -/
def SpOk (x : Span) : Prop := 1 ≤ x.s ∧ x.s ≤ 16 ∧ 1 ≤ x.f ∧ x.f ≤ x.t ∧ x.t ≤ 4611686018427387904
structure VeOk (v : Ver) : Prop where
  s : 1 ≤ v.dot.s ∧ v.dot.s ≤ 16
  n : 1 ≤ v.dot.n ∧ v.dot.n ≤ 4611686018427387904
  pl : v.past.length ≤ 1024
  past : ∀ x ∈ v.past, SpOk x
  val : v.val.size ≤ 256
  gone : v.gone = true → v.val = ByteArray.empty
structure ReOk (r : Rec) : Prop where
  key : 1 ≤ r.key.size ∧ r.key.size ≤ 32
  vl : r.vers.length ≤ 512
  vers : ∀ v ∈ r.vers, VeOk v
theorem all_of {α : Type} [Inhabited α] {l : List α} {p : α → Prop} (h : ∀ j, j < l.length → p (gt l j)) : ∀ x ∈ l, p x := fun x hx => by
  obtain ⟨j, hj, rfl⟩ := List.getElem_of_mem hx
  have := h j hj
  rwa [gt_eq hj] at this
theorem e_spR (l : List Span) : ∃ b, m_span_Right l = some b ∧ (b = true → l.length ≤ 1024 ∧ ∀ x ∈ l, SpOk x) := by
  unfold m_span_Right
  refine forI_ex (fun i _ => ∀ j, j < i → SpOk (gt l j)) (fun s hI => ⟨_, rfl, fun hb => ⟨by have := of_decide_eq_true hb; omega, all_of hI⟩⟩) (fun f i s hi hI hf => ?_) (fun j hj => absurd hj (Nat.not_lt_zero _))
  · unfold m_span_Right_b1
    cases hc : (((((((decide ((gt l i).s < 1)) || (decide (16 < (gt l i).s))) || (decide ((gt l i).f < 1))) || (decide ((gt l i).t < (gt l i).f))) || (decide (4611686018427387904 < (gt l i).t))) || (decide ((gt l i).s < s.s))) || (((gt l i).s == s.s) && (decide ((gt l i).f ≤ (w64 (s.t + 1)))))) with
    | true => exact ⟨false, rfl, fun h => by cases h⟩
    | false =>
      refine hf _ fun j hj => ?_
      rcases Nat.lt_or_ge j i with h | h
      · exact hI j h
      · obtain rfl : j = i := by omega
        simp only [Bool.or_eq_false_iff, decide_eq_false_iff_not] at hc
        obtain ⟨⟨⟨⟨⟨⟨h1, h2⟩, h3⟩, h4⟩, h5⟩, h6⟩, h7⟩ := hc
        clear h6 h7
        unfold SpOk
        omega
theorem e_spT (l : List Span) (s : Int) : ∃ n, m_span_Top l s = some n := by
  unfold m_span_Top
  obtain ⟨r, h, _⟩ := forI_ex (body := m_span_Top_b5 s) (K := fun t => some t) (P := fun _ => True) (l := l) (fun _ _ => True) (fun s _ => ⟨_, rfl, trivial⟩) (fun f i t hi _ hf => by
    unfold m_span_Top_b5 m_span_Top_j6
    cases (gt l i).s == s <;> exact hf _ trivial) (s := 0) trivial
  exact ⟨r, h⟩
theorem e_RightOne2 (v : Ver) : ∃ b, m_vers_RightOne v = some b ∧ (b = true → VeOk v) := by
  unfold m_vers_RightOne
  obtain ⟨a, a1, a2⟩ := e_spR [⟨v.dot.s, v.dot.n, v.dot.n⟩]
  obtain ⟨b, b1, b2⟩ := e_spR v.past
  obtain ⟨n, n1⟩ := e_spT v.past v.dot.s
  rw [a1, Option.bind_some, b1, gcall_s, Option.bind_some, n1, gcall_s, Option.bind_some]
  refine ⟨_, rfl, fun h => ?_⟩
  simp only [Bool.and_eq_true, decide_eq_true_eq, Bool.or_eq_true, Bool.not_eq_true', beq_iff_eq] at h
  obtain ⟨⟨⟨⟨h1, h2⟩, h3⟩, h4⟩, h5⟩ := h
  rw [h1] at h2
  have ha := (a2 h1).2 _ List.mem_cons_self
  unfold SpOk at ha
  simp only at ha
  have hb := b2 h2
  refine ⟨⟨ha.1, ha.2.1⟩, ⟨ha.2.2.1, ha.2.2.2.2⟩, hb.1, hb.2, by omega, fun hg => ?_⟩
  rcases h5 with h5 | h5
  · rw [hg] at h5; cases h5
  · exact h5
theorem e_behind2 (d : Dot) (l : List Ver) : ∃ b, m_vers_behind d l = some b := by
  unfold m_vers_behind
  obtain ⟨r, h, _⟩ := forI_ex (body := m_vers_behind_b1 d) (K := fun _ => some false) (P := fun _ => True) (l := l) (fun _ _ => True) (fun s _ => ⟨_, rfl, trivial⟩) (fun f i t hi _ hf => by
    unfold m_vers_behind_b1 m_span_Has
    obtain ⟨z, h, _⟩ := forI_ex (body := m_span_Has_b1 d) (K := fun _ => some false) (P := fun _ => True) (l := (gt l i).past) (fun _ _ => True) (fun s _ => ⟨_, rfl, trivial⟩) (fun f j t hi _ hf => by
      unfold m_span_Has_b1
      cases (((gt (gt l i).past j).s == d.s) && (decide ((gt (gt l i).past j).f ≤ d.n))) && (decide (d.n ≤ (gt (gt l i).past j).t)) with
      | true => exact ⟨_, rfl, trivial⟩
      | false => exact hf _ trivial) (s := ()) trivial
    rw [h, Option.bind_some]
    cases z with
    | true => exact ⟨_, rfl, trivial⟩
    | false => exact hf _ trivial) (s := ()) trivial
  exact ⟨r, h⟩
theorem e_Right52 {l : List Ver} (hl : l.length ≤ lim) : ∃ b, m_vers_Right l = some b ∧ (b = true → l.length ≤ 512 ∧ ∀ x ∈ l, VeOk x) := by
  rw [lim_eq] at hl
  unfold m_vers_Right
  refine forI_ex (fun i _ => ∀ j, j < i → VeOk (gt l j)) (fun s hI => ⟨_, rfl, fun hb => ⟨by have := of_decide_eq_true hb; omega, all_of hI⟩⟩) (fun f i s hi hI hf => ?_) (fun j hj => absurd hj (Nat.not_lt_zero _))
  · unfold m_vers_Right_b1
    obtain ⟨a, a1, a2⟩ := e_RightOne2 (gt l i)
    obtain ⟨b, b1⟩ := e_behind2 (gt l i).dot l
    have e1 : w64 (((i : Nat) : Int) - 1) = ((i : Nat) : Int) - 1 := w64_i (by unfold I64; omega)
    have hc : imp ((!(!a)) && (decide (0 < ((i : Nat) : Int)))) (inb (w64 (((i : Nat) : Int) - 1)) l.length) = true := by
      rw [e1]
      by_cases h0 : 0 < ((i : Nat) : Int)
      · have : inb (((i : Nat) : Int) - 1) l.length = true := by
          unfold inb
          rw [Bool.and_eq_true, decide_eq_true_eq, decide_eq_true_eq]
          clear e1 a1 a2 b1 hf hI
          omega
        rw [this]; cases a <;> cases decide (0 < ((i : Nat) : Int)) <;> rfl
      · rw [decide_eq_false h0]; cases a <;> rfl
    rw [a1, Option.bind_some, chk_t hc, b1]
    unfold m_vers_before
    rw [gcall_s, Option.bind_some, gcall_s, Option.bind_some]
    cases a with
    | false => exact ⟨_, rfl, fun h => by cases h⟩
    | true =>
      have hn : ∀ j, j < i + 1 → VeOk (gt l j) := fun j hj => by
        rcases Nat.lt_or_ge j i with h | h
        · exact hI j h
        · obtain rfl : j = i := by omega
          exact a2 rfl
      generalize hg : (((!true) || _) || _) = g
      cases g with
      | true => exact ⟨_, rfl, fun h => by cases h⟩
      | false => exact hf _ hn
theorem e_RightRec2 {r : Rec} (hl : r.vers.length ≤ lim) : ∃ b, m_code_RightRec r = some b ∧ (b = true → ReOk r) := by
  unfold m_code_RightRec
  obtain ⟨a, a1, a2⟩ := e_Right52 hl
  rw [a1, gcall_s, Option.bind_some]
  refine ⟨_, rfl, fun h => ?_⟩
  simp only [Bool.and_eq_true, decide_eq_true_eq] at h
  obtain ⟨⟨h1, h2⟩, h3⟩ := h
  have hc : ((decide (1 ≤ ((r.key.size : Nat) : Int))) && (decide (((r.key.size : Nat) : Int) ≤ 32))) = true := by rw [Bool.and_eq_true, decide_eq_true_eq, decide_eq_true_eq]; exact ⟨h1, h2⟩
  rw [hc] at h3
  have := a2 h3
  exact ⟨⟨by omega, by omega⟩, this.1, this.2⟩

/-! ### what is written -/
def pz (n : Int) : List UInt8 := pn n.toNat
def spB (x : Span) : List UInt8 := pz x.s ++ (pz x.f ++ pz (x.t - x.f))
def spsB (l : List Span) : List UInt8 := pz l.length ++ (l.map spB).flatten
def txB (s : ByteArray) : List UInt8 := pz s.size ++ s.data.toList
def veB (v : Ver) : List UInt8 := pz v.dot.s ++ (pz v.dot.n ++ (spsB v.past ++ (bif v.gone then pz 1 else pz 0 ++ txB v.val)))
def vesB (l : List Ver) : List UInt8 := pz l.length ++ (l.map veB).flatten
def reB (r : Rec) : List UInt8 := txB r.key ++ vesB r.vers
theorem pz_len {n : Int} (h : n ≤ 4611686018427387904) : (pz n).length ≤ 9 := pn_len 8 _ (by omega)
theorem flat_le {α : Type} {e : α → List UInt8} {c : Nat} : ∀ {l : List α}, (∀ x ∈ l, (e x).length ≤ c) → ((l.map e).flatten).length ≤ c * l.length
  | [], _ => Nat.le_refl _
  | x :: l, h => by
    have h1 := h x List.mem_cons_self
    have h2 := flat_le (l := l) fun y hy => h y (List.mem_cons_of_mem _ hy)
    rw [List.map_cons, List.flatten_cons, List.length_append, List.length_cons, Nat.mul_add]; omega
theorem spB_len {x : Span} (h : SpOk x) : (spB x).length ≤ 27 := by
  obtain ⟨h1, h2, h3, h4, h5⟩ := h
  have a := pz_len (n := x.s) (by omega)
  have b := pz_len (n := x.f) (by omega)
  have c := pz_len (n := x.t - x.f) (by omega)
  unfold spB; simp only [List.length_append]; omega
theorem txB_len {s : ByteArray} (h : s.size ≤ 256) : (txB s).length ≤ 265 := by
  have a := pz_len (n := (s.size : Int)) (by omega)
  have b : s.data.toList.length = s.size := rfl
  unfold txB; simp only [List.length_append]; omega
theorem veB_len {v : Ver} (h : VeOk v) : (veB v).length ≤ 28000 := by
  have a := pz_len (n := v.dot.s) (by have := h.s; omega)
  have b := pz_len (n := v.dot.n) h.n.2
  have hp := h.pl
  have c := pz_len (n := (v.past.length : Int)) (by omega)
  have d := flat_le (e := spB) (c := 27) (l := v.past) fun x hx => spB_len (h.past x hx)
  have e1 := pz_len (n := 1) (by omega)
  have e0 := pz_len (n := 0) (by omega)
  have f := txB_len h.val
  have g : (bif v.gone then pz 1 else pz 0 ++ txB v.val).length ≤ 274 := by cases v.gone <;> simp only [cond_true, cond_false, List.length_append] <;> omega
  unfold veB spsB; simp only [List.length_append]; omega
theorem reB_len {r : Rec} (h : ReOk r) : (reB r).length ≤ 14400000 := by
  have hk := h.key
  have hv := h.vl
  have a := txB_len (s := r.key) (by omega)
  have c := pz_len (n := (r.vers.length : Int)) (by omega)
  have d := flat_le (e := veB) (c := 28000) (l := r.vers) fun x hx => veB_len (h.vers x hx)
  unfold reB vesB; simp only [List.length_append]; omega
theorem w_num {b : List UInt8} {n : Int} (h0 : 0 ≤ n) (h1 : n ≤ 4611686018427387904) (hb : b.length + (pz n).length ≤ lim) : m_code_writer_num ⟨b⟩ n = some ⟨b ++ pz n⟩ := by
  unfold m_code_writer_num
  obtain ⟨m, rfl⟩ : ∃ m : Nat, n = (m : Int) := ⟨n.toNat, by omega⟩
  rw [e_PutNum (by omega), Option.bind_some]
  exact chk_t (decide_eq_true hb)
theorem w_int {b : List UInt8} {n : Int} (h0 : 0 ≤ n) (h1 : n ≤ 4611686018427387904) (hb : b.length + (pz n).length ≤ lim) : m_code_writer_int ⟨b⟩ n = some ⟨b ++ pz n⟩ := by
  unfold m_code_writer_int
  rw [w_num h0 h1 hb]; rfl
theorem w_text {b : List UInt8} {s : ByteArray} (h : s.size ≤ 256) (hb : b.length + (txB s).length ≤ lim) : m_code_writer_text ⟨b⟩ s = some ⟨b ++ txB s⟩ := by
  unfold m_code_writer_text m_num_PutText
  have hl : s.data.toList.length = s.size := rfl
  have hx : (txB s).length = (pn s.size).length + s.size := by unfold txB pz; rw [List.length_append, hl, Int.toNat_natCast]
  rw [e_PutNum (by omega), Option.bind_some, chk_t (decide_eq_true (by omega)), Option.bind_some]
  exact chk_t (decide_eq_true hb)
theorem w_span {b : List UInt8} {x : Span} (h : SpOk x) (hb : b.length + (spB x).length ≤ lim) : m_code_writer_span ⟨b⟩ x = some ⟨b ++ spB x⟩ := by
  obtain ⟨h1, h2, h3, h4, h5⟩ := h
  have e : (spB x).length = (pz x.s).length + ((pz x.f).length + (pz (x.t - x.f)).length) := by unfold spB; simp only [List.length_append]
  unfold m_code_writer_span
  rw [w_int (by omega) (by omega) (by omega), Option.bind_some, w_num (by omega) (by omega) (by rw [List.length_append]; omega), Option.bind_some, w64_i (x := x.t - x.f) (by unfold I64; omega),
    w_num (by omega) (by omega) (by rw [List.length_append, List.length_append]; omega), Option.bind_some]
  unfold spB
  rw [List.append_assoc, List.append_assoc]
theorem w_spans : ∀ {l : List Span} {b : List UInt8} (i : Nat), (∀ x ∈ l, SpOk x) → b.length + ((l.map spB).flatten).length ≤ lim → forI m_code_put_api_Span_b1 (fun o => some o) i l ⟨b⟩ = some ⟨b ++ (l.map spB).flatten⟩
  | [], b, i, _, _ => by show some (⟨b⟩ : Ocode_writer) = some ⟨b ++ []⟩; rw [List.append_nil]
  | x :: l, b, i, h, hb => by
    rw [List.map_cons, List.flatten_cons, List.length_append] at hb
    show m_code_put_api_Span_b1 (forI m_code_put_api_Span_b1 (fun o => some o) (i + 1) l) i x ⟨b⟩ = _
    unfold m_code_put_api_Span_b1
    rw [w_span (h x List.mem_cons_self) (by omega), Option.bind_some]
    rw [show (fun f14 i15 ei15 o11 => Option.bind (m_code_writer_span o11 ei15) fun z22 => f14 z22) = m_code_put_api_Span_b1 from rfl]
    rw [w_spans (i + 1) (fun y hy => h y (List.mem_cons_of_mem _ hy)) (by rw [List.length_append]; omega), List.map_cons, List.flatten_cons, List.append_assoc]
theorem w_sps {l : List Span} {b : List UInt8} (h : ∀ x ∈ l, SpOk x) (hl : l.length ≤ 1024) (hb : b.length + (spsB l).length ≤ lim) : m_code_put_api_Span ⟨b⟩ l = some ⟨b ++ spsB l⟩ := by
  have e : (spsB l).length = (pz l.length).length + ((l.map spB).flatten).length := by unfold spsB; rw [List.length_append]
  unfold m_code_put_api_Span
  rw [w_int (by omega) (by omega) (by omega), Option.bind_some, w_spans 0 h (by rw [List.length_append]; omega), List.append_assoc]; rfl
theorem w_ver {b : List UInt8} {v : Ver} (h : VeOk v) (hb : b.length + (veB v).length ≤ lim) : m_code_writer_ver ⟨b⟩ v = some ⟨b ++ veB v⟩ := by
  have hs := h.s
  have hn := h.n
  have e : (veB v).length = (pz v.dot.s).length + ((pz v.dot.n).length + ((spsB v.past).length + (bif v.gone then pz 1 else pz 0 ++ txB v.val).length)) := by unfold veB; simp only [List.length_append]
  unfold m_code_writer_ver
  rw [w_int (by omega) (by omega) (by omega), Option.bind_some, w_num (by omega) (by omega) (by rw [List.length_append]; omega), Option.bind_some, w_sps h.past h.pl (by rw [List.length_append, List.length_append]; omega), Option.bind_some]
  unfold veB
  cases hg : v.gone with
  | true =>
    rw [hg] at e
    simp only [cond_true] at e ⊢
    rw [w_int (by omega) (by omega) (by rw [List.length_append, List.length_append, List.length_append]; omega), Option.bind_some]
    simp only [List.append_assoc]
  | false =>
    rw [hg] at e
    simp only [cond_false, List.length_append] at e ⊢
    rw [w_int (by omega) (by omega) (by rw [List.length_append, List.length_append, List.length_append]; omega), Option.bind_some, w_text h.val (by rw [List.length_append, List.length_append, List.length_append, List.length_append]; omega), Option.bind_some]
    simp only [List.append_assoc]
theorem w_vers : ∀ {l : List Ver} {b : List UInt8} (i : Nat), (∀ x ∈ l, VeOk x) → b.length + ((l.map veB).flatten).length ≤ lim → forI m_code_put_api_Ver_b1 (fun o => some o) i l ⟨b⟩ = some ⟨b ++ (l.map veB).flatten⟩
  | [], b, i, _, _ => by show some (⟨b⟩ : Ocode_writer) = some ⟨b ++ []⟩; rw [List.append_nil]
  | x :: l, b, i, h, hb => by
    rw [List.map_cons, List.flatten_cons, List.length_append] at hb
    show m_code_put_api_Ver_b1 (forI m_code_put_api_Ver_b1 (fun o => some o) (i + 1) l) i x ⟨b⟩ = _
    unfold m_code_put_api_Ver_b1
    rw [w_ver (h x List.mem_cons_self) (by omega), Option.bind_some]
    rw [show (fun f14 i15 ei15 o11 => Option.bind (m_code_writer_ver o11 ei15) fun z25 => f14 z25) = m_code_put_api_Ver_b1 from rfl]
    rw [w_vers (i + 1) (fun y hy => h y (List.mem_cons_of_mem _ hy)) (by rw [List.length_append]; omega), List.map_cons, List.flatten_cons, List.append_assoc]
theorem e_writer {r : Rec} (h : ReOk r) : m_code_writer_rec ⟨[]⟩ r = some ⟨reB r⟩ := by
  have hk := h.key
  have hv := h.vl
  have hl := reB_len h
  have e : (reB r).length = (txB r.key).length + ((pz r.vers.length).length + ((r.vers.map veB).flatten).length) := by unfold reB vesB; simp only [List.length_append]
  have hlim : 14400000 ≤ lim := by rw [lim_eq]; omega
  unfold m_code_writer_rec
  rw [w_text (by omega) (by simp only [List.length_nil]; omega), Option.bind_some]
  unfold m_code_put_api_Ver
  rw [w_int (by omega) (by omega) (by simp only [List.nil_append]; omega), Option.bind_some, w_vers 0 h.vers (by simp only [List.nil_append, List.length_append]; omega), Option.bind_some]
  unfold reB vesB
  simp only [List.nil_append, List.append_assoc]
theorem e_PutRec {r : Rec} (hl : r.vers.length ≤ lim) : (m_code_PutRec r = some ([], 1)) ∨ (m_code_RightRec r = some true ∧ ReOk r ∧ m_code_PutRec r = some (reB r, 0)) := by
  obtain ⟨b, b1, b2⟩ := e_RightRec2 hl
  unfold m_code_PutRec
  rw [b1, Option.bind_some]
  cases b with
  | false => exact .inl rfl
  | true => refine .inr ⟨rfl, b2 rfl, ?_⟩; rw [show (!true) = false from rfl, bif_f rfl, e_writer (b2 rfl)]; rfl
end Fw
end Go.Proofs.YtckindfllegbgaaGreat

namespace Go.Proofs.YtckindfllegbgaaGreat
namespace Fw
set_option linter.unusedVariables false
set_option linter.unusedSimpArgs false
set_option linter.unusedSectionVars false

/-- from a place on there is that -/
def At (B : List UInt8) (p : Int) (rest : List UInt8) : Prop := ∃ q : Nat, p = (q : Int) ∧ q ≤ B.length ∧ B.drop q = rest
theorem At.go {B a rest : List UInt8} {q : Nat} (hq : q ≤ B.length) (h : B.drop q = a ++ rest) : At B ((q + a.length : Nat) : Int) rest ∧ q + a.length ≤ B.length := by
  have h1 := congrArg List.length h
  rw [List.length_drop, List.length_append] at h1
  refine ⟨⟨q + a.length, rfl, by omega, ?_⟩, by omega⟩
  rw [← List.drop_drop, h, List.drop_left]
theorem At.len {B rest : List UInt8} {p : Int} (h : At B p rest) : (B.length : Int) - p = (rest.length : Int) ∧ 0 ≤ p := by
  obtain ⟨q, rfl, h1, rfl⟩ := h
  rw [List.length_drop]; omega
section
variable {B : List UInt8} (hB : B.length ≤ lim)
include hB
end
end Fw
end Go.Proofs.YtckindfllegbgaaGreat

namespace Go.Proofs.YtckindfllegbgaaGreat
namespace Fw
set_option linter.unusedVariables false
set_option linter.unusedSimpArgs false
set_option linter.unusedSectionVars false

/-- a log's parts, and nothing else -/
def Only (nm : ByteArray) (g : Nat) (bs : Bs) (es : Mp) : Prop := Has nm g bs es ∧ ∀ k, (mget k es).isSome = true → ∃ j, 1 ≤ j ∧ j ≤ 999999 ∧ k = fn nm g j
section
variable {R N : Nat} {d : Dk} {nm : ByteArray} {g : Nat} {bs : Bs} {es : Mp}
theorem Only.own (h : Only nm g bs es) : Own1 nm g es := fun k hk => .inr (h.2 k hk)
theorem Only.ks (h : Only nm g bs es) (hnm : Nm nm) (hg : g ≤ 999999) : Ks es := fun k hk => by
  obtain ⟨j, _, j2, e⟩ := h.2 k hk
  rw [e]; exact okn_fn hnm hg j2
theorem Only.list (h : Only nm g bs d.seen) (hnm : Nm nm) : fb d (mn nm) = [] := by
  unfold fb
  cases hs : mget (mn nm) d.seen with
  | none => rfl
  | some v =>
    obtain ⟨j, _, _, e⟩ := h.2 _ (by rw [hs]; rfl)
    exact absurd e (mn_fn hnm hnm)
theorem Only.nil : Only nm g [] [] := ⟨⟨Nat.zero_le _, fun k _ _ => rfl⟩, fun k hk => by cases hk⟩
theorem Only.add {size : Int} {f : List UInt8} (h : Only nm g bs d.seen) (hnm : Nm nm) (hp : pnum size bs f ≤ 999999) : Only nm g (addP size bs f) (dAdd d nm g size bs f).seen := by
  refine ⟨AppR.has hnm h.1 hp, fun k hk => ?_⟩
  by_cases e : k = fn nm g (pnum size bs f)
  · exact ⟨_, pnum_pos _ _ _, hp, e⟩
  · rw [add_other e] at hk; exact h.2 k hk
theorem Only.len (h : Only nm g bs es) (hnm : Nm nm) (hn : NK es) : es.length = bs.length := by
  have h1 : (es.map (·.1)).Nodup := hn
  have h2 : ((List.range bs.length).map fun j => fn nm g (j + 1)).Nodup := by
    refine List.Pairwise.map _ (R := fun a b => a ≠ b) (fun a b hab e => hab ?_) List.nodup_range
    have := (fn_inj hnm hnm e).2.2; omega
  have h3 : (es.map (·.1)).Perm ((List.range bs.length).map fun j => fn nm g (j + 1)) := by
    rw [List.perm_ext_iff_of_nodup h1 h2]
    intro k
    rw [← mget_isSome, List.mem_map]
    constructor
    · intro hk
      obtain ⟨j, j1, j2, e⟩ := h.2 k hk
      rw [e, h.1.2 j j1 j2] at hk
      refine ⟨j - 1, List.mem_range.2 ?_, by rw [e, show j - 1 + 1 = j by omega]⟩
      rcases Nat.lt_or_ge (j - 1) bs.length with hlt | hge
      · exact hlt
      · rw [List.getElem?_eq_none hge] at hk; cases hk
    · rintro ⟨j, hj, rfl⟩
      have hj := List.mem_range.1 hj
      have := h.1.1
      rw [h.1.2 (j + 1) (by omega) (by omega), Nat.add_sub_cancel, List.getElem?_eq_getElem hj]; rfl
  have := h3.length_eq
  simpa using this
end
/-! ### a store's records -/
def Rt (r : Rec) : Prop := m_code_RightRec r = some true ∧ ReOk r
def layM (m : Mp) (r : Rec) : Mp := if r.vers = [] then mdel r.key m else mput r.key (reB r) (mdel r.key m)
def keysOf (l : List Rec) : Mp := l.foldl layM []
theorem keysOf_snoc (l : List Rec) (r : Rec) : keysOf (l ++ [r]) = layM (keysOf l) r := by unfold keysOf; rw [List.foldl_append]; rfl
theorem e_lay (g : Oseglog_Log) (m : Mp) (r : Rec) : m_store_Store_lay ⟨g, m⟩ r (reB r) = some ⟨g, layM m r⟩ := by
  unfold m_store_Store_lay layM
  cases hv : r.vers with
  | nil => rw [bif_f (by decide), if_pos rfl]
  | cons x l => rw [bif_t (by rw [List.length_cons, decide_eq_true_eq]; omega), if_neg (by simp)]
structure KI (m : Mp) : Prop where
  nk : NK m
  en : ∀ k b, mget k m = some b → ∃ r, Rt r ∧ r.key = k ∧ r.vers ≠ [] ∧ b = reB r
theorem KI.nil : KI [] := ⟨NK.nil, fun k b h => by cases h⟩
theorem KI.lay {m : Mp} (h : KI m) {r : Rec} (hr : Rt r) : KI (layM m r) := by
  unfold layM
  by_cases hv : r.vers = []
  · rw [if_pos hv]
    refine ⟨h.nk.del, fun k b hb => ?_⟩
    rw [mget_mdel h.nk] at hb
    split at hb
    · cases hb
    · exact h.en k b hb
  · rw [if_neg hv]
    refine ⟨h.nk.del.put, fun k b hb => ?_⟩
    rw [mget_mput] at hb
    by_cases hk : k = r.key
    · rw [if_pos hk] at hb
      injection hb with hb
      exact ⟨r, hr, hk.symm, hv, hb.symm⟩
    · rw [if_neg hk, mget_mdel h.nk, if_neg hk] at hb
      exact h.en k b hb
theorem KI.fold : ∀ {l : List Rec} {m : Mp}, KI m → (∀ r ∈ l, Rt r) → KI (l.foldl layM m)
  | [], m, h, _ => h
  | r :: l, m, h, hl => KI.fold (l := l) (h.lay (hl r List.mem_cons_self)) fun x hx => hl x (List.mem_cons_of_mem _ hx)
theorem KI.of {l : List Rec} (h : ∀ r ∈ l, Rt r) : KI (keysOf l) := KI.nil.fold h
/-! ### a store and its disk -/
structure StI (nm : ByteArray) (size : Int) (R N : Nat) (e : Dk) (s : Ostore_Store) (L : List Rec) : Prop where
  di : DI R N e
  lo : e.loose = []
  st : s = ⟨lg nm 0 size (bsOf size (L.map reB)) L.length, keysOf L⟩
  rt : ∀ r ∈ L, Rt r
  rk : Rk (L.map reB)
  on : Only nm 0 (bsOf size (L.map reB)) e.seen
  ln : L.length ≤ N
section
variable {nm : ByteArray} {size : Int} {R N : Nat} {e : Dk} {s : Ostore_Store} {L : List Rec}
theorem StI.mono (h : StI nm size R N e s L) {M : Nat} (hm : N ≤ M) : StI nm size R M e s L := ⟨h.di.mono hm, h.lo, h.st, h.rt, h.rk, h.on, Nat.le_trans h.ln hm⟩
end
end Fw
end Go.Proofs.YtckindfllegbgaaGreat

namespace Go.Proofs.YtckindfllegbgaaGreat
namespace Fw
set_option linter.unusedVariables false
set_option linter.unusedSimpArgs false
set_option linter.unusedSectionVars false

/-- the mark of a node that is intact -/
def okF : ByteArray := ⟨#[111, 107]⟩
theorem okn_okF : okn okF = true := by decide
theorem okF_fn {nm : ByteArray} (h : Nm nm) {g k : Nat} (hg : g ≤ 999999) (hk : k ≤ 999999) : okF ≠ fn nm g k := fun e => by
  have := (fn_size h hg hk).1
  rw [← e] at this
  exact absurd this (by decide)
theorem okF_mn {nm : ByteArray} (h : Nm nm) : okF ≠ mn nm := fun e => by
  have := (mn_size h).1
  rw [← e] at this
  exact absurd this (by decide)
abbrev Tab := ByteArray → Option (List Rec)
def st (nm : ByteArray) (size : Int) (L : List Rec) : Ostore_Store := ⟨lg nm 0 size (bsOf size (L.map reB)) L.length, keysOf L⟩
def upd1 (S : Tab) (nm : ByteArray) (L : List Rec) : Tab := fun k => if k = nm then some L else S k
structure Good1 (nm : ByteArray) (size : Int) (N : Nat) (L : List Rec) (es : Mp) : Prop where
  nok : Nm nm
  has : Has nm 0 (bsOf size (L.map reB)) es
  rt : ∀ r ∈ L, Rt r
  rk : Rk (L.map reB)
  ln : L.length ≤ N
/-- a disk of these stores -/
structure NdI (size : Int) (R N : Nat) (e : Dk) (S : Tab) : Prop where
  di : DI R N e
  lo : e.loose = []
  g : ∀ nm L, S nm = some L → Good1 nm size N L e.seen
  own : ∀ k, (mget k e.seen).isSome = true → k = okF ∨ ∃ nm L j, S nm = some L ∧ 1 ≤ j ∧ j ≤ 999999 ∧ k = fn nm 0 j
section
variable {size : Int} {R N : Nat} {e : Dk} {S : Tab} {nm : ByteArray} {L : List Rec}
theorem NdI.mono (h : NdI size R N e S) {M : Nat} (hm : N ≤ M) : NdI size R M e S :=
  ⟨h.di.mono hm, h.lo, fun nm L q => ⟨(h.g nm L q).nok, (h.g nm L q).has, (h.g nm L q).rt, (h.g nm L q).rk, Nat.le_trans (h.g nm L q).ln hm⟩, h.own⟩
theorem NdI.tab (h : NdI size R N e S) {S' : Tab} (hS : ∀ k, S' k = S k) : NdI size R N e S' := by
  have : S' = S := funext hS
  rw [this]; exact h
theorem NdI.ks (h : NdI size R N e S) : Ks e.seen := fun k hk => by
  rcases h.own k hk with e1 | ⟨nm, L, j, h1, h2, h3, e1⟩
  · rw [e1]; exact okn_okF
  · rw [e1]; exact okn_fn (h.g nm L h1).nok (Nat.zero_le _) h3
theorem NdI.list (h : NdI size R N e S) (hS : S nm = some L) : fb e (mn nm) = [] := by
  have hnm := (h.g nm L hS).nok
  unfold fb
  cases hs : mget (mn nm) e.seen with
  | none => rfl
  | some v =>
    rcases h.own (mn nm) (by rw [hs]; rfl) with e1 | ⟨nm', L', j, h1, h2, h3, e1⟩
    · exact absurd e1.symm (okF_mn hnm)
    · exact absurd e1 (mn_fn hnm (h.g nm' L' h1).nok)
/-- a record is put -/
theorem NdI.put (h : NdI size R N e S) (hS : S nm = some L) (hR : R ≤ MX) (hs0 : 0 ≤ size) (hs1 : size ≤ 9223372036854775807) (hN : N + 1 ≤ lim) {r : Rec} (hl : r.vers.length ≤ lim) : ∃ L' e' c, m_store_Store_Put (st nm size L) r e = some (st nm size L', e', c) ∧ NdI size R (N + 1) e' (upd1 S nm L') ∧ mget okF e'.seen = mget okF e.seen ∧
    (c = 0 → L' = L ++ [r] ∧ Rt r ∧ Fw.sz e'.seen = Fw.sz e.seen + (fr (reB r)).length) ∧ (c ≠ 0 → L' = L ∧ e' = e) ∧ (Rt r → (reB r).length ≤ 1048576 → L.length < 999999 → Fw.sz e.seen + (fr (reB r)).length ≤ R → c = 0) := by
  rw [lim_eq] at hN
  have hg := h.g nm L hS
  have hln := hg.ln
  have same : NdI size R (N + 1) e (upd1 S nm L) := (h.mono (Nat.le_succ _)).tab fun k => by
    unfold upd1; by_cases hk : k = nm
    · rw [if_pos hk, hk, hS]
    · rw [if_neg hk]
  unfold m_store_Store_Put m_store_Store_Put_j1
  rcases e_PutRec hl with hp | ⟨hr, hro, hp⟩
  · rw [hp, Option.bind_some]
    simp only
    rw [bif_f (by decide), bif_t (by decide)]
    refine ⟨L, e, 1, rfl, same, rfl, fun hc => absurd hc (by decide), fun _ => ⟨rfl, rfl⟩, fun hr => ?_⟩
    exfalso
    have := hr.1
    unfold m_code_PutRec at hp
    rw [this, Option.bind_some, show (!true) = false from rfl, bif_f rfl, e_writer hr.2] at hp
    simp at hp
  · rw [hp, Option.bind_some]
    simp only
    rw [bif_t (by decide)]
    obtain ⟨z, a1, a2, a3⟩ := e_LApp h.di hR (by rw [lim_eq]; omega) hg.nok (g := 0) (Nat.zero_le _) hs0 hs1 hg.has (cnt := L.length) (by omega) (reB r)
    rw [show (st nm size L).log = lg nm 0 size (bsOf size (L.map reB)) L.length from rfl, show (st nm size L).keys = keysOf L from rfl, a1, Option.bind_some]
    have hbl := bsOf_len size (L.map reB)
    rw [List.length_map] at hbl
    have bad : ∀ c : Int, c ≠ 0 → (1048576 < (reB r).length ∨ 999999 ≤ L.length ∨ R < Fw.sz e.seen + (fr (reB r)).length) → z = (lg nm 0 size (bsOf size (L.map reB)) L.length, e, c) → ∃ L' e' c, (bif (z.2.2 != 0) then some ((⟨z.1, keysOf L⟩ : Ostore_Store), z.2.1, z.2.2) else Option.bind (m_seglog_Log_Sync (⟨z.1, keysOf L⟩ : Ostore_Store).log z.2.1) fun z54 => Option.bind (m_store_Store_lay (⟨z.1, keysOf L⟩ : Ostore_Store) r (reB r)) fun z63 => some (z63, z54, 0)) = some (st nm size L', e', c) ∧ NdI size R (N + 1) e' (upd1 S nm L') ∧ mget okF e'.seen = mget okF e.seen ∧
        (c = 0 → L' = L ++ [r] ∧ Rt r ∧ Fw.sz e'.seen = Fw.sz e.seen + (fr (reB r)).length) ∧ (c ≠ 0 → L' = L ∧ e' = e) ∧ (Rt r → (reB r).length ≤ 1048576 → L.length < 999999 → Fw.sz e.seen + (fr (reB r)).length ≤ R → c = 0) := by
      rintro c hc why rfl
      rw [bif_t (by simpa using hc)]
      exact ⟨L, e, c, rfl, same, rfl, fun h0 => absurd h0 hc, fun _ => ⟨rfl, rfl⟩, fun _ q1 q2 q3 => by omega⟩
    cases a2 with
    | long q => exact bad 3 (by decide) (.inl q) rfl
    | many _ q =>
      have := pnum_le size (bsOf size (L.map reB)) (fr (reB r))
      exact bad 72 (by decide) (.inr (.inl (by omega))) rfl
    | full _ _ q => exact bad 72 (by decide) (.inr (.inr q)) rfl
    | ok q1 q2 q3 =>
      rw [bif_f (by simp)]
      simp only
      unfold m_seglog_Log_Sync
      rw [e_Sync, Option.bind_some, Option.bind_some, e_lay, Option.bind_some]
      have hpos := pnum_pos size (bsOf size (L.map reB)) (fr (reB r))
      have hoth : ∀ k, k ≠ fn nm 0 (pnum size (bsOf size (L.map reB)) (fr (reB r))) → mget k (dSync (dAdd e nm 0 size (bsOf size (L.map reB)) (fr (reB r)))).seen = mget k e.seen := fun k hk => add_other hk
      have hrk : Rk ((L ++ [r]).map reB) := fun x hx => by
        rw [List.map_append, List.map_singleton] at hx
        rcases List.mem_append.1 hx with hx | hx
        · exact hg.rk x hx
        · rw [List.mem_singleton.1 hx]; exact q1
      refine ⟨L ++ [r], _, 0, ?_, ⟨a3.sync, rfl, fun nm' L' hS' => ?_, fun k hk => ?_⟩, hoth okF (okF_fn hg.nok (Nat.zero_le _) q2), fun _ => ⟨rfl, ⟨hr, hro⟩, add_sz⟩, fun h0 => absurd rfl h0, fun _ _ _ _ => rfl⟩
      · unfold st
        rw [List.map_append, List.map_singleton, bsOf_snoc, keysOf_snoc, List.length_append, List.length_singleton]
      · unfold upd1 at hS'
        by_cases hn : nm' = nm
        · rw [if_pos hn] at hS'
          injection hS' with hS'
          subst hS'; subst hn
          refine ⟨hg.nok, ?_, fun x hx => ?_, hrk, by rw [List.length_append, List.length_singleton]; omega⟩
          · rw [List.map_append, List.map_singleton, bsOf_snoc]
            exact AppR.has hg.nok hg.has q2
          · rcases List.mem_append.1 hx with hx | hx
            · exact hg.rt x hx
            · rw [List.mem_singleton.1 hx]; exact ⟨hr, hro⟩
        · rw [if_neg hn] at hS'
          have g' := h.g nm' L' hS'
          refine ⟨g'.nok, ⟨g'.has.1, fun k k1 k2 => ?_⟩, g'.rt, g'.rk, Nat.le_succ_of_le g'.ln⟩
          rw [hoth _ fun e1 => hn (fn_inj g'.nok hg.nok e1).1]
          exact g'.has.2 k k1 k2
      · by_cases e1 : k = fn nm 0 (pnum size (bsOf size (L.map reB)) (fr (reB r)))
        · exact .inr ⟨nm, L ++ [r], _, by unfold upd1; rw [if_pos rfl], hpos, q2, e1⟩
        · rw [hoth k e1] at hk
          rcases h.own k hk with e2 | ⟨nm', L', j, h1, h2, h3, e2⟩
          · exact .inl e2
          · by_cases hn : nm' = nm
            · exact .inr ⟨nm, L ++ [r], j, by unfold upd1; rw [if_pos rfl], h2, h3, by rw [e2, hn]⟩
            · exact .inr ⟨nm', L', j, by unfold upd1; rw [if_neg hn, h1], h2, h3, e2⟩
/-- the mark is read -/
theorem NdI.mark (h : NdI size R N e S) (hR : R ≤ MX) : m_disk_Disk_Read e okF = some ((mget okF e.seen).getD [], (mget okF e.seen).isSome) := e_Rd h.di hR okF
end
end Fw
end Go.Proofs.YtckindfllegbgaaGreat

namespace Go.Proofs.YtckindfllegbgaaGreat
namespace Fw
set_option linter.unusedVariables false
set_option linter.unusedSimpArgs false
set_option linter.unusedSectionVars false

def dN : ByteArray := ⟨#[100]⟩
def hn (f : Nat) : ByteArray := ⟨#[104, UInt8.ofNat (48 + f)]⟩
def tab (Lo : List Rec) (Lh : Nat → List Rec) : Tab := fun k => if k = dN then some Lo else ((List.range' 1 8).find? fun f => decide (k = hn f)).map Lh
section
variable {Lo : List Rec} {Lh : Nat → List Rec}
end
def hl (self : Nat) : List Nat := (List.range' 1 8).filter fun f => decide (f ≠ self)
def hin (size : Int) (Lh : Nat → List Rec) (l : List Nat) : List (Int × Ostore_Store) := l.map fun f : Nat => ((f : Int), st (hn f) size (Lh f))
def tbl : List (Int × Nat) := mput 17 38 (mput 9 37 (mput 8 36 (mput 6 35 (mput 4 34 (mput 2 33 (mput 1 32 ([] : List (Int × Nat))))))))
def nd (life : Int) (self : Nat) (size : Int) (Lo : List Rec) (Lh : Nat → List Rec) : Onode_Node := ⟨life, 1, (self : Int), st dN size Lo, hin size Lh (hl self), tbl⟩
section
variable {size sz life : Int} {R N self : Nat} {e : Dk} {Lo : List Rec} {Lh : Nat → List Rec}
end
end Fw
end Go.Proofs.YtckindfllegbgaaGreat

namespace Go.Proofs.YtckindfllegbgaaGreat
namespace Fw
set_option linter.unusedVariables false
set_option linter.unusedSimpArgs false
set_option linter.unusedSectionVars false

section
variable {L : List Rec} (hrt : ∀ r ∈ L, Rt r)
include hrt
end
section
variable {size : Int} {R : Nat} {nm : ByteArray}
end
end Fw
end Go.Proofs.YtckindfllegbgaaGreat

namespace Go.Proofs.YtckindfllegbgaaGreat
namespace Fw
set_option linter.unusedVariables false
set_option linter.unusedSimpArgs false
set_option linter.unusedSectionVars false

section
variable {L : List Rec} (hrt : ∀ r ∈ L, Rt r)
include hrt
end
/-! ### the node's answers -/
section
variable {size life : Int} {R N self : Nat} {e : Dk} {Lo : List Rec} {Lh : Nat → List Rec}
variable {f id n : Int} {key : ByteArray}
end
end Fw
end Go.Proofs.YtckindfllegbgaaGreat

namespace Go.Proofs.YtckindfllegbgaaGreat
namespace Fw
set_option linter.unusedVariables false
set_option linter.unusedSimpArgs false
set_option linter.unusedSectionVars false

end Fw
end Go.Proofs.YtckindfllegbgaaGreat
