/- Numbers, hashes and marks of layers 1 and 5; a key's place: what the printed models come to. No condition. -/
import Derived.Test.YtmmnpinpcgidnaaGreatP6
namespace Go.Proofs.YtmmnpinpcgidnaaGreat
namespace Fw
set_option linter.unusedVariables false
set_option linter.unusedSimpArgs false
set_option linter.unusedSectionVars false

/-! ### hashes -/
def hashStep (h : Int) (x : UInt8) : Int := wu64 ((ixor .u64 h (wu64 ((x.toNat : Nat) : Int))) * 1099511628211)
def hashFold (b : List UInt8) : Int := b.foldl hashStep 14695981039346656037
def hashEnd (h : Int) : Int := ixor .u64 (wu64 ((ixor .u64 h (ishr .u64 h 33)) * 18397679294719823053)) (ishr .u64 (wu64 ((ixor .u64 h (ishr .u64 h 33)) * 18397679294719823053)) 33)
def hashB (b : List UInt8) : Int := hashEnd (hashFold b)
theorem wu64_rng (x : Int) : 0 ≤ wu64 x ∧ wu64 x < 18446744073709551616 := by unfold wu64; omega
theorem shr_div {h : Int} (h0 : 0 ≤ h) (h1 : h < 18446744073709551616) : wu64 (h.tdiv 8589934592) = ishr .u64 h 33 := by
  have e : h.tdiv 8589934592 = h / 8589934592 := Int.tdiv_eq_ediv_of_nonneg h0
  rw [e]
  unfold wu64 ishr
  show h / 8589934592 % 18446744073709551616 = h / 2 ^ (min (33 : Int).toNat IntKind.u64.bits)
  rw [show (2 : Int) ^ (min (33 : Int).toNat IntKind.u64.bits) = 8589934592 from by decide]
  omega
theorem ixor_rng (a b : Int) : 0 ≤ ixor .u64 a b ∧ ixor .u64 a b < 18446744073709551616 := by unfold ixor wr; exact wu64_rng _
theorem e_Hash (b : List UInt8) : m_num_Hash b = some (hashB b) := by
  unfold m_num_Hash hashB hashFold
  refine forI_inv (fun i h => some (hashEnd ((b.drop i).foldl hashStep h))) (fun _ _ => True) (fun s _ => ?_) (fun f i s hi _ hf => ?_) trivial
  · rw [List.drop_of_length_le (Nat.le_refl _)]; rfl
  · unfold m_num_Hash_b1
    rw [hf _ trivial, drop_gt hi]; rfl
theorem rEnd {h : Int} (h0 : 0 ≤ h) (h1 : h < 18446744073709551616) : ixor .u64 (wu64 ((ixor .u64 h (wu64 (h.tdiv 8589934592))) * 18397679294719823053)) (wu64 ((wu64 ((ixor .u64 h (wu64 (h.tdiv 8589934592))) * 18397679294719823053)).tdiv 8589934592)) = hashEnd h := by
  rw [shr_div h0 h1, shr_div (wu64_rng _).1 (wu64_rng _).2]
  unfold hashEnd
  exact Eq.refl _
theorem init_rng : (0 : Int) ≤ 14695981039346656037 ∧ (14695981039346656037 : Int) < 18446744073709551616 := by omega
theorem rStep (f : Int → Option Int) (i : Nat) (x : UInt8) (h : Int) : m_firthref01_Hash_b1 f i x h = f (hashStep h x) := by
  unfold m_firthref01_Hash_b1 hashStep
  exact Eq.refl _
theorem e_rLoop {k : Int → Option Int} (hk : ∀ h, 0 ≤ h ∧ h < 18446744073709551616 → k h = some (hashEnd h)) : ∀ (b : List UInt8) (i : Nat) (h : Int), 0 ≤ h ∧ h < 18446744073709551616 → forI m_firthref01_Hash_b1 k i b h = some (hashEnd (b.foldl hashStep h))
  | [], i, h, hh => by rw [forI, hk h hh, List.foldl_nil]
  | x :: b, i, h, hh => by
    rw [forI, rStep, List.foldl_cons]
    exact e_rLoop hk b (i + 1) _ (wu64_rng _)
theorem e_rHash (b : List UInt8) : m_firthref01_Hash b = some (hashB b) := by
  unfold m_firthref01_Hash hashB hashFold
  exact e_rLoop (fun h hh => congrArg some (rEnd hh.1 hh.2)) b 0 _ init_rng
theorem hashB_rng (b : List UInt8) : 0 ≤ hashB b ∧ hashB b < 18446744073709551616 := by unfold hashB hashEnd; exact ixor_rng _ _
theorem hashB_u64 (b : List UInt8) : u64b (hashB b) = true := by have h := hashB_rng b; generalize hashB b = x at h ⊢; unfold u64b; simp; omega

/-! ### a key's place -/
theorem ishr_div {a : Int} {n : Nat} (hn : n ≤ 64) : ishr .u64 a (n : Int) = a / 2 ^ n := by
  unfold ishr
  rw [show min ((n : Int)).toNat IntKind.u64.bits = n from by rw [Int.toNat_natCast]; exact Nat.min_eq_left hn]
theorem iand15 {a : Int} (h0 : 0 ≤ a) (h1 : a < 18446744073709551616) : iand .u64 a 15 = a % 16 := by
  unfold iand
  have e1 : (BitVec.ofInt IntKind.u64.bits a &&& BitVec.ofInt IntKind.u64.bits 15).toNat = (a % 16).toNat := by
    rw [BitVec.toNat_and]
    have e2 : (BitVec.ofInt IntKind.u64.bits a).toNat = a.toNat := by
      rw [BitVec.toNat_ofInt]
      have e9 : ((2 ^ IntKind.u64.bits : Nat) : Int) = 18446744073709551616 := rfl
      rw [e9, Int.emod_eq_of_lt h0 h1]
    have e3 : (BitVec.ofInt IntKind.u64.bits 15).toNat = 15 := by decide
    rw [e2, e3, show (15 : Nat) = 2 ^ 4 - 1 from rfl, Nat.and_two_pow_sub_one_eq_mod]
    omega
  rw [e1]
  show wu64 _ = _
  unfold wu64
  omega
def pa (key : ByteArray) : Nat := (hashB key.data.toList / 1152921504606846976).toNat
def pb (key : ByteArray) : Nat := (hashB key.data.toList / 72057594037927936 % 16).toNat
theorem pa_lt (key : ByteArray) : pa key < 16 := by have := hashB_rng key.data.toList; unfold pa; omega
theorem pb_lt (key : ByteArray) : pb key < 16 := by have := hashB_rng key.data.toList; unfold pb; omega
theorem e_Place (key : ByteArray) : m_tree_Place key = some [((pa key : Nat) : Int), ((pb key : Nat) : Int)] := by
  unfold m_tree_Place
  rw [e_Hash, Option.bind_some]
  have h := hashB_rng key.data.toList
  unfold pa pb
  generalize hashB key.data.toList = H at h ⊢
  have e1 : w64 (ishr .u64 H 60) = ((H / 1152921504606846976).toNat : Int) := by
    rw [show (60 : Int) = ((60 : Nat) : Int) from rfl, ishr_div (by omega)]
    unfold w64
    rw [show (2 : Int) ^ 60 = 1152921504606846976 from by decide]
    omega
  have e2 : w64 (iand .u64 (ishr .u64 H 56) 15) = ((H / 72057594037927936 % 16).toNat : Int) := by
    rw [show (56 : Int) = ((56 : Nat) : Int) from rfl, ishr_div (by omega), show (2 : Int) ^ 56 = 72057594037927936 from by decide, iand15 (by omega) (by omega)]
    unfold w64
    omega
  rw [e1, e2]
theorem e_rPlace (key : ByteArray) : m_firthref11_Place key = some [((pa key : Nat) : Int), ((pb key : Nat) : Int)] := by
  unfold m_firthref11_Place
  rw [e_rHash, Option.bind_some]
  have h := hashB_rng key.data.toList
  unfold pa pb
  generalize hashB key.data.toList = H at h ⊢
  have e1 : w64 (wu64 (H.tdiv 1152921504606846976)) = ((H / 1152921504606846976).toNat : Int) := by
    rw [Int.tdiv_eq_ediv_of_nonneg h.1]
    unfold w64 wu64
    omega
  have e2 : w64 ((wu64 (H.tdiv 72057594037927936)).tmod 16) = ((H / 72057594037927936 % 16).toNat : Int) := by
    rw [Int.tdiv_eq_ediv_of_nonneg h.1, Int.tmod_eq_emod_of_nonneg (wu64_rng _).1]
    unfold w64 wu64
    omega
  rw [e1, e2]

/-! ### numbers and texts as bytes -/
theorem wu8_b (x : Int) : u8b (wu8 x) = true := by unfold u8b wu8; simp; omega
theorem put_loop : ∀ (k : Nat) (m : Nat) (b : List UInt8) (u : Int), 0 ≤ u → u < 128 ^ (k + 1) → b.length + k + 1 ≤ lim → ∃ l, loopN m_num_PutNum_b1 (m + k + 1) (b, u) = some l ∧ l.length ≤ b.length + k + 1
  | 0, m, b, u, h0, h1, hl => by
    refine ⟨b ++ [b8 (wu8 u)], ?_, by simp⟩
    show m_num_PutNum_b1 _ (b, u) = _
    unfold m_num_PutNum_b1
    simp only
    rw [show decide (127 < u) = false from decide_eq_false (by simp at h1; omega), cond_false, show decide (b.length + 1 ≤ lim) = true from decide_eq_true (by omega)]
    rfl
  | k + 1, m, b, u, h0, h1, hl => by
    show ∃ l, m_num_PutNum_b1 (loopN m_num_PutNum_b1 (m + k + 1)) (b, u) = some l ∧ _
    unfold m_num_PutNum_b1
    simp only
    by_cases hu : 127 < u
    · rw [show decide (127 < u) = true from decide_eq_true hu, cond_true]
      have hb : u8b (ior .u8 (wu8 u) 128) = true := wu8_b _
      rw [hb, show decide (b.length + 1 ≤ lim) = true from decide_eq_true (by omega)]
      have e : ishr .u64 u 7 = u / 128 := by rw [show (7 : Int) = ((7 : Nat) : Int) from rfl, ishr_div (by omega)]; rfl
      rw [e]
      have hlt : u / 128 < 128 ^ (k + 1) := by
        rw [Int.pow_succ] at h1
        exact Int.ediv_lt_of_lt_mul (by omega) h1
      obtain ⟨l, h3, h4⟩ := put_loop k m (b ++ [b8 (ior .u8 (wu8 u) 128)]) (u / 128) (by omega) hlt (by simp; omega)
      exact ⟨l, h3, by simp at h4; omega⟩
    · rw [show decide (127 < u) = false from decide_eq_false hu, cond_false, show decide (b.length + 1 ≤ lim) = true from decide_eq_true (by omega)]
      exact ⟨b ++ [b8 (wu8 u)], rfl, by simp⟩
theorem put_ex (n : Int) : ∃ l, m_num_PutNum n = some l ∧ l.length ≤ 10 := by
  have h := put_loop 9 18446744073709551606 [] (wu64 (max n 0)) (wu64_rng _).1 (by have := (wu64_rng (max n 0)).2; have e : (128 : Int) ^ (9 + 1) = 1180591620717411303424 := by decide
                                                                                   omega) (by rw [lim_eq]; decide)
  obtain ⟨l, h1, h2⟩ := h
  exact ⟨l, h1, by simpa using h2⟩
def pn (n : Int) : List UInt8 := (m_num_PutNum n).getD []
theorem e_pn (n : Int) : m_num_PutNum n = some (pn n) := by obtain ⟨l, h, _⟩ := put_ex n; unfold pn; rw [h]; rfl
theorem pn_len (n : Int) : (pn n).length ≤ 10 := by obtain ⟨l, h, h2⟩ := put_ex n; unfold pn; rw [h]; exact h2
theorem e_PutText {s : ByteArray} (h : s.size + 10 ≤ lim) : m_num_PutText s = some (pn s.size ++ s.data.toList) := by
  unfold m_num_PutText
  have := pn_len s.size
  rw [e_pn, Option.bind_some, show decide ((pn s.size).length + s.size ≤ lim) = true from decide_eq_true (by omega)]
  rfl
def verB (v : Ver) : List UInt8 := pn v.dot.s ++ pn v.dot.n
def markB (key : ByteArray) (l : List Ver) : List UInt8 := (pn key.size ++ key.data.toList) ++ l.flatMap verB
theorem verB_len (v : Ver) : (verB v).length ≤ 20 := by have := pn_len v.dot.s; have := pn_len v.dot.n; unfold verB; simp; omega
theorem flat_len {α : Type} {f : α → List UInt8} {c : Nat} (hf : ∀ x, (f x).length ≤ c) : ∀ l : List α, (l.flatMap f).length ≤ c * l.length
  | [] => by simp
  | x :: l => by
    have := flat_len hf l; have := hf x
    simp only [List.flatMap_cons, List.length_append, List.length_cons, Nat.mul_add, Nat.mul_one]; omega
theorem e_Mark {key : ByteArray} {l : List Ver} (h : key.size + 10 + 20 * l.length ≤ lim) : m_vers_Mark key l = some (hashB (markB key l)) := by
  unfold m_vers_Mark
  rw [e_PutText (by omega), Option.bind_some]
  have hp := pn_len key.size
  have hkd : key.data.toList.length = key.size := rfl
  refine forI_inv (fun i b => some (hashB (b ++ (l.drop i).flatMap verB))) (fun i b => b.length ≤ 10 + key.size + 20 * i) (fun s _ => ?_) (fun f i s hi hI hf => ?_) ?_
  · rw [e_Hash, List.drop_of_length_le (Nat.le_refl _)]; simp
  · unfold m_vers_Mark_b1
    have h1 := pn_len (gt l i).dot.s; have h2 := pn_len (gt l i).dot.n
    rw [e_pn, Option.bind_some, e_pn, Option.bind_some, show decide (s.length + (pn (gt l i).dot.s).length ≤ lim) = true from decide_eq_true (by omega), show decide ((s ++ pn (gt l i).dot.s).length + (pn (gt l i).dot.n).length ≤ lim) = true from decide_eq_true (by simp; omega)]
    simp only [chk, cond_true]
    rw [hf _ (by simp; omega), drop_gt hi, List.flatMap_cons]
    simp [verB, List.append_assoc]
  · simp; omega
def hv (h : Int) : List UInt8 := pn (w64 (ishr .u64 h 32)) ++ pn (w64 (iand .u64 h 4294967295))
theorem hv_len (h : Int) : (hv h).length ≤ 20 := by have := pn_len (w64 (ishr .u64 h 32)); have := pn_len (w64 (iand .u64 h 4294967295)); unfold hv; simp; omega
theorem e_halves {b : List UInt8} (h : Int) (hl : b.length + 20 ≤ lim) : m_tree_halves b h = some (b ++ hv h) := by
  unfold m_tree_halves
  have h1 := pn_len (w64 (ishr .u64 h 32)); have h2 := pn_len (w64 (iand .u64 h 4294967295))
  rw [e_pn, Option.bind_some, e_pn, Option.bind_some, show decide (b.length + (pn (w64 (ishr .u64 h 32))).length ≤ lim) = true from decide_eq_true (by omega), show decide ((b ++ pn (w64 (ishr .u64 h 32))).length + (pn (w64 (iand .u64 h 4294967295))).length ≤ lim) = true from decide_eq_true (by simp; omega)]
  simp [chk, hv]
end Fw
end Go.Proofs.YtmmnpinpcgidnaaGreat
