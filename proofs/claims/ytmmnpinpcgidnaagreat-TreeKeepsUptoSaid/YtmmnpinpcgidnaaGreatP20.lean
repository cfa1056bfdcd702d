/- What the reference's numbers, texts and hashes come to. No condition. -/
import Derived.Test.YtmmnpinpcgidnaaGreatP13
namespace Go.Proofs.YtmmnpinpcgidnaaGreat
namespace Fw
set_option linter.unusedVariables false
set_option linter.unusedSimpArgs false
set_option linter.unusedSectionVars false

theorem ior128 : ∀ n : Fin 256, ior .u8 ((n.val : Nat) : Int) 128 = ((n.val : Nat) : Int) % 128 + 128 := by decide +kernel
theorem ior_b {u : Int} (h0 : 0 ≤ u) : ior .u8 (wu8 u) 128 = u % 128 + 128 := by
  have hr : 0 ≤ wu8 u ∧ wu8 u < 256 := by unfold wu8; omega
  have h := ior128 ⟨(wu8 u).toNat, by omega⟩
  simp only at h
  rw [Int.toNat_of_nonneg hr.1] at h
  rw [h]
  unfold wu8
  omega
theorem put_step {f : Int × List UInt8 → Option (List UInt8)} {g : List UInt8 × Int → Option (List UInt8)} {u : Int} {b : List UInt8} (h0 : 0 ≤ u) (h1 : u ≤ 9223372036854775807) (hfg : f (u / 128, b ++ [b8 (u % 128 + 128)]) = g (b ++ [b8 (u % 128 + 128)], u / 128)) :
    m_firthref01_PutNum_b2 f (u, b) = m_num_PutNum_b1 g (b, u) := by
  unfold m_firthref01_PutNum_b2 m_num_PutNum_b1
  simp only
  have hd : decide (128 ≤ u) = decide (127 < u) := by rw [Bool.eq_iff_iff, decide_eq_true_eq, decide_eq_true_eq]; omega
  have e : ishr .u64 u 7 = u / 128 := by rw [show (7 : Int) = ((7 : Nat) : Int) from rfl, ishr_div (by omega)]; rfl
  have e2 : w64 (u.tdiv 128) = u / 128 := by
    rw [Int.tdiv_eq_ediv_of_nonneg h0, w64_i (by unfold I64; omega)]
  have e3 : wu8 (w64 ((u.tmod 128) + 128)) = u % 128 + 128 := by
    rw [Int.tmod_eq_emod_of_nonneg h0, w64_i (by unfold I64; omega)]
    unfold wu8; omega
  rw [hd, e, e2, e3, ior_b h0, hfg]
  have hu : u8b (u % 128 + 128) = true := by unfold u8b; simp; omega
  rw [hu]
  cases decide (127 < u) <;> rfl
theorem put_same : ∀ (m : Nat) (u : Int) (b : List UInt8), 0 ≤ u → u ≤ 9223372036854775807 → loopN m_firthref01_PutNum_b2 m (u, b) = loopN m_num_PutNum_b1 m (b, u)
  | 0, u, b, _, _ => rfl
  | m + 1, u, b, h0, h1 => put_step h0 h1 (put_same m _ _ (by omega) (by omega))
theorem e_rPut {n : Int} (h : I64 n) : m_firthref01_PutNum n = some (pn n) := by
  rw [← e_pn]
  unfold m_firthref01_PutNum m_firthref01_PutNum_j1 m_num_PutNum
  unfold I64 at h
  by_cases hn : n < 0
  · rw [decide_eq_true hn, cond_true, put_same _ _ _ (by omega) (by omega), show wu64 (max n 0) = 0 by unfold wu64; omega]
  · rw [decide_eq_false hn, cond_false, put_same _ _ _ (by omega) (by omega), show wu64 (max n 0) = n by unfold wu64; omega]
theorem e_rPutText {s : ByteArray} (h : s.size + 10 ≤ lim) : m_firthref01_PutText s = some (pn s.size ++ s.data.toList) := by
  unfold m_firthref01_PutText
  have hl := pn_len s.size
  rw [lim_v] at h
  rw [e_rPut (by unfold I64; omega), Option.bind_some]
  have hk : s.data.toList.length = s.size := rfl
  refine forU_run (fun i b => b = pn s.size ++ s.data.toList.take i) (fun b hb => ?_) (fun f i b hi hb hf => ?_) (by simp)
  · rw [hb, List.take_of_length_le (by omega)]
  · unfold m_firthref01_PutText_b1
    rw [chk_t (decide_eq_true (by rw [hb, List.length_append, List.length_take, lim_v]; omega))]
    exact hf _ (by rw [hb, take_gt (by omega), List.append_assoc])
theorem e_rMark {key : ByteArray} {l : List Ver} (hv : ∀ v ∈ l, I64 v.dot.s ∧ I64 v.dot.n) (h : key.size + 10 + 20 * l.length ≤ lim) : m_firthref05_Mark key l = some (hashB (markB key l)) := by
  unfold m_firthref05_Mark
  rw [e_rPutText (by omega), Option.bind_some]
  have hp := pn_len key.size
  have hkd : key.data.toList.length = key.size := rfl
  refine forI_inv (fun i b => some (hashB (b ++ (l.drop i).flatMap verB))) (fun i b => b.length ≤ 10 + key.size + 20 * i) (fun s _ => ?_) (fun f i s hi hI hf => ?_) ?_
  · rw [e_rHash, List.drop_of_length_le (Nat.le_refl _)]; simp
  · unfold m_firthref05_Mark_b1
    have h1 := pn_len (gt l i).dot.s; have h2 := pn_len (gt l i).dot.n
    obtain ⟨h3, h4⟩ := hv _ (gt_mem hi)
    rw [e_rPut h3, Option.bind_some, e_rPut h4, Option.bind_some, show decide (s.length + (pn (gt l i).dot.s).length ≤ lim) = true from decide_eq_true (by omega), show decide ((s ++ pn (gt l i).dot.s).length + (pn (gt l i).dot.n).length ≤ lim) = true from decide_eq_true (by simp; omega)]
    simp only [chk, cond_true]
    rw [hf _ (by simp; omega), drop_gt hi, List.flatMap_cons]
    simp [verB, List.append_assoc]
  · simp; omega
theorem iand32 {a : Int} (h0 : 0 ≤ a) (h1 : a < 18446744073709551616) : iand .u64 a 4294967295 = a % 4294967296 := by
  unfold iand
  have e1 : (BitVec.ofInt IntKind.u64.bits a &&& BitVec.ofInt IntKind.u64.bits 4294967295).toNat = (a % 4294967296).toNat := by
    rw [BitVec.toNat_and]
    have e2 : (BitVec.ofInt IntKind.u64.bits a).toNat = a.toNat := by
      rw [BitVec.toNat_ofInt]
      have e9 : ((2 ^ IntKind.u64.bits : Nat) : Int) = 18446744073709551616 := rfl
      rw [e9, Int.emod_eq_of_lt h0 h1]
    have e3 : (BitVec.ofInt IntKind.u64.bits 4294967295).toNat = 4294967295 := by decide
    rw [e2, e3, show (4294967295 : Nat) = 2 ^ 32 - 1 from rfl, Nat.and_two_pow_sub_one_eq_mod]
    omega
  rw [e1]
  show wu64 _ = _
  unfold wu64
  omega
theorem w64_rng (x : Int) : I64 (w64 x) := by unfold I64 w64; omega
theorem e_rHalves {b : List UInt8} {h : Int} (h0 : 0 ≤ h) (h1 : h < 18446744073709551616) (hl : b.length + 20 ≤ lim) : m_firthref11_halves b h = some (b ++ hv h) := by
  unfold m_firthref11_halves hv
  have e1 : wu64 (h.tdiv 4294967296) = ishr .u64 h 32 := by
    rw [show (32 : Int) = ((32 : Nat) : Int) from rfl, ishr_div (by omega), Int.tdiv_eq_ediv_of_nonneg h0, show (2 : Int) ^ 32 = 4294967296 from by decide]
    unfold wu64; omega
  have e2 : h.tmod 4294967296 = iand .u64 h 4294967295 := by
    rw [iand32 h0 h1, Int.tmod_eq_emod_of_nonneg h0]
  rw [e1, e2]
  have h1 := pn_len (w64 (ishr .u64 h 32)); have h2 := pn_len (w64 (iand .u64 h 4294967295))
  rw [e_rPut (w64_rng _), Option.bind_some, e_rPut (w64_rng _), Option.bind_some, chk_t (decide_eq_true (by omega)), chk_t (decide_eq_true (by simp; omega)), List.append_assoc]
theorem e_longer {path : List Int} (d : Int) (h : path.length + 1 ≤ lim) : m_firthref11_longer path d = some (path ++ [d]) := by
  unfold m_firthref11_longer
  rw [chk_t (decide_eq_true (by omega)), chk_t (decide_eq_true h)]
theorem e_rPath (path : List Int) : m_firthref11_Path path = some (okP path) := by
  unfold m_firthref11_Path
  have hd : decide (((path.length : Nat) : Int) ≤ 2) = decide (path.length ≤ 2) := by rw [Bool.eq_iff_iff, decide_eq_true_eq, decide_eq_true_eq]; omega
  rw [hd]
  refine (forI_inv (fun i _ => some (decide (path.length ≤ 2) && (path.drop i).all (fun d => decide (0 ≤ d) && decide (d ≤ 15)))) (fun _ _ => True) (fun _ _ => ?_) (fun f i s hi _ hf => ?_) trivial).trans ?_
  · rw [List.drop_of_length_le (Nat.le_refl _)]; simp
  · unfold m_firthref11_Path_b1
    rw [hf () trivial, drop_gt hi, List.all_cons]
    have : (decide (gt path i < 0) || decide (15 < gt path i)) = !(decide (0 ≤ gt path i) && decide (gt path i ≤ 15)) := by
      rw [Bool.eq_iff_iff]; simp
    rw [this]
    cases (decide (0 ≤ gt path i) && decide (gt path i ≤ 15)) <;> simp
  · rw [List.drop_zero]; rfl
end Fw
end Go.Proofs.YtmmnpinpcgidnaaGreat
