/- Each act of the disk, and of the document's. No condition. -/
import Derived.Test.YtichdipjedoijaaP4
namespace Go.Proofs.Ytichdipjedoijaa
namespace Fw
set_option linter.unusedVariables false
set_option linter.unusedSimpArgs false
set_option linter.unusedSectionVars false

def MX : Nat := 1073741824
section
variable {R N : Nat} {d : Dk} {m : Md}
def mPush (m : Md) (t : Ch) : Md := ⟨m.room, m.safe_, m.todo ++ [t]⟩
theorem room_w {z : Nat} (hR : R ≤ MX) (hz : z ≤ R) : w64 ((R : Int) - (z : Int)) = (R : Int) - (z : Int) := w64_i (by unfold I64 MX at *; omega)
theorem MX_lim (hR : R ≤ MX) : R ≤ lim := by rw [lim_v]; unfold MX at hR; omega
theorem find_t {es : Mp} {n : ByteArray} (hn : NK es) (h : (mget n es).isSome = true) : decide (fix n (FM es) 0 < 0) = false := by rw [fix_nn, lk_FM hn, h]; rfl
theorem find_f {es : Mp} {n : ByteArray} (hn : NK es) (h : (mget n es).isSome = false) : decide (fix n (FM es) 0 < 0) = true := by rw [fix_nn, lk_FM hn, h]; rfl
theorem j1_ok {t : Ch} (h1 : t.data.length ≤ lim) (h2 : m.todo.length + 1 ≤ lim) : m_firthref07_Disk_Do_j1 m t = some (mPush m t, 0) := by
  unfold m_firthref07_Disk_Do_j1
  rw [chk_t (by simpa using h1), chk_t (by simpa using h2)]; rfl
/-- the document's act, as far as the names are looked at -/
theorem do_names (h : Rel R N d m) (hR : R ≤ MX) (hN : N + 1 ≤ lim) (t : Ch) : m_firthref07_Disk_Do m t = bif !okn t.name || (t.kind == 3 && !okn t.to_) then some (m, 70) else
    (bif t.kind == 1 then m_firthref07_Disk_Do_j3 m t (decide ((R : Int) - (Fw.sz d.seen : Int) < ((t.data.length : Nat) : Int)))
    else bif !(mget t.name d.seen).isSome then some (m, 71)
    else bif t.kind == 2 then (bif decide (t.n < 0) || decide (((((mget t.name d.seen).getD []).length : Nat) : Int) < t.n) then some (m, 1) else m_firthref07_Disk_Do_j1 m t)
    else m_firthref07_Disk_Do_j1 m t) := by
  unfold m_firthref07_Disk_Do
  rw [e_wrong, e_wrong, Option.bind_some, gcall_s, Option.bind_some]
  have h1 : (!okn t.name || (t.kind == 3) && (bif (!!okn t.name) && (t.kind == 3) then !okn t.to_ else default)) = (!okn t.name || (t.kind == 3 && !okn t.to_)) := by
    cases okn t.name <;> cases t.kind == 3 <;> rfl
  rw [h1]
  cases (!okn t.name || (t.kind == 3 && !okn t.to_)) with
  | true => rfl
  | false =>
    rw [bif_f rfl, bif_f rfl, h.files (MX_lim hR) hN, Option.bind_some, e_find, Option.bind_some]
    cases t.kind == 1 with
    | true =>
      rw [bif_t rfl, bif_t rfl, h.used (MX_lim hR) hN, Option.bind_some, h.rm, room_w hR h.sz]
    | false =>
      rw [bif_f rfl, bif_f rfl]
      cases hm : (mget t.name d.seen).isSome with
      | false => rw [find_f h.nk hm]; rfl
      | true =>
        rw [find_t h.nk hm]
        obtain ⟨v, hv⟩ := Option.isSome_iff_exists.1 hm
        obtain ⟨j, g1, g2, g3⟩ := fix_some (i := 0) ((lk_FM h.nk).trans hv)
        rw [Nat.zero_add] at g1
        rw [g1, hv]
        cases t.kind == 2 with
        | true =>
          have g4 : inb ((j : Nat) : Int) (FM d.seen).length = true := by simp [inb]; omega
          rw [bif_f rfl, bif_t rfl, g4]
          have g5 : imp (!decide (t.n < 0)) true = true := by cases decide (t.n < 0) <;> rfl
          rw [chk_t g5, Int.toNat_natCast, g3]
          rfl
        | false => rfl
theorem e_App (h : Rel R N d m) (hR : R ≤ MX) (hN : N + 1 ≤ lim) (n : ByteArray) (b : List UInt8) : m_disk_Disk_Append d n b = some (dApp d n b) := by
  have hs := h.sz
  have hR2 := MX_lim hR
  unfold m_disk_Disk_Append dApp
  rw [e_right, Option.bind_some]
  simp only [List.all_cons, List.all_nil, Bool.and_true]
  cases okn n with
  | false => rfl
  | true =>
    rw [show (!true) = false from rfl, bif_f rfl, bif_f rfl, e_used (Nat.le_trans hs hR2), Option.bind_some, h.rd, room_w hR hs]
    cases hc : decide ((R : Int) - (Fw.sz d.seen : Int) < ((b.length : Nat) : Int)) with
    | true => rfl
    | false =>
      have hc := of_decide_eq_false hc
      rw [bif_f rfl, bif_f rfl, e_cln (by omega), Option.bind_some]
      unfold m_disk_add
      rw [Option.bind_some, e_done h hR2 hN (c := ⟨.disk_add_1 n b, n, b⟩) (by show Fw.sz (ap (.disk_add_1 n b) d.seen) ≤ R; rw [sz_add]; omega) trivial]; rfl
theorem r_App (h : Rel R N d m) (hR : R ≤ MX) (hN : N + 1 ≤ lim) (n : ByteArray) (b : List UInt8) : ∃ m', m_firthref07_Disk_Append m n b = some (m', (dApp d n b).2) ∧ Rel R (N + 1) (dApp d n b).1 m' := by
  have hs := h.sz
  have hR2 := MX_lim hR
  unfold m_firthref07_Disk_Append
  rw [do_names h hR hN]
  unfold dApp
  have h3 : ((1 : Int) == 3) = false := by decide
  have h1 : ((1 : Int) == 1) = true := by decide
  simp only [h3, h1, Bool.false_and, Bool.or_false]
  cases okn n with
  | false => exact ⟨m, rfl, h.mono (Nat.le_succ _)⟩
  | true =>
    rw [show (!true) = false from rfl, bif_f rfl, bif_f rfl, bif_t rfl, h.rd]
    unfold m_firthref07_Disk_Do_j3
    cases hc : decide ((R : Int) - (Fw.sz d.seen : Int) < ((b.length : Nat) : Int)) with
    | true => exact ⟨m, rfl, h.mono (Nat.le_succ _)⟩
    | false =>
      have hc := of_decide_eq_false hc
      have hl := h.ll
      rw [bif_f rfl, bif_f rfl, j1_ok (by show b.length ≤ lim; omega) (by rw [← h.good.len]; omega)]
      exact ⟨_, rfl, h.done (c := ⟨.disk_add_1 n b, n, b⟩) (by show Fw.sz (ap (.disk_add_1 n b) d.seen) ≤ R; rw [sz_add]; omega) trivial ⟨rfl, rfl, rfl⟩ ⟨rfl, rfl⟩⟩
theorem e_There (n : ByteArray) : m_disk_Disk_there d n = some (dThere d n) := by
  unfold m_disk_Disk_there dThere
  rw [e_right, Option.bind_some]
  simp only [List.all_cons, List.all_nil, Bool.and_true]
  cases okn n <;> cases (mget n d.seen).isSome <;> rfl
theorem there_r (n : ByteArray) : i64b (dThere d n) = true := by
  unfold dThere
  cases okn n <;> cases (mget n d.seen).isSome <;> decide
theorem there_0 {n : ByteArray} (h : (dThere d n != 0) = false) : okn n = true ∧ (mget n d.seen).isSome = true := by
  unfold dThere at h
  cases h1 : okn n <;> cases h2 : (mget n d.seen).isSome <;> rw [h1, h2] at h <;> first | exact ⟨rfl, rfl⟩ | exact absurd h (by decide)
theorem there_n {n : ByteArray} (h : (dThere d n != 0) = true) : okn n = false ∧ dThere d n = 70 ∨ okn n = true ∧ (mget n d.seen).isSome = false ∧ dThere d n = 71 := by
  unfold dThere at h ⊢
  cases h1 : okn n <;> cases h2 : (mget n d.seen).isSome <;> rw [h1, h2] at h <;> first | exact .inl ⟨rfl, rfl⟩ | exact .inr ⟨rfl, rfl, rfl⟩ | exact absurd h (by decide)
theorem e_Cut (h : Rel R N d m) (hR : R ≤ MX) (hN : N + 1 ≤ lim) (n : ByteArray) (k : Int) : m_disk_Disk_Cut d n k = some (dCut d n k) := by
  have hs := h.sz
  unfold m_disk_Disk_Cut dCut
  rw [e_There, Option.bind_some]
  cases ht : dThere d n != 0 with
  | true => rw [bif_t rfl, bif_t rfl, chk_t (there_r n)]
  | false =>
    rw [bif_f rfl, bif_f rfl]
    cases hc : decide (k < 0) || decide (((((mget n d.seen).getD []).length : Nat) : Int) < k) with
    | true => rfl
    | false =>
      simp only [Bool.or_eq_false_iff, decide_eq_false_iff_not] at hc
      rw [bif_f rfl, bif_f rfl, e_done h (MX_lim hR) hN (c := ⟨.disk_Disk_Cut_1 n k, ByteArray.empty, []⟩) (Nat.le_trans (sz_cut (n := n) (k := k)) hs) ⟨(there_0 ht).2, by omega, by omega⟩]; rfl
theorem r_Cut (h : Rel R N d m) (hR : R ≤ MX) (hN : N + 1 ≤ lim) (n : ByteArray) (k : Int) : ∃ m', m_firthref07_Disk_Cut m n k = some (m', (dCut d n k).2) ∧ Rel R (N + 1) (dCut d n k).1 m' := by
  have hs := h.sz
  have hl := h.ll
  unfold m_firthref07_Disk_Cut
  rw [do_names h hR hN]
  unfold dCut
  have h3 : ((2 : Int) == 3) = false := by decide
  have h1 : ((2 : Int) == 1) = false := by decide
  have h2 : ((2 : Int) == 2) = true := by decide
  simp only [h3, h1, h2, Bool.false_and, Bool.or_false]
  cases ht : dThere d n != 0 with
  | true =>
    rcases there_n ht with ⟨q1, q2⟩ | ⟨q1, q3, q2⟩
    · rw [q1, q2]; exact ⟨m, rfl, h.mono (Nat.le_succ _)⟩
    · rw [q1, q2, q3]; exact ⟨m, rfl, h.mono (Nat.le_succ _)⟩
  | false =>
    obtain ⟨q1, q2⟩ := there_0 ht
    rw [q1, q2]
    cases hc : decide (k < 0) || decide (((((mget n d.seen).getD []).length : Nat) : Int) < k) with
    | true => exact ⟨m, rfl, h.mono (Nat.le_succ _)⟩
    | false =>
      simp only [Bool.or_eq_false_iff, decide_eq_false_iff_not] at hc
      simp only [cond_false, cond_true, Bool.not_true]
      rw [j1_ok (by simp) (by rw [← h.good.len]; omega)]
      exact ⟨_, rfl, h.done (c := ⟨.disk_Disk_Cut_1 n k, ByteArray.empty, []⟩) (Nat.le_trans (sz_cut (n := n) (k := k)) hs) ⟨q2, by omega, by omega⟩ ⟨rfl, rfl, rfl⟩ rfl⟩
theorem e_Ren (h : Rel R N d m) (hR : R ≤ MX) (hN : N + 1 ≤ lim) (a b : ByteArray) : m_disk_Disk_Rename d a b = some (dRen d a b) := by
  have hs := h.sz
  unfold m_disk_Disk_Rename dRen
  rw [e_right, Option.bind_some]
  simp only [List.all_cons, List.all_nil, Bool.and_true]
  cases okn a && okn b with
  | false => rfl
  | true =>
    rw [show (!true) = false from rfl, bif_f rfl, bif_f rfl, e_There, Option.bind_some]
    cases ht : dThere d a != 0 with
    | true => rw [bif_t rfl, bif_t rfl, chk_t (there_r a)]
    | false => rw [bif_f rfl, bif_f rfl, e_done h (MX_lim hR) hN (c := ⟨.disk_Disk_Rename_1 a b, ByteArray.empty, []⟩) (Nat.le_trans (sz_ren (a := a) (b := b)) hs) (there_0 ht).2]; rfl
theorem r_Ren (h : Rel R N d m) (hR : R ≤ MX) (hN : N + 1 ≤ lim) (a b : ByteArray) : ∃ m', m_firthref07_Disk_Rename m a b = some (m', (dRen d a b).2) ∧ Rel R (N + 1) (dRen d a b).1 m' := by
  have hs := h.sz
  have hl := h.ll
  unfold m_firthref07_Disk_Rename
  rw [do_names h hR hN]
  unfold dRen
  have h3 : ((3 : Int) == 3) = true := by decide
  have h1 : ((3 : Int) == 1) = false := by decide
  have h2 : ((3 : Int) == 2) = false := by decide
  simp only [h3, h1, h2, Bool.true_and]
  rw [show (!okn a || !okn b) = !(okn a && okn b) from by cases okn a <;> cases okn b <;> rfl]
  cases hab : okn a && okn b with
  | false => exact ⟨m, rfl, h.mono (Nat.le_succ _)⟩
  | true =>
    have ha := (Bool.and_eq_true_iff.1 hab).1
    cases ht : dThere d a != 0 with
    | true =>
      rcases there_n ht with ⟨q1, q2⟩ | ⟨q1, q3, q2⟩
      · rw [ha] at q1; cases q1
      · rw [q2, q3]; exact ⟨m, rfl, h.mono (Nat.le_succ _)⟩
    | false =>
      obtain ⟨q1, q2⟩ := there_0 ht
      rw [q2]
      simp only [cond_false, cond_true, Bool.not_true]
      rw [j1_ok (by simp) (by rw [← h.good.len]; omega)]
      exact ⟨_, rfl, h.done (c := ⟨.disk_Disk_Rename_1 a b, ByteArray.empty, []⟩) (Nat.le_trans (sz_ren (a := a) (b := b)) hs) q2 ⟨rfl, rfl, rfl⟩ rfl⟩
theorem e_Rem (h : Rel R N d m) (hR : R ≤ MX) (hN : N + 1 ≤ lim) (n : ByteArray) : m_disk_Disk_Remove d n = some (dRem d n) := by
  have hs := h.sz
  unfold m_disk_Disk_Remove dRem
  rw [e_There, Option.bind_some]
  cases ht : dThere d n != 0 with
  | true => rw [bif_t rfl, bif_t rfl, chk_t (there_r n)]
  | false => rw [bif_f rfl, bif_f rfl, e_done h (MX_lim hR) hN (c := ⟨.disk_Disk_Remove_1 n, ByteArray.empty, []⟩) (Nat.le_trans (sz_rem (a := n)) hs) (there_0 ht).2]; rfl
theorem r_Rem (h : Rel R N d m) (hR : R ≤ MX) (hN : N + 1 ≤ lim) (n : ByteArray) : ∃ m', m_firthref07_Disk_Remove m n = some (m', (dRem d n).2) ∧ Rel R (N + 1) (dRem d n).1 m' := by
  have hs := h.sz
  have hl := h.ll
  unfold m_firthref07_Disk_Remove
  rw [do_names h hR hN]
  unfold dRem
  have h3 : ((4 : Int) == 3) = false := by decide
  have h1 : ((4 : Int) == 1) = false := by decide
  have h2 : ((4 : Int) == 2) = false := by decide
  simp only [h3, h1, h2, Bool.false_and, Bool.or_false]
  cases ht : dThere d n != 0 with
  | true =>
    rcases there_n ht with ⟨q1, q2⟩ | ⟨q1, q3, q2⟩
    · rw [q1, q2]; exact ⟨m, rfl, h.mono (Nat.le_succ _)⟩
    · rw [q1, q2, q3]; exact ⟨m, rfl, h.mono (Nat.le_succ _)⟩
  | false =>
    obtain ⟨q1, q2⟩ := there_0 ht
    rw [q1, q2]
    simp only [cond_false, cond_true, Bool.not_true]
    rw [j1_ok (by simp) (by rw [← h.good.len]; omega)]
    exact ⟨_, rfl, h.done (c := ⟨.disk_Disk_Remove_1 n, ByteArray.empty, []⟩) (Nat.le_trans (sz_rem (a := n)) hs) q2 ⟨rfl, rfl⟩ rfl⟩
end
end Fw
end Go.Proofs.Ytichdipjedoijaa
