/- DiskKeeps. No condition. -/
import Derived.Test.YtichdipjedoijaaP10
namespace Go.Proofs.Ytichdipjedoijaa
namespace Fw
set_option linter.unusedVariables false
set_option linter.unusedSimpArgs false
set_option linter.unusedSectionVars false

theorem dApp_ok {d : Dk} {n : ByteArray} {b : List UInt8} (hn : okn n = true) (h : (b.length : Int) ≤ d.room - (sz d.seen : Int)) : dApp d n b = (dDone d ⟨.disk_add_1 n b, n, b⟩, 0) := by
  unfold dApp
  rw [hn, show (!true) = false from rfl, bif_f rfl, bif_f (by simpa using h)]
theorem dApp_full {d : Dk} {n : ByteArray} {b : List UInt8} (hn : okn n = true) (h : d.room - (sz d.seen : Int) < (b.length : Int)) : dApp d n b = (d, 72) := by
  unfold dApp
  rw [hn, show (!true) = false from rfl, bif_f rfl, bif_t (by simpa using h)]
theorem p_firthlaw07_DiskKeeps {Γ : Gh} {A : Option Addr} {c : Nat} {x : List UInt8} (hs : Sl byteT Γ A x) (hc : x.length ≤ c) {A2 : Option Addr} {c2 : Nat} {more : List UInt8} (hs2 : Sl byteT Γ A2 more) (hc2 : more.length ≤ c2) (hb : bkL bkOne x ≤ 1048576) (hb2 : bkL bkOne more ≤ 1048576) : m_firthlaw07_DiskKeeps x more = some true := by
  have hx : x.length ≤ 1048576 := Nat.le_trans (bkL_len (fun _ => Nat.le_refl 1) x) hb
  have hm : more.length ≤ 1048576 := Nat.le_trans (bkL_len (fun _ => Nat.le_refl 1) more) hb2
  have hR := rm_le 2097152
  have hl := lim_v
  unfold m_firthlaw07_DiskKeeps
  rw [e_awake, Option.bind_some]
  cases hcnd : (!true) || decide (1048576 < w64 (((x.length : Nat) : Int) + ((more.length : Nat) : Int))) with
  | true => rfl
  | false =>
    rw [bif_f rfl, e_New, Option.bind_some, chk_t (by simp; omega)]
    have hr : rm 2097152 = 2097152 := by decide
    have ha : okn ⟨#[97]⟩ = true := by decide
    have h0 := rel0 2097152
    have e1 : dApp (d0 2097152) ⟨#[97]⟩ x = (dDone (d0 2097152) ⟨.disk_add_1 ⟨#[97]⟩ x, ⟨#[97]⟩, x⟩, 0) := dApp_ok ha (by show (x.length : Int) ≤ (rm 2097152 : Int) - (sz [] : Int); rw [hr]; simp [sz]; omega)
    obtain ⟨m1, _, h1⟩ := r_App h0 hR (by omega) ⟨#[97]⟩ x
    rw [e_App h0 hR (by omega), Option.bind_some]
    rw [e1] at h1 ⊢
    simp only at h1 ⊢
    generalize hd1 : dDone (d0 2097152) ⟨.disk_add_1 ⟨#[97]⟩ x, ⟨#[97]⟩, x⟩ = d1 at h1
    have hs1 : d1.seen = [(⟨#[97]⟩, x)] := by rw [← hd1]; rfl
    have hs3 : d1.loose = [⟨.disk_add_1 ⟨#[97]⟩ x, ⟨#[97]⟩, x⟩] := by rw [← hd1]; rfl
    have hs4 : d1.safe_ = [] := by rw [← hd1]; rfl
    have hs5 : d1.room = 2097152 := by rw [← hd1]; rfl
    refine forI_run (fun _ _ => True) (fun s _ => ?_) (fun f i s hi _ hf => hf _ trivial) trivial
    rw [e_Read h1 hR, Option.bind_some]
    refine forU_run (fun _ _ => True) (fun s _ => ?_) (fun f i s hi _ hf => hf _ trivial) trivial
    have e2 : dApp d1 ⟨#[97]⟩ more = (dDone d1 ⟨.disk_add_1 ⟨#[97]⟩ more, ⟨#[97]⟩, more⟩, 0) := dApp_ok ha (by rw [hs5, hs1]; simp [sz]; omega)
    obtain ⟨m2, _, h2⟩ := r_App h1 hR (by omega) ⟨#[97]⟩ more
    rw [e_App h1 hR (by omega), Option.bind_some]
    rw [e2] at h2 ⊢
    simp only at h2 ⊢
    generalize hd2 : dDone d1 ⟨.disk_add_1 ⟨#[97]⟩ more, ⟨#[97]⟩, more⟩ = d2 at h2
    have hl2 : d2.loose = [⟨.disk_add_1 ⟨#[97]⟩ x, ⟨#[97]⟩, x⟩, ⟨.disk_add_1 ⟨#[97]⟩ more, ⟨#[97]⟩, more⟩] := by rw [← hd2]; show d1.loose ++ _ = _; rw [hs3]; rfl
    have hf2 : d2.safe_ = [] := by rw [← hd2]; exact hs4
    obtain ⟨m3, _, h3⟩ := r_Crash h2 hR (by omega) 1 ((more.length : Nat) : Int)
    rw [e_Crash h2 hR (by omega), Option.bind_some, e_Read h3 hR, Option.bind_some]
    have hk : cK d2 1 = 1 := by unfold cK; rw [hl2]; rfl
    have hseen : (mget ⟨#[97]⟩ (dCrash d2 1 ((more.length : Nat) : Int)).seen).getD [] = x ++ more := by
      show (mget ⟨#[97]⟩ (crashM d2 1 _)).getD [] = _
      unfold crashM cT
      rw [hk, hl2, hf2]
      cases more with
      | nil => simp [run, ap, mget, mput]
      | cons y l =>
        rw [bif_t (by simp [gt])]
        simp [gt, run, ap, mget, mput]
    simp only [hseen]
    have : ((⟨(x ++ more).toArray⟩ : ByteArray) == ((⟨x.toArray⟩ : ByteArray) ++ (⟨more.toArray⟩ : ByteArray))) = true := by
      rw [beq_iff_eq]
      apply ba_inj
      rw [ByteArray.data_append]
      simp
    rw [this]; rfl
end Fw
end Go.Proofs.Ytichdipjedoijaa
