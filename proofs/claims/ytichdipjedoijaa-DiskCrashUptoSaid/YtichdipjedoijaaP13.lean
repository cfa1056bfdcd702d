/- DiskNames. No condition. -/
import Derived.Test.YtichdipjedoijaaP12
namespace Go.Proofs.Ytichdipjedoijaa
namespace Fw
set_option linter.unusedVariables false
set_option linter.unusedSimpArgs false
set_option linter.unusedSectionVars false

theorem dApp_room (d : Dk) (n : ByteArray) (b : List UInt8) : (dApp d n b).1.room = d.room := by
  unfold dApp
  cases okn n <;> cases decide (d.room - (sz d.seen : Int) < (b.length : Int)) <;> rfl
theorem p_firthlaw07_DiskNames {Γ : Gh} (a : ByteArray) (ha : a.size ≤ lim) (b : ByteArray) (hb : b.size ≤ lim) {A : Option Addr} {c : Nat} {x : List UInt8} (hs : Sl byteT Γ A x) (hc : x.length ≤ c) (hbx : bkL bkOne x ≤ 1048576) : m_firthlaw07_DiskNames a b x = some true := by
  have hx : x.length ≤ 1048576 := Nat.le_trans (bkL_len (fun _ => Nat.le_refl 1) x) hbx
  have hR := rm_le 1048576
  have hl := lim_v
  have hr : rm 1048576 = 1048576 := by decide
  unfold m_firthlaw07_DiskNames
  rw [e_awake, Option.bind_some]
  cases hcnd : (((((!true) || (a == b)) || (decide (((a.size : Nat) : Int) < 1))) || (decide (16 < ((a.size : Nat) : Int)))) || (decide (((b.size : Nat) : Int) < 1))) || (decide (16 < ((b.size : Nat) : Int))) with
  | true => rfl
  | false =>
    simp only [Bool.or_eq_false_iff, decide_eq_false_iff_not, beq_eq_false_iff_ne] at hcnd
    obtain ⟨⟨⟨⟨⟨_, hab⟩, ha1⟩, ha2⟩, hb1⟩, hb2⟩ := hcnd
    have oa : okn a = true := by unfold okn; simp; omega
    have ob : okn b = true := by unfold okn; simp; omega
    have hasz : a.data.toList.length = a.size := rfl
    rw [bif_f rfl, e_New, Option.bind_some]
    have h0 := rel0 1048576
    have e1 : dApp (d0 1048576) a x = (dDone (d0 1048576) ⟨.disk_add_1 a x, a, x⟩, 0) := dApp_ok oa (by show (x.length : Int) ≤ (rm 1048576 : Int) - (sz [] : Int); rw [hr]; simp [sz]; omega)
    obtain ⟨m1, _, h1⟩ := r_App h0 hR (by omega) a x
    rw [e_App h0 hR (by omega), Option.bind_some]
    rw [e1] at h1 ⊢
    simp only at h1 ⊢
    generalize hd1 : dDone (d0 1048576) ⟨.disk_add_1 a x, a, x⟩ = d1 at h1
    have hs1 : d1.seen = [(a, x)] := by rw [← hd1]; rfl
    have hs3 : d1.loose = [⟨.disk_add_1 a x, a, x⟩] := by rw [← hd1]; rfl
    have hs5 : d1.room = 1048576 := by rw [← hd1]; rfl
    have hsz1 : sz d1.seen = x.length := by rw [hs1]; simp [sz]
    rw [e_App h1 hR (by omega), Option.bind_some]
    by_cases hfit : (a.data.toList.length : Int) ≤ d1.room - (sz d1.seen : Int)
    · obtain ⟨m2, _, h2⟩ := r_App h1 hR (by omega) b a.data.toList
      rw [dApp_ok ob hfit] at h2 ⊢
      simp only at h2 ⊢
      generalize hd2 : dDone d1 ⟨.disk_add_1 b a.data.toList, b, a.data.toList⟩ = d2 at h2
      have hba : ¬ b = a := fun e => hab e.symm
      have hs2 : d2.seen = [(a, x), (b, a.data.toList)] := by
        rw [← hd2]; show ap (.disk_add_1 b a.data.toList) d1.seen = _; rw [hs1]; simp [ap, mget, mput, hba]
      have hl2 : d2.loose.length = 2 := by rw [← hd2]; show (d1.loose ++ _).length = _; rw [hs3]; rfl
      rw [bif_f (by decide)]
      have t2 : dThere d2 a = 0 := by unfold dThere; rw [oa, hs2]; simp [mget]
      have e3 : dRen d2 a b = (dDone d2 ⟨.disk_Disk_Rename_1 a b, ByteArray.empty, []⟩, 0) := by unfold dRen; rw [oa, ob, t2]; rfl
      obtain ⟨m3, _, h3⟩ := r_Ren h2 hR (by omega) a b
      rw [e_Ren h2 hR (by omega), Option.bind_some]
      rw [e3] at h3 ⊢
      simp only at h3 ⊢
      generalize hd3 : dDone d2 ⟨.disk_Disk_Rename_1 a b, ByteArray.empty, []⟩ = d3 at h3
      have hs3 : d3.seen = [(b, x)] := by
        rw [← hd3]; show ap (.disk_Disk_Rename_1 a b) d2.seen = _; rw [hs2]; simp [ap, mget, mput, mdel]
      have hl3 : d3.loose.length = 3 := by rw [← hd3]; show (d2.loose ++ _).length = _; rw [List.length_append, hl2]; rfl
      have t3 : dThere d3 b = 0 := by unfold dThere; rw [ob, hs3]; simp [mget]
      have e4 : dRen d3 b b = (dDone d3 ⟨.disk_Disk_Rename_1 b b, ByteArray.empty, []⟩, 0) := by unfold dRen; rw [ob, t3]; rfl
      obtain ⟨m4, _, h4⟩ := r_Ren h3 hR (by omega) b b
      rw [e_Names h3 (by omega), Option.bind_some, e_Read h3 hR, Option.bind_some, e_Read h3 hR, Option.bind_some, e_Ren h3 hR (by omega), Option.bind_some]
      rw [e4] at h4 ⊢
      simp only at h4 ⊢
      generalize hd4 : dDone d3 ⟨.disk_Disk_Rename_1 b b, ByteArray.empty, []⟩ = d4 at h4
      have hs4 : d4.seen = [(b, x)] := by
        rw [← hd4]; show ap (.disk_Disk_Rename_1 b b) d3.seen = _; rw [hs3]; simp [ap, mget, mput, mdel]
      have hl4 : d4.loose.length = 4 := by rw [← hd4]; show (d3.loose ++ _).length = _; rw [List.length_append, hl3]; rfl
      have hk : skeys d3.seen = [b] := by
        rw [hs3]
        have h1 : (skeys [(b, x)]).length = 1 := by rw [skeys_len]; rfl
        have h2 : ∀ k ∈ skeys [(b, x)], k = b := fun k hk => by have := mem_skeys.1 hk; simpa using this
        match hq : skeys [(b, x)], h1 with
        | [y], _ => rw [hq] at h2; rw [h2 y List.mem_cons_self]
      rw [e_Read h4 hR, Option.bind_some, hk]
      have t4 : dThere d4 a = 71 := by unfold dThere; rw [oa, hs4]; simp [mget, hab]
      have e5 : dRem d4 a = (d4, 71) := by unfold dRem; rw [t4]; rfl
      have g1 : (mget b d3.seen).getD [] = x := by rw [hs3]; simp [mget]
      have g2 : (mget b d3.seen).isSome = true := by rw [hs3]; simp [mget]
      have g3 : (mget a d3.seen).isSome = false := by rw [hs3]; simp [mget, hab]
      have g4 : (mget b d4.seen).getD [] = x := by rw [hs4]; simp [mget]
      simp only [g1, g2, g3, g4]
      have hbx : (gt [b] 0 == b) = true := by rw [beq_iff_eq]; rfl
      have hxx : ((⟨x.toArray⟩ : ByteArray) == (⟨x.toArray⟩ : ByteArray)) = true := by rw [beq_iff_eq]
      rw [hbx, hxx, chk_t (by rfl), bif_t (by rfl), e_Rem h4 hR (by omega), e5, Option.bind_some]
      have hsz4 : sz d4.seen = x.length := by rw [hs4]; simp [sz]
      have hL : m_disk_Disk_Loose d4 = some 4 := by unfold m_disk_Disk_Loose; rw [hl4]; rfl
      simp only
      rw [hL, gcall_s, Option.bind_some, e_used (by omega), gcall_s, Option.bind_some, hsz4]
      simp
    · rw [dApp_full ob (by omega)]
      simp only
      rw [bif_t (by decide), w64_i (by unfold I64; omega)]
      have : decide (1048576 - ((x.length : Nat) : Int) < ((a.data.toList.length : Nat) : Int)) = true := by rw [decide_eq_true_eq]; omega
      rw [this]; simp
end Fw
end Go.Proofs.Ytichdipjedoijaa
