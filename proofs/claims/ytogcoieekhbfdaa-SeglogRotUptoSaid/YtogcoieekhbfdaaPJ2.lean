/- The plain side: what the models come to. No condition. -/
import Derived.Test.YtogcoieekhbfdaaPJ1
namespace Go.Proofs.Ytogcoieekhbfdaa
namespace Fw
set_option linter.unusedVariables false
set_option linter.unusedSimpArgs false
set_option linter.unusedSectionVars false

/-- what the law does with a disk -/
def rotE (list : List (List UInt8)) (which : Int) (at_ : Int) (d : Dk) (n : Int) : Option Bool :=
  Option.bind (m_disk_Disk_Names d) fun z160 => (bif ((decide (which < 0)) || (decide (((z160.length : Nat) : Int) ≤ which))) then
    (some true)
  else
    (chk (inb which z160.length) (Option.bind (m_disk_Disk_Read d (gt z160 which.toNat)) fun z176 => (bif ((decide (at_ < 0)) || (decide (((z176.1.length : Nat) : Int) ≤ at_))) then
      (some true)
    else
      (Option.bind (m_firthlaw09_measure z176.1 at_) fun z191 => (bif z191 then
        (some true)
      else
        (chk (inb at_ z176.1.length) (chk (u8b (ixor .u8 (((gt z176.1 at_.toNat).toNat : Nat) : Int) 1)) (Option.bind (m_disk_Disk_Cut d (gt z160 which.toNat) at_) fun z198 => (chk (inle at_ ((List.set z176.1 at_.toNat (b8 (ixor .u8 (((gt z176.1 at_.toNat).toNat : Nat) : Int) 1))).length)) (Option.bind (m_disk_Disk_Append z198.1 (gt z160 which.toNat) (List.drop at_.toNat (List.set z176.1 at_.toNat (b8 (ixor .u8 (((gt z176.1 at_.toNat).toNat : Nat) : Int) 1))))) fun z214 => (bif (z214.2 != 0) then
          (some true)
        else
          (Option.bind (m_seglog_Open z214.1 (⟨#[99]⟩ : ByteArray) 24) fun z224 => (chk (imp (z224.2.2.2 == 0) (inle n list.length)) (Option.bind (gcall (z224.2.2.2 == 0) (m_firthlaw09_begins z224.2.2.1 (List.take n.toNat list))) fun z246 => (some ((z224.2.2.2 == 0) && z246)))))))))))))))))
theorem scan_mid {A : List Bs} (hA : ∀ l ∈ A, Rk l) {b : List UInt8} {C : Bs} (hb : (allB b).2.1 ≠ b.length) : (scanF (A.map frs ++ b :: C)).1 = A.flatten ++ (allB b).1 := by
  rw [scan_whole (b :: C) hA]
  unfold scanF
  rw [if_neg hb]
theorem rot_end {R : Nat} (hR : R ≤ MX) {nm : ByteArray} (hnm : nm = ⟨#[99]⟩) {size : Int} {list : Bs} {n : Nat} {d : Dk} (h : CrI R nm size list n 0 d) (hN : 4 * (n + 2) + 10 ≤ lim) (which at_ : Int) : rotE list which at_ d (n : Int) = some true := by
  have hNm : Nm nm := by rw [hnm]; exact nm1 (by decide)
  have l := lim_eq
  have ho := h.seen
  have hdi := h.di
  have hnl := h.nl
  have hz := hdi.sz
  have hRv : R ≤ 1073741824 := hR
  unfold rotE
  rw [e_Names hdi (by omega), Option.bind_some]
  by_cases hw : which < 0 ∨ ((skeys d.seen).length : Int) ≤ which
  · rw [bif_t (by simpa using hw)]
  · rw [bif_f (by rw [Bool.eq_false_iff]; intro hc; apply hw; simpa using hc), chk_t (by unfold inb; simp; omega)]
    generalize hF : gt (skeys d.seen) which.toNat = f
    have hfm : f ∈ skeys d.seen := by
      rw [← hF, gt_eq (by omega)]; exact List.getElem_mem _
    have hfi : (mget f d.seen).isSome = true := mget_isSome.2 (mem_skeys.1 hfm)
    obtain ⟨k, k1, k2, hfe⟩ := ho.2 f hfi
    have hget := ho.1.2 k k1 k2
    have hkl : k - 1 < (lo size (list.take n)).length := by
      rcases Nat.lt_or_ge (k - 1) (lo size (list.take n)).length with hlt | hge
      · exact hlt
      · rw [List.getElem?_eq_none (by unfold bsOf; rw [List.length_map]; exact hge)] at hget
        rw [hfe, hget] at hfi; cases hfi
    -- the parts ahead, this one, those behind
    obtain ⟨A, rs, C, hsplit, hA⟩ : ∃ A rs C, lo size (list.take n) = A ++ rs :: C ∧ A.length = k - 1 :=
      ⟨(lo size (list.take n)).take (k - 1), (lo size (list.take n))[k - 1], (lo size (list.take n)).drop k, by
        have := List.drop_eq_getElem_cons hkl
        rw [show k - 1 + 1 = k by omega] at this
        rw [← this, List.take_append_drop], by rw [List.length_take]; omega⟩
    have hrk := rk_lo (size := size) h.rk
    rw [hsplit] at hrk
    have hrkA : ∀ q ∈ A, Rk q := fun q hq => hrk q (by simp [hq])
    have hrks : Rk rs := hrk rs (by simp)
    have hbs : bsOf size (list.take n) = A.map frs ++ frs rs :: C.map frs := by unfold bsOf; rw [hsplit]; simp
    have hfile : mget f d.seen = some (frs rs) := by
      rw [hfe, hget, hbs, List.getElem?_append_right (by rw [List.length_map]; omega), List.length_map, hA, Nat.sub_self]; rfl
    have hok : okn f = true := by rw [hfe]; exact okn_fn hNm (Nat.zero_le _) k2
    have hbl : (frs rs).length ≤ lim := by
      have := fb_len hdi hR f
      unfold fb at this
      rwa [hfile] at this
    rw [e_Rd hdi hR, hfile, Option.bind_some]
    simp only [Option.getD_some]
    by_cases hat : at_ < 0 ∨ ((frs rs).length : Int) ≤ at_
    · rw [bif_t (by simpa using hat)]
    · rw [bif_f (by rw [Bool.eq_false_iff]; intro hc; apply hat; simpa using hc)]
      obtain ⟨a, rfl⟩ : ∃ a : Nat, at_ = (a : Int) := ⟨at_.toNat, by omega⟩
      have hal : a < (frs rs).length := by omega
      obtain ⟨v, hv, hvf⟩ := e_measure hrks hbl hal
      rw [hv, Option.bind_some]
      cases v with
      | true => rfl
      | false =>
        obtain ⟨pre, x, post, j, e1, e2, e3, e4⟩ := hvf rfl
        obtain ⟨f1, f2⟩ := flip_ok (gt (frs rs) a)
        rw [bif_f rfl, chk_t (by unfold inb; simp; omega), Int.toNat_natCast, chk_t f1]
        generalize hc' : b8 (ixor .u8 (((gt (frs rs) a).toNat : Nat) : Int) 1) = c at f2 ⊢
        obtain ⟨c1, c2⟩ := e_Cut1 hdi hR (by omega) f (a : Int)
        rw [c1, Option.bind_some, chk_t (by unfold inle; simp; omega)]
        have hcut : dCut d f (a : Int) = (dDone d ⟨.disk_Disk_Cut_1 f (a : Int), ByteArray.empty, []⟩, 0) := by
          unfold dCut
          rw [there_t hok hfi, bif_f (by decide), bif_f (by rw [hfile]; simp; omega)]
        rw [hcut] at c2 ⊢
        simp only at c2 ⊢
        generalize hD1 : dDone d ⟨.disk_Disk_Cut_1 f (a : Int), ByteArray.empty, []⟩ = d1 at c2 ⊢
        have hs1 : d1.seen = mput f ((frs rs).take a) d.seen := by
          rw [← hD1]; show mput f (((mget f d.seen).getD []).take (a : Int).toNat) d.seen = _
          rw [hfile, Int.toNat_natCast]; rfl
        obtain ⟨a1, a2⟩ := e_App c2 hR (by omega) f (List.drop a ((frs rs).set a c))
        rw [a1, Option.bind_some]
        unfold dApp at a2 ⊢
        rw [hok] at a2 ⊢
        rw [show (!true) = false from rfl, bif_f rfl] at a2 ⊢
        cases hroom : decide (d1.room - (Fw.sz d1.seen : Int) < ((List.drop a ((frs rs).set a c)).length : Int)) with
        | true => rw [bif_t rfl, bif_t (by simp)]
        | false =>
          rw [hroom, bif_f rfl] at a2
          rw [bif_f rfl]
          simp only at a2 ⊢
          rw [bif_f (by decide)]
          generalize hD2 : dDone d1 ⟨.disk_add_1 f (List.drop a ((frs rs).set a c)), f, List.drop a ((frs rs).set a c)⟩ = d2 at a2 ⊢
          have hs2 : d2.seen = mput f ((frs rs).set a c) d1.seen := by
            rw [← hD2]; show mput f ((mget f d1.seen).getD [] ++ List.drop a ((frs rs).set a c)) d1.seen = _
            have ht : (frs rs).take a = ((frs rs).set a c).take a := by rw [List.take_set_of_le (Nat.le_refl _)]
            rw [hs1, mget_mput, if_pos rfl, Option.getD_some, ht, List.take_append_drop]
          have ho2 : Only nm 0 (A.map frs ++ (frs rs).set a c :: C.map frs) d2.seen := by
            refine ⟨⟨?_, fun i i1 i2 => ?_⟩, fun q hq => ?_⟩
            · have := ho.1.1; rw [hbs] at this; simpa using this
            · rw [hs2, mget_mput, hs1, mget_mput]
              by_cases hi : i = k
              · rw [if_pos (by rw [hfe, hi]), hi, List.getElem?_append_right (by rw [List.length_map]; omega), List.length_map, hA, Nat.sub_self]; rfl
              · have hne : fn nm 0 i ≠ f := fun e => hi (by rw [hfe] at e; exact (fn_inj hNm hNm e).2.2)
                rw [if_neg hne, if_neg hne, ho.1.2 i i1 i2, hbs]
                rcases Nat.lt_or_ge (i - 1) (A.map frs).length with h5 | h5
                · rw [List.getElem?_append_left h5, List.getElem?_append_left h5]
                · rw [List.getElem?_append_right h5, List.getElem?_append_right h5]
                  rw [List.length_map] at h5 ⊢
                  obtain ⟨t, ht⟩ : ∃ t, i - 1 - A.length = t + 1 := ⟨i - 1 - A.length - 1, by omega⟩
                  rw [ht, List.getElem?_cons_succ, List.getElem?_cons_succ]
            · rw [hs2, mget_mput, hs1, mget_mput] at hq
              by_cases hqf : q = f
              · exact ⟨k, k1, k2, by rw [hqf, hfe]⟩
              · rw [if_neg hqf, if_neg hqf] at hq; exact ho.2 q hq
          obtain ⟨d', o1, o2, o3, o4, o5⟩ := open_only a2 hR (by omega) hNm 24 ho2
          rw [← hnm, o1, Option.bind_some]
          simp only
          have hx : x.length ≤ 1048576 := hrks x (by rw [e1]; simp)
          have hpre : Rk pre := fun q hq => hrks q (by rw [e1]; simp [hq])
          have hcne : c ≠ gt (fr x) j := by
            intro e; apply f2; rw [e, e2, e1, frs_app, frs_cons, gt_append_right (by omega), Nat.add_sub_cancel_left, gt_append_left e4]
          obtain ⟨r1, r2⟩ := rot_all (post := post) hpre hx e3 e4 hcne
          rw [← e1, ← e2] at r1 r2
          have hout : (scanF (A.map frs ++ (frs rs).set a c :: C.map frs)).1 = A.flatten ++ pre := by
            rw [scan_mid hrkA (by rw [r2, List.length_set]; omega), r1]
          have hflat := lo_flat size (list.take n)
          rw [hsplit, List.flatten_append, List.flatten_cons, e1] at hflat
          rw [hout, chk_t (by simp [imp, inle]; omega), Int.toNat_natCast, e_begins (a := A.flatten ++ pre) (b := list.take n) ⟨x :: post ++ C.flatten, by rw [← hflat]; simp⟩]
          rfl
theorem rot_loop {R : Nat} (hR : R ≤ MX) {nm : ByteArray} (hnm : nm = ⟨#[99]⟩) {size : Int} (hs0 : 0 ≤ size) (hs1 : size ≤ 9223372036854775807) {list : Bs} (hll : list.length ≤ lim) (which at_ : Int) : ∀ (m n F : Nat) (d : Dk), list.length - n = m → CrI R nm size list n 0 d →
    loopN (m_firthlaw09_SeglogRot_b1 list which at_) (F + m + 1) ((n : Int), d, lg nm 0 size (bsOf size (list.take n)) n) = some true := by
  have hN : Nm nm := by rw [hnm]; exact nm1 (by decide)
  have l := lim_eq
  intro m
  induction m with
  | zero =>
    intro n F d hm h
    have hnl := h.nl
    have h5 := h.n5
    have hz := h.di.sz
    have hRv : R ≤ 1073741824 := hR
    have he := rot_end hR hnm h (by omega) which at_
    rw [loopN_s]
    generalize loopN (m_firthlaw09_SeglogRot_b1 list which at_) (F + 0) = f
    unfold m_firthlaw09_SeglogRot_b1
    simp only
    have hc : decide ((n : Int) < ((list.length : Nat) : Int)) = false := by rw [decide_eq_false_iff_not]; omega
    rw [hc, show imp false (inb (n : Int) list.length) = true from rfl, chk_t rfl, bif_f rfl]
    exact he
  | succ m ih =>
    intro n F d hm h
    have hnl : n < list.length := by omega
    have h5 := h.n5
    have hz := h.di.sz
    have hRv : R ≤ 1073741824 := hR
    have he := rot_end hR hnm h (by omega) which at_
    rw [show F + (m + 1) + 1 = (F + m + 1) + 1 by omega, loopN_s]
    generalize hf : loopN (m_firthlaw09_SeglogRot_b1 list which at_) (F + m + 1) = f
    unfold m_firthlaw09_SeglogRot_b1
    simp only
    have hc : decide ((n : Int) < ((list.length : Nat) : Int)) = true := by rw [decide_eq_true_eq]; omega
    have hi : inb (n : Int) list.length = true := by unfold inb; simp; omega
    rw [hc, hi, show imp true true = true from rfl, chk_t rfl, bif_t rfl, chk_t rfl, Int.toNat_natCast]
    obtain ⟨r, a1, a2, a3⟩ := e_LApp h.di hR (by omega) hN (g := 0) (by omega) (size := size) hs0 hs1 h.seen.1 (cnt := n) (by omega) (gt list n)
    rw [a1, Option.bind_some]
    have bad : ∀ c : Int, c ≠ 0 → r = (lg nm 0 size (bsOf size (list.take n)) n, d, c) → (r.2.2 == 0) = false ∧ r.2.1 = d := by
      rintro c hc rfl
      exact ⟨by simpa using hc, rfl⟩
    have gob : (r.2.2 == 0) = false ∧ r.2.1 = d ∨ ((gt list n).length ≤ 1048576 ∧ pnum size (bsOf size (list.take n)) (fr (gt list n)) ≤ 999999 ∧ r = (lg nm 0 size (addP size (bsOf size (list.take n)) (fr (gt list n))) (n + 1), dAdd d nm 0 size (bsOf size (list.take n)) (fr (gt list n)), 0)) := by
      cases a2 with
      | long _ => exact .inl (bad 3 (by decide) rfl)
      | many _ _ => exact .inl (bad 72 (by decide) rfl)
      | full _ _ _ => exact .inl (bad 72 (by decide) rfl)
      | ok q1 q2 q3 => exact .inr ⟨q1, q2, rfl⟩
    rcases gob with ⟨e1, e2⟩ | ⟨q1, q2, e⟩
    · rw [e1, bif_f rfl, e2]
      have he2 := he
      unfold rotE at he2
      rw [Int.toNat_natCast] at he2
      exact he2
    · subst e
      have hm2 := h.more hN hnl q1 q2 a3
      have w1 : w64 ((n : Int) + 1) = ((n + 1 : Nat) : Int) := by rw [w64_i (by unfold I64; omega)]; rfl
      rw [bif_t (by simp), w1, ← bsOf_take size hnl, ← hf]
      exact ih (n + 1) F _ (by clear w1; omega) hm2
theorem p_firthlaw09_SeglogRot {Γ : Gh} {Alist : Option Addr} {clist : Nat} {list : List (List UInt8)} (hlist : Sl (slT byteT) Γ Alist list) (hlistc : list.length ≤ clist) (which : Int) (hwhich : I64 which) (at_ : Int) (hat_ : I64 at_) (hb : bkL (bkL bkOne) list ≤ 1048576) : m_firthlaw09_SeglogRot list which at_ = some true := by
  have hz : Nm ⟨#[99]⟩ := nm1 (by decide)
  have l := lim_eq
  have hll := hlist.le
  unfold m_firthlaw09_SeglogRot
  rw [e_awake, Option.bind_some, show (!true) = false from rfl, bif_f rfl, e_New, Option.bind_some, open_new hz, Option.bind_some]
  simp only [Option.isNone_some]
  rw [bif_f (by decide), Option.bind_some]
  obtain ⟨F, hF⟩ : ∃ F, FU = F + list.length + 1 := ⟨FU - list.length - 1, by unfold FU; omega⟩
  rw [hF]
  have D0 := di0 65536
  refine rot_loop (rm_le 65536) rfl (by decide) (by decide) hll which at_ list.length 0 F (d0 65536) rfl ⟨Nat.le_refl _, Nat.zero_le _, (fun x hx => by cases hx), D0, rfl, fun j hj => ?_, (fun j hj => by omega), Nat.zero_le _⟩
  obtain rfl : j = 0 := by omega
  exact Only.nil
end Fw
end Go.Proofs.Ytogcoieekhbfdaa

namespace Go.Proofs.Ytogcoieekhbfdaa
namespace Fw
set_option linter.unusedVariables false
set_option linter.unusedSimpArgs false
set_option linter.unusedSectionVars false

def nA : ByteArray := ⟨#[97]⟩
def nB : ByteArray := ⟨#[97, 97]⟩
theorem hA : Nm nA := nm1 (by decide)
theorem hB : Nm nB := ⟨by show 1 ≤ 2; omega, by show 2 ≤ 2; omega, fun x hx => by
  have : x ∈ [97, 97] := hx
  rcases List.mem_cons.1 this with e | h
  · rw [e]; decide
  · rw [List.mem_singleton.1 h]; decide⟩
/-- where the two logs are -/
structure TwoI (R : Nat) (s : Int) (a b : Bs) (d : Dk) : Prop where
  ra : Rk a
  rb : Rk b
  di : DI R (a.length + b.length) d
  ha : Has nA 0 (bsOf s a) d.seen
  hb : Has nB 0 (bsOf s b) d.seen
  ks : ∀ k, (mget k d.seen).isSome = true → ∃ j, 1 ≤ j ∧ j ≤ 999999 ∧ (k = fn nA 0 j ∨ k = fn nB 0 j)
  n5 : 5 * (a.length + b.length) ≤ Fw.sz d.seen
section
variable {R : Nat} {s : Int} {a b : Bs} {d : Dk}
theorem TwoI.okn (h : TwoI R s a b d) : Ks d.seen := fun k hk => by
  obtain ⟨j, j1, j2, e | e⟩ := h.ks k hk
  · rw [e]; exact okn_fn hA (Nat.zero_le _) j2
  · rw [e]; exact okn_fn hB (Nat.zero_le _) j2
end
end Fw
end Go.Proofs.Ytogcoieekhbfdaa
