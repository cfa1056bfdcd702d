/- What is handed in stays; what is added behind changes nothing behind what was there. No condition. -/
import Derived.Test.YtldpanjodokefaaP8
namespace Go.Proofs.Ytldpanjodokefaa
namespace Fw
set_option linter.unusedVariables false
set_option linter.unusedSimpArgs false
set_option linter.unusedSectionVars false
open Go.RowKit
theorem bk_pos (a : Djudge_Act) : 1 + (a.reads.length + a.seen.length) ≤ Djudge_Act.bk a := by
  have h1 := bkL_len (m := Dot.bk) (fun x => by unfold Dot.bk; omega) a.reads
  have h2 := bkL_len (m := bkOne (α := Int)) (fun x => Nat.le_refl _) a.seen
  unfold Djudge_Act.bk; omega
theorem bk_dts : ∀ {l : Acts}, (dts l).length + l.length ≤ 2 * bkL Djudge_Act.bk l ∧ (dts l).length ≤ bkL Djudge_Act.bk l
  | [] => by simp [dts, bkL]
  | a :: l => by
    have h := bk_dts (l := l)
    have h1 := bk_pos a
    have h2 : (tells a).length ≤ Djudge_Act.bk a := by
      unfold tells
      cases a.read with
      | true => simp only [cond_true]; omega
      | false => cases decide (0 < a.dot.n) <;> simp <;> omega
    unfold dts bkL at *
    simp only [List.flatMap_cons, List.length_append, List.map_cons, List.sum_cons, List.length_cons]
    omega
theorem bk_mem {l : Acts} {a : Djudge_Act} (h : a ∈ l) : a.reads.length ≤ bkL Djudge_Act.bk l ∧ a.seen.length ≤ bkL Djudge_Act.bk l := by
  induction l with
  | nil => cases h
  | cons b l ih =>
    have h1 := bk_pos b
    unfold bkL at *
    simp only [List.map_cons, List.sum_cons]
    rcases List.mem_cons.1 h with e | e
    · subst e; omega
    · have := ih e; omega
theorem okj_of {l : Acts} (hn : l.length ≤ 62) (hb : bkL Djudge_Act.bk l ≤ 2097152) : okj l := by
  refine ⟨⟨⟨by rw [lim_eq]; omega, fun a ha => ?_⟩, hn, ?_⟩, fun a ha => ?_⟩
  · have := (bk_mem ha).1; rw [lim_eq]; omega
  · have := (bk_dts (l := l)).2; omega
  · have := (bk_mem ha).2; rw [lim_eq]; omega
theorem bkL_app {α : Type} {m : α → Nat} {a b : List α} : bkL m (a ++ b) = bkL m a + bkL m b := by unfold bkL; simp
theorem set_gt_self {α : Type} [Inhabited α] {xs : List α} {i : Nat} (h : i < xs.length) : List.set xs i (gt xs i) = xs := by
  rw [gt_eq h]; exact List.set_getElem_self h
/-! ### what is handed in stays -/
theorem keeps1 {l : Acts} (h : okj l) {K : List Dfirthref23_Act → Option Bool} : ∀ {n k : Nat}, k + n = l.length → forU m_firthlaw23_JudgeKeeps_b1 K n k (racts l) = K (racts l)
  | 0, _, _ => rfl
  | n + 1, k, hk => by
    show m_firthlaw23_JudgeKeeps_b1 (forU m_firthlaw23_JudgeKeeps_b1 K n (k + 1)) k (racts l) = _
    have ih := keeps1 h (K := K) (n := n) (k := k + 1) (by omega)
    generalize hG : forU m_firthlaw23_JudgeKeeps_b1 K n (k + 1) = G at ih
    have hkl : k < (racts l).length := by simp [racts]; omega
    have hs : List.set (racts l) k (gt (racts l) k) = racts l := set_gt_self hkl
    have hr : (gt (racts l) k).reads.length ≤ lim := by rw [gt_racts (by omega)]; exact h.ok.fine.at_ k
    have hv : (gt (racts l) k).seen.length ≤ lim := by rw [gt_racts (by omega)]; exact h.at_ k
    unfold m_firthlaw23_JudgeKeeps_b1
    have e1 : decide (0 + (gt (racts l) k).reads.length ≤ lim) = true := decide_eq_true (by omega)
    have e2 : decide (0 + (gt (racts l) k).seen.length ≤ lim) = true := decide_eq_true (by omega)
    have hc : ∀ a : Dfirthref23_Act, (⟨a.read, a.sess, a.key, (⟨a.dot.s, a.dot.n⟩ : Dot), a.oK, (([] : List Dot) ++ a.reads), a.seen⟩ : Dfirthref23_Act) = a := fun a => rfl
    have hc2 : ∀ a : Dfirthref23_Act, (⟨a.read, a.sess, a.key, (⟨a.dot.s, a.dot.n⟩ : Dot), a.oK, a.reads, (([] : List Int) ++ a.seen)⟩ : Dfirthref23_Act) = a := fun a => rfl
    simp only [hc, hc2, hs, e1, e2, chk, cond_true]
    exact ih
theorem keeps2 {K : List Dot → Option Bool} {r : Option Bool} (hK : ∀ x, K x = r) : ∀ {n k : Nat} {x : List Dot}, forU m_firthlaw23_JudgeKeeps_b2 K n k x = r
  | 0, _, x => hK x
  | n + 1, k, x => keeps2 hK (n := n)
theorem keeps3 {l : Acts} {K : Unit → Option Bool} : ∀ {L : Acts} {i : Nat}, L = l.drop i → i ≤ l.length → forI (m_firthlaw23_JudgeKeeps_b3 (racts l) (racts l)) K i (racts L) () = K ()
  | [], _, _, _ => rfl
  | a :: L, i, hL, hi => by
    have hil : i < l.length := by
      have := congrArg List.length hL
      rw [List.length_drop, List.length_cons] at this; omega
    rw [drop_gt hil] at hL
    obtain ⟨ha, hL⟩ := List.cons.inj hL
    have ih := keeps3 (l := l) (K := K) (L := L) (i := i + 1) hL hil
    rw [show racts (a :: L) = toR a :: racts L from rfl, forI_cons]
    generalize hG : forI (m_firthlaw23_JudgeKeeps_b3 (racts l) (racts l)) K (i + 1) (racts L) = G at ih
    unfold m_firthlaw23_JudgeKeeps_b3
    have e1 : decide (i < (racts l).length) = true := decide_eq_true (by simpa [racts] using hil)
    simp only [e1, chk, cond_true]
    rw [gt_racts hil, ← ha]
    have hk : ((toR a).key != (toR a).key) = false := by simp [bne, bytes_beq]
    simp only [hk, bne_self_eq_false, Bool.or_false, Bool.not_false, gcall, cond_true, e_Same, Option.bind_some, decide_true, Bool.not_true, cond_false]
    exact ih
theorem p_firthlaw23_JudgeKeeps {Γ : Gh} {Alist : Option Addr} {clist : Nat} {list : List Djudge_Act} (hlist : Sl djudge_ActT Γ Alist list) (hlistc : list.length ≤ clist) (d : Dot) (hd : Dot.fits Γ d) (hb : bkL Djudge_Act.bk list ≤ 1048576) (hb2 : Dot.bk d ≤ 1048576) : m_firthlaw23_JudgeKeeps list d = some true := by
  unfold m_firthlaw23_JudgeKeeps
  rw [e_awake]
  simp only [Option.bind_some, Bool.not_true, Bool.false_or]
  by_cases hn : 60 < list.length
  · have : decide (60 < ((list.length : Nat) : Int)) = true := decide_eq_true (by omega)
    rw [this]; rfl
  · have : decide (60 < ((list.length : Nat) : Int)) = false := decide_eq_false (by omega)
    rw [this]
    have h : okj list := okj_of (by omega) (by omega)
    simp only [cond_false]
    rw [e_acts h.ok.fine.1]
    simp only [Option.bind_some]
    rw [keeps1 h (by simp [racts]), e_Judge h]
    simp only [Option.bind_some]
    rw [e_Behind h.ok]
    simp only [Option.bind_some]
    refine keeps2 fun x => ?_
    rw [keeps3 (l := list) (by rw [List.drop_zero]) (Nat.zero_le _), e_rBehind h.ok]
    simp [e_Same]
/-! ### what is added behind -/
theorem gt_app_l {l m : Acts} {i : Nat} (h : i < l.length) : gt (l ++ m) i = gt l i := gt_append_left h
theorem fst_app {l m : Acts} {d : Dot} {k : Nat} (h : fst l d = some k) : fst (l ++ m) d = some k := by
  obtain ⟨h1, h2, h3, h4, h5⟩ := fst_some h
  refine fst_eq (by rw [List.length_append]; omega) (by rw [gt_app_l h1]; simp [isw, h2, h3]) (by rw [gt_app_l h1]; exact h4) fun j hj hw => ?_
  rw [gt_app_l (by omega)] at hw ⊢
  exact h5 j hj hw
theorem stp_app {l m : Acts} {k : Nat} (h : k < l.length) : stp (l ++ m) k = stp l k := by
  unfold stp
  rw [List.take_append_of_le_length (by omega), gt_app_l h]
theorem bh_app {l m : Acts} (hno : ∀ a ∈ m, a.read = false → ∀ b ∈ l, a.dot ∉ b.reads) {d x : Dot} {k : Nat} (hf : fst l d = some k) : Bh (l ++ m) d x ↔ Bh l d x := by
  constructor
  · intro h
    induction h generalizing k with
    | @one d x i h1 h2 =>
      rw [fst_app hf] at h1; injection h1 with h1; subst h1
      rw [stp_app (fst_some hf).1] at h2
      exact .one hf h2
    | @two d e x i h1 h2 h3 ih =>
      rw [fst_app hf] at h1; injection h1 with h1; subst h1
      rw [stp_app (fst_some hf).1] at h2
      cases he : fst l e with
      | some k' => exact .two hf h2 (ih he)
      | none =>
        exfalso
        obtain ⟨j, hj⟩ := h3.fst
        obtain ⟨g1, g2, g3, g4, _⟩ := fst_some hj
        obtain ⟨q, q1, q2, q3, q4, q5⟩ := mem_stp.1 h2
        have hjl : l.length ≤ j := by
          rcases Nat.lt_or_ge j l.length with c | c
          · rw [gt_app_l c] at g2 g3 g4
            exact absurd g4 (fst_none he c (by simp [isw, g2, g3]))
          · exact c
        rw [List.length_append] at g1
        rw [gt_append_right hjl] at g2 g3 g4
        have hmem : gt m (j - l.length) ∈ m := by rw [gt_eq (by omega)]; exact List.getElem_mem _
        have hlm : gt l q ∈ l := by rw [gt_eq q2]; exact List.getElem_mem _
        rcases mem_tells.1 q5 with ⟨_, r2⟩ | ⟨r1, r2, r3⟩
        · exact hno _ hmem g2 _ hlm (by rw [g4]; exact r2)
        · exact fst_none he q2 (by simp [isw, r1, r2]) r3.symm
  · intro h
    induction h generalizing k with
    | @one d x i h1 h2 =>
      rw [← stp_app (m := m) (fst_some h1).1] at h2
      exact .one (fst_app h1) h2
    | @two d e x i h1 h2 h3 ih =>
      rw [← stp_app (m := m) (fst_some h1).1] at h2
      obtain ⟨j, hj⟩ := h3.fst
      exact .two (fst_app h1) h2 (ih hj)
theorem goes5 {more : Acts} {i : Nat} {f : Unit → Option Bool} : ∀ {L : Acts} {k : Nat}, forI (m_firthlaw23_JudgeGoesOn_b5 more i) (fun _ => f ()) k L () = bif !(gt more i).read && L.any (fun b => decide ((gt more i).dot ∈ b.reads)) then some true else f ()
  | [], _ => by simp [forI_nil]
  | b :: L, k => by
    have ih := goes5 (more := more) (i := i) (f := f) (L := L) (k := k + 1)
    rw [forI_cons]
    generalize hG : forI (m_firthlaw23_JudgeGoesOn_b5 more i) (fun _ => f ()) (k + 1) L = G at ih
    unfold m_firthlaw23_JudgeGoesOn_b5
    rw [e_has, List.any_cons]
    cases hr : (gt more i).read with
    | true => rw [hr] at ih; simp only [Bool.not_true, gcall, cond_false, Option.bind_some, Bool.false_and] at ih ⊢; exact ih
    | false =>
      rw [hr] at ih
      simp only [Bool.not_false, gcall, cond_true, Option.bind_some, Bool.true_and] at ih ⊢
      cases decide ((gt more i).dot ∈ b.reads) with
      | true => rfl
      | false => simpa using ih
theorem goes4 {list more : Acts} {K : Option Bool} (hK : (∀ a ∈ more, a.read = false → ∀ b ∈ list, a.dot ∉ b.reads) → K = some true) : ∀ {L : Acts} {i : Nat}, L = more.drop i → i ≤ more.length → (∀ j < i, (gt more j).read = false → ∀ b ∈ list, (gt more j).dot ∉ b.reads) → forI (m_firthlaw23_JudgeGoesOn_b4 list more) (fun _ => K) i L () = some true
  | [], i, hL, hi, hd => by
    have hil : more.length ≤ i := by
      have := congrArg List.length hL
      rw [List.length_drop, List.length_nil] at this; omega
    refine hK fun a ha => ?_
    obtain ⟨j, hj, rfl⟩ := List.getElem_of_mem ha
    rw [← gt_eq hj]
    exact hd j (by omega)
  | a :: L, i, hL, hi, hd => by
    have hil : i < more.length := by
      have := congrArg List.length hL
      rw [List.length_drop, List.length_cons] at this; omega
    rw [drop_gt hil] at hL
    obtain ⟨ha, hL⟩ := List.cons.inj hL
    rw [forI_cons]
    have ih := fun h => goes4 hK (L := L) (i := i + 1) hL hil h
    generalize hG : forI (m_firthlaw23_JudgeGoesOn_b4 list more) (fun _ => K) (i + 1) L = G at ih
    unfold m_firthlaw23_JudgeGoesOn_b4
    rw [goes5]
    cases hc : !(gt more i).read && list.any (fun b => decide ((gt more i).dot ∈ b.reads)) with
    | true => rfl
    | false =>
      refine ih fun j hj hr b hb hm => ?_
      rcases Nat.lt_or_ge j i with q | q
      · exact hd j q hr b hb hm
      · have : j = i := by omega
        subst this
        rw [hr] at hc
        simp only [Bool.not_false, Bool.true_and] at hc
        rw [Bool.eq_false_iff] at hc
        exact hc (List.any_eq_true.2 ⟨b, hb, decide_eq_true hm⟩)
theorem goes6 {list more : Acts} (h : okj list) (h2 : okj (list ++ more)) (hno : ∀ a ∈ more, a.read = false → ∀ b ∈ list, a.dot ∉ b.reads) : ∀ {L : Acts} {i : Nat}, forI (m_firthlaw23_JudgeGoesOn_b6 list more (racts list)) (fun _ => some true) i L () = some true
  | [], _ => rfl
  | a :: L, i => by
    have ih := goes6 h h2 hno (L := L) (i := i + 1)
    rw [forI_cons]
    generalize hG : forI (m_firthlaw23_JudgeGoesOn_b6 list more (racts list)) (fun _ => some true) (i + 1) L = G at ih
    unfold m_firthlaw23_JudgeGoesOn_b6
    cases a.read with
    | true => exact ih
    | false =>
      simp only [Bool.not_false, cond_true]
      rw [e_Behind h2.ok]
      simp only [Option.bind_some]
      rw [e_Behind h.ok]
      simp only [Option.bind_some, gcall, cond_true, e_Same, e_First]
      cases hf : fst list a.dot with
      | some k =>
        have : bhS (list ++ more) a.dot = bhS list a.dot := CS.ext (bhS_cs _ _) (bhS_cs _ _) fun x => by rw [mem_bhS, mem_bhS, bh_app hno hf]
        rw [this]
        simp only [decide_true, Bool.not_true, cond_false, Option.bind_some, Bool.false_and]
        exact ih
      | none =>
        have : decide (0 ≤ fstI list a.dot) = false := by simp [fstI, hf]
        cases decide (kys (bhS (list ++ more) a.dot) = kys (bhS list a.dot)) with
        | true => simp only [Bool.not_true, cond_false, Option.bind_some, Bool.false_and]; exact ih
        | false => simp only [Bool.not_false, cond_true, Option.bind_some, this, Bool.and_false, cond_false]; exact ih
theorem w64_len2 {a b : Nat} (h : a ≤ lim) (h2 : b ≤ lim) : w64 ((a : Int) + (b : Int)) = ((a + b : Nat) : Int) := by
  rw [lim_eq] at h h2; rw [w64_id (by omega) (by omega)]; omega
theorem goes_all {list more : Acts} (h : okj list) (h2 : okj (list ++ more)) : (Option.bind (m_firthlaw23_acts list) fun z12 => (forI (m_firthlaw23_JudgeGoesOn_b4 list more) (fun _ => (chk (decide (0 + list.length ≤ lim)) (chk (decide (list.length + more.length ≤ lim)) (forI (m_firthlaw23_JudgeGoesOn_b6 list more z12) (fun _ => (some true)) 0 list ())))) 0 more ())) = some true := by
  rw [e_acts h.ok.fine.1]
  simp only [Option.bind_some]
  have e1 : decide (0 + list.length ≤ lim) = true := decide_eq_true (by have := h.ok.fine.1; omega)
  have e2 : decide (list.length + more.length ≤ lim) = true := decide_eq_true (by have := h2.ok.fine.1; rw [List.length_append] at this; exact this)
  simp only [e1, e2, chk, cond_true]
  exact goes4 (fun hno => goes6 h h2 hno) (by rw [List.drop_zero]) (Nat.zero_le _) (fun j hj => absurd hj (Nat.not_lt_zero _))
theorem goes_ok {list more : Acts} (hn : ¬ 60 < list.length + more.length) (hb : bkL Djudge_Act.bk list ≤ 1048576) (hb2 : bkL Djudge_Act.bk more ≤ 1048576) : okj list ∧ okj (list ++ more) :=
  ⟨okj_of (by omega) (by omega), okj_of (by rw [List.length_append]; omega) (by rw [bkL_app]; omega)⟩
theorem p_firthlaw23_JudgeGoesOn {Γ : Gh} {Alist : Option Addr} {clist : Nat} {list : List Djudge_Act} (hlist : Sl djudge_ActT Γ Alist list) (hlistc : list.length ≤ clist) {Amore : Option Addr} {cmore : Nat} {more : List Djudge_Act} (hmore : Sl djudge_ActT Γ Amore more) (hmorec : more.length ≤ cmore) (hb : bkL Djudge_Act.bk list ≤ 1048576) (hb2 : bkL Djudge_Act.bk more ≤ 1048576) : m_firthlaw23_JudgeGoesOn list more = some true := by
  unfold m_firthlaw23_JudgeGoesOn
  rw [e_awake]
  have hw := w64_len2 hlist.le hmore.le
  generalize w64 (((list.length : Nat) : Int) + ((more.length : Nat) : Int)) = y at hw ⊢
  subst hw
  generalize hX : decide (60 < ((list.length + more.length : Nat) : Int)) = X
  simp only [Option.bind_some, Bool.not_true, Bool.false_or]
  cases X with
  | true => rfl
  | false =>
    simp only [cond_false]
    have hn : ¬ 60 < list.length + more.length := fun q => of_decide_eq_false hX (Int.ofNat_lt.2 q)
    obtain ⟨h, h2⟩ := goes_ok hn hb hb2
    exact goes_all h h2
end Fw
end Go.Proofs.Ytldpanjodokefaa
