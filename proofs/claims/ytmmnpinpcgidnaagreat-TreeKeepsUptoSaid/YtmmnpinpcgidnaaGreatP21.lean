/- What the reference's tree comes to; the law TreePlays, as the printed models say it. No condition. -/
import Derived.Test.YtmmnpinpcgidnaaGreatP20
namespace Go.Proofs.YtmmnpinpcgidnaaGreat
namespace Fw
set_option linter.unusedVariables false
set_option linter.unusedSimpArgs false
set_option linter.unusedSectionVars false

/-! ### what is handed in -/
theorem sl_versOk {Γ : Gh} {A : Option Addr} {l : List Ver} (h : Sl verT Γ A l) : VersOk l := by
  refine ⟨h.le, fun v hv => ?_⟩
  obtain ⟨i, hi, rfl⟩ := mem_gt hv
  obtain ⟨A2, c2, h2⟩ := h.verT_at i
  obtain ⟨⟨h3, h4, ⟨_, h5⟩, h6⟩, _⟩ := h2 hi
  refine ⟨⟨h3, h4⟩, h5.le, fun x hx => ?_, h6⟩
  obtain ⟨k, hk, rfl⟩ := mem_gt hx
  exact (h5.spanT_at hk).1.2.1
theorem fits_recOk {Γ : Gh} {A : Option Addr} {c : Nat} {r : Rec} (h : Rec.fits Γ A c r) : RecOk r := ⟨h.1, sl_versOk h.2.2⟩
theorem sl_recOk {Γ : Gh} {A : Option Addr} {l : List Rec} (h : Sl recT Γ A l) : ∀ r ∈ l, RecOk r := fun r hr => by
  obtain ⟨i, hi, rfl⟩ := mem_gt hr
  obtain ⟨A2, c2, h2⟩ := h.recT_at i
  exact fits_recOk (h2 hi).1
theorem rec_bk (r : Rec) : 1 ≤ Rec.bk r := by unfold Rec.bk; omega
theorem recs_len {l : List Rec} (h : bkL Rec.bk l ≤ 1048576) : l.length ≤ 1048576 := Nat.le_trans (bkL_len rec_bk l) h

/-! ### the reference's records beneath a path -/
theorem e_in {path : List Int} (ho : okP path = true) (r : Rec) (k : Bool → Option (List Rec)) : forI (m_firthref11_Recs_b13 [((pa r.key : Nat) : Int), ((pb r.key : Nat) : Int)]) k 0 path true = k (inP path r) := by
  match path with
  | [] => rfl
  | [a] =>
    show k (true && (((pa r.key : Nat) : Int) == a)) = k (a == ((pa r.key : Nat) : Int))
    rw [Bool.true_and, Bool.beq_comm]
  | [a, b] =>
    show chk (imp (true && (((pa r.key : Nat) : Int) == a)) true) (k ((true && (((pa r.key : Nat) : Int) == a)) && (((pb r.key : Nat) : Int) == b))) = k (a == ((pa r.key : Nat) : Int) && b == ((pb r.key : Nat) : Int))
    rw [Bool.true_and, Bool.beq_comm (a := a), Bool.beq_comm (a := b)]
    cases (((pa r.key : Nat) : Int) == a) <;> rfl
  | a :: b :: c :: l => simp [okP] at ho
theorem e_rRecs {all : List Rec} (hn : all.length ≤ 4194304) (path : List Int) : m_firthref11_Recs all path = some (bif okP path then all.filter (inP path) else []) := by
  unfold m_firthref11_Recs
  cases ho : okP path with
  | false =>
    rw [show FU = 18446744073709551615 + 1 from rfl]
    show m_firthref11_Recs_b10 all path _ ([], 0) = _
    unfold m_firthref11_Recs_b10
    simp only
    rw [e_rPath, gcall_s, Option.bind_some, ho]
    cases decide ((0 : Int) < ((all.length : Nat) : Int)) <;> rfl
  | true =>
    rw [cond_true]
    refine (loopN_inv (fun (s : List Rec × Int) => some (s.1 ++ (all.drop s.2.toNat).filter (inP path))) (fun s => 0 ≤ s.2 ∧ s.2 ≤ all.length ∧ s.1.length ≤ s.2.toNat) (fun s => all.length - s.2.toNat) (fun f s hI hf => ?_) (s := (([] : List Rec), (0 : Int))) ⟨by simp, by simp, by simp⟩ (by unfold FU; simp only; omega)).trans (by simp)
    obtain ⟨out, x⟩ := s
    obtain ⟨h0, h1, h2⟩ := hI
    simp only at h0 h1 h2
    obtain ⟨i, rfl⟩ : ∃ i : Nat, x = (i : Int) := ⟨x.toNat, by omega⟩
    unfold m_firthref11_Recs_b10 m_firthref11_Recs_j11
    simp only
    rw [e_rPath, gcall_s, Option.bind_some, ho, Int.toNat_natCast]
    rw [Int.toNat_natCast] at h2
    by_cases hi : i < all.length
    · rw [decide_eq_true (show ((i : Nat) : Int) < ((all.length : Nat) : Int) by omega)]
      simp only [cond_true, Bool.and_self]
      rw [chk_t (inb_nat hi), e_rPlace, Option.bind_some, e_in ho, drop_gt hi, List.filter_cons]
      have hs : w64 (((i : Nat) : Int) + 1) = ((i + 1 : Nat) : Int) := w64_s (by omega)
      cases hc : inP path (gt all i) with
      | true =>
        rw [cond_true, chk_t (decide_eq_true (by rw [lim_v]; omega)), hs, hf _ ⟨by simp only; omega, by simp only; omega, by simp; omega⟩ (by simp only [Int.toNat_natCast]; omega)]
        simp
      | false =>
        rw [cond_false, hs, hf _ ⟨by simp only; omega, by simp only; omega, by simp only [Int.toNat_natCast]; omega⟩ (by simp only [Int.toNat_natCast]; omega)]
        simp
    · rw [decide_eq_false (show ¬ ((i : Nat) : Int) < ((all.length : Nat) : Int) by omega)]
      simp only [Bool.false_and, cond_false]
      rw [List.drop_of_length_le (by omega)]; simp

/-! ### the reference's hashes -/
structure Rcs (all : List Rec) : Prop where
  ok : ∀ r ∈ all, RecOk r ∧ rr r = true
  len : all.length ≤ 4194304
theorem Rcs.filter {all : List Rec} (h : Rcs all) (p : Rec → Bool) : Rcs (all.filter p) := ⟨fun r hr => h.ok r (List.mem_filter.1 hr).1, Nat.le_trans (List.length_filter_le _ _) h.len⟩
theorem hs2_rng (all : List Rec) (a b : Int) : 0 ≤ hs2 all a b ∧ hs2 all a b < 18446744073709551616 := by
  unfold hs2
  cases (all.filter (inP [a, b])).isEmpty
  · exact hashB_rng _
  · exact ⟨Int.le_refl _, show (0 : Int) < 18446744073709551616 by decide⟩
theorem hs1_rng (all : List Rec) (a : Int) : 0 ≤ hs1 all a ∧ hs1 all a < 18446744073709551616 := by
  unfold hs1
  cases (all.filter (inP [a])).isEmpty
  · exact hashB_rng _
  · exact ⟨Int.le_refl _, show (0 : Int) < 18446744073709551616 by decide⟩
theorem Hs_rng (all : List Rec) (path : List Int) : 0 ≤ Hs all path ∧ Hs all path < 18446744073709551616 := by
  match path with
  | [] =>
    show 0 ≤ hs0 all ∧ hs0 all < 18446744073709551616
    unfold hs0
    cases all.isEmpty
    · exact hashB_rng _
    · exact ⟨Int.le_refl _, show (0 : Int) < 18446744073709551616 by decide⟩
  | [a] => exact hs1_rng all a
  | [a, b] => exact hs2_rng all a b
  | a :: b :: c :: l => exact ⟨Int.le_refl _, show (0 : Int) < 18446744073709551616 by decide⟩
theorem u64_of {x : Int} (h : 0 ≤ x ∧ x < 18446744073709551616) : u64b x = true := by unfold u64b; simp; omega
theorem Hs_sub (all : List Rec) {path : List Int} (hl : path.length ≤ 1) (d : Int) : Hs (all.filter (inP path)) (path ++ [d]) = Hs all (path ++ [d]) := by
  match path, hl with
  | [], _ => rw [all_i]
  | [a], _ =>
    show hs2 (all.filter (inP [a])) a d = hs2 all a d
    unfold hs2
    have : (all.filter (inP [a])).filter (inP [a, d]) = all.filter (inP [a, d]) := by
      rw [List.filter_filter]
      refine List.filter_congr fun r _ => ?_
      show ((a == ((pa r.key : Nat) : Int) && d == ((pb r.key : Nat) : Int)) && (a == ((pa r.key : Nat) : Int))) = (a == ((pa r.key : Nat) : Int) && d == ((pb r.key : Nat) : Int))
      cases (a == ((pa r.key : Nat) : Int)) <;> simp
    rw [this]
def textV (all : List Rec) (path : List Int) : List UInt8 := bif decide (path.length = 2) then (all.filter (inP path)).flatMap (fun r => hv (hashB (markB r.key r.vers))) else (List.range 16).flatMap (fun d : Nat => hv (Hs all (path ++ [((d : Nat) : Int)])))
theorem Hs_text {all : List Rec} {path : List Int} (ho : okP path = true) : Hs all path = bif (all.filter (inP path)).isEmpty then 0 else hashB (textV all path) := by
  have hl := ok_len ho
  match path, hl with
  | [], _ => rw [all_i]; rfl
  | [a], _ => rfl
  | [a, b], _ => rfl
def RH (H : List Rec → List Int → Option Int) (path : List Int) : Prop := ∀ all, Rcs all → H all path = some (Hs all path)
theorem e_Text {H : List Rec → List Int → Option Int} {all : List Rec} {path : List Int} (hA : Rcs all) (ho : okP path = true) (hH : ∀ d : Nat, d < 16 → path.length ≤ 1 → RH H (path ++ [((d : Nat) : Int)])) : m_firthref11_Text H all path = some (textV all path) := by
  unfold m_firthref11_Text textV
  rw [e_rRecs hA.len, Option.bind_some, ho, cond_true]
  have hd : (((path.length : Nat) : Int) == 2) = decide (path.length = 2) := by rw [Bool.eq_iff_iff, beq_iff_eq, decide_eq_true_eq]; omega
  rw [hd]
  have hF := hA.filter (inP path)
  by_cases h2 : path.length = 2
  · rw [decide_eq_true h2, cond_true, cond_true]
    generalize all.filter (inP path) = l at hF ⊢
    have hll := hF.len
    refine (forI_inv (fun i (s : List UInt8) => some (s ++ (l.drop i).flatMap (fun r => hv (hashB (markB r.key r.vers))))) (fun i s => s.length ≤ 20 * i) (fun s hI => ?_) (fun f i s hi hI hf => ?_) (by simp)).trans (by simp)
    · rw [List.drop_of_length_le (Nat.le_refl _)]; simp
    · obtain ⟨h1, h2⟩ := hF.ok _ (gt_mem hi)
      have h3 := rr_len h2
      unfold m_firthref11_Text_b1
      have hrng := hashB_rng (markB (gt l i).key (gt l i).vers)
      rw [e_rMark (fun v hv => (h1.vers.2 v hv).dot) (by rw [lim_v]; omega), Option.bind_some, chk_t (hashB_u64 _), e_rHalves hrng.1 hrng.2 (by rw [lim_v]; omega), Option.bind_some]
      have := hv_len (hashB (markB (gt l i).key (gt l i).vers))
      rw [hf _ (by simp only [List.length_append]; omega), drop_gt hi, List.flatMap_cons, List.append_assoc]
  · rw [decide_eq_false h2, cond_false, cond_false]
    have hl1 : path.length ≤ 1 := by have := ok_len ho; omega
    refine forU_run (fun i (s : List UInt8) => s.length ≤ 20 * i ∧ s = (List.range i).flatMap (fun d : Nat => hv (Hs all (path ++ [((d : Nat) : Int)])))) (fun s hI => by rw [hI.2]) (fun f i s hi hI hf => ?_) ⟨Nat.le_refl _, rfl⟩
    unfold m_firthref11_Text_b2
    have hrng := Hs_rng all (path ++ [((i : Nat) : Int)])
    rw [e_longer _ (by rw [lim_v]; omega), Option.bind_some, hH i hi hl1 _ hF, Hs_sub all hl1, Option.bind_some, chk_t (u64_of hrng), e_rHalves hrng.1 hrng.2 (by rw [lim_v]; omega), Option.bind_some]
    have := hv_len (Hs all (path ++ [((i : Nat) : Int)]))
    refine hf _ ⟨by simp only [List.length_append]; omega, ?_⟩
    rw [List.range_succ, List.flatMap_append, ← hI.2]
    simp
theorem e_Ho {H : List Rec → List Int → Option Int} {path : List Int} (hH : ∀ d : Nat, d < 16 → path.length ≤ 1 → RH H (path ++ [((d : Nat) : Int)])) : RH (m_firthref11_Hash_o H) path := by
  intro all hA
  unfold m_firthref11_Hash_o
  rw [e_rPath, Option.bind_some, Bool.not_not]
  cases ho : okP path with
  | false => rw [Hs_bad ho]; rfl
  | true =>
    rw [cond_true, e_rRecs hA.len, Option.bind_some, ho, cond_true, Hs_text ho, e_Text hA ho hH, Option.bind_some, e_rHash]
    cases all.filter (inP path) with
    | nil => rfl
    | cons x l =>
      have : ((((x :: l).length : Nat) : Int) == 0) = false := by rw [beq_eq_false_iff_ne, List.length_cons]; omega
      rw [this]; rfl
theorem e_Hn : ∀ (n : Nat) (path : List Int), 3 ≤ path.length + n → 1 ≤ n → RH (m_firthref11_Hash_n n) path
  | 0, path, _, h => absurd h (by omega)
  | n + 1, path, h, _ => e_Ho fun d hd hl => e_Hn n _ (by rw [List.length_append]; simp; omega) (by omega)
theorem e_rH {all : List Rec} (hA : Rcs all) (path : List Int) : m_firthref11_Hash all path = some (Hs all path) := e_Hn 3 path (by omega) (by omega) all hA
theorem e_rKids {all : List Rec} (hA : Rcs all) (path : List Int) : m_firthref11_Kids all path = some (kidsV all path) := by
  unfold m_firthref11_Kids
  have hlt : decide (((path.length : Nat) : Int) < 2) = decide (path.length ≤ 1) := by rw [Bool.eq_iff_iff, decide_eq_true_eq, decide_eq_true_eq]; omega
  cases hc : okP path && decide (path.length ≤ 1) with
  | false =>
    unfold kidsV
    rw [hc, cond_false, show FU = 18446744073709551615 + 1 from rfl]
    show m_firthref11_Kids_b1 all path _ ([], 0) = _
    unfold m_firthref11_Kids_b1
    simp only
    rw [e_rPath, gcall_s, Option.bind_some, hlt, show decide ((0 : Int) < 16) = true from rfl, cond_true, Bool.true_and, hc]
    rfl
  | true =>
    obtain ⟨ho, hl⟩ := Bool.and_eq_true_iff.1 hc
    have hl1 := of_decide_eq_true hl
    have hk : kidsV all path = (List.range 16).map (fun d : Nat => Hs all (path ++ [((d : Nat) : Int)])) := by unfold kidsV; rw [hc]; rfl
    rw [hk]
    refine loopN_inv (fun (s : List Int × Int) => some ((List.range 16).map (fun d : Nat => Hs all (path ++ [((d : Nat) : Int)])))) (fun s => ∃ i : Nat, i ≤ 16 ∧ s = ((List.range i).map (fun d : Nat => Hs all (path ++ [((d : Nat) : Int)])), ((i : Nat) : Int))) (fun s => 16 - s.2.toNat) (fun f s hI hf => ?_) (s := (([] : List Int), (0 : Int))) ⟨0, by omega, rfl⟩ (by unfold FU; simp only; omega)
    obtain ⟨i, hi, rfl⟩ := hI
    unfold m_firthref11_Kids_b1
    simp only
    rw [e_rPath, gcall_s, Option.bind_some, hlt, hl, ho]
    by_cases h16 : i < 16
    · rw [decide_eq_true (show ((i : Nat) : Int) < 16 by omega)]
      simp only [cond_true, Bool.and_self]
      rw [e_longer _ (by rw [lim_v]; omega), Option.bind_some, e_rH hA, Option.bind_some, chk_t (u64_of (Hs_rng _ _)), chk_t (decide_eq_true (by rw [List.length_map, List.length_range, lim_v]; omega)), w64_s (by omega)]
      refine hf _ ⟨i + 1, by omega, ?_⟩ (by simp only [Int.toNat_natCast]; omega)
      rw [List.range_succ, List.map_append]; rfl
    · obtain rfl : i = 16 := by omega
      rw [decide_eq_false (show ¬ ((16 : Nat) : Int) < 16 by omega)]
      simp only [Bool.false_and, cond_false]

/-! ### TreePlays -/
theorem plays_law {list : List Rec} (path : List Int) (hok : ∀ r ∈ list, RecOk r) (hl : list.length ≤ 1048576) : m_firthlaw11_TreePlays list path = some true := by
  unfold m_firthlaw11_TreePlays
  rw [awake11, Option.bind_some, Bool.not_true, cond_false]
  obtain ⟨o1, h1, h2⟩ := e_built hok (by rw [lim_v]; omega)
  have hn := allOf_len list
  rw [h1, Option.bind_some]
  generalize allOf list = L at *
  simp only [Bool.not_true, cond_false, Option.bind_some]
  have hL : L.length ≤ 4194304 := by omega
  have hA : Rcs L := ⟨fun r hr => ⟨(h2.ok r hr).1, (h2.ok r hr).2.1⟩, hL⟩
  obtain ⟨o3, e3, g3⟩ := e_THash1 hL h2 path
  rw [e3, Option.bind_some, e_rH hA, Option.bind_some]
  simp only [beq_self_eq_true, cond_true]
  obtain ⟨r4, e4, v4, g4⟩ := e_TKids hL g3 path
  rw [e4, Option.bind_some, e_rKids hA, Option.bind_some, v4, e_Hashes, Option.bind_some, cond_true, e_Recs g4 (by rw [lim_v]; omega), Option.bind_some, e_rRecs hL, Option.bind_some, e_SameRecs, Option.bind_some, cond_true]
  obtain ⟨o5, e5, g5⟩ := e_THash1 hL g4 []
  rw [e5, Option.bind_some, e_rH hA, Option.bind_some]
  simp only [beq_self_eq_true]
theorem p_firthlaw11_TreePlays {Γ : Gh} {A : Option Addr} {c : Nat} {list : List Rec} (hs : Sl recT Γ A list) (hc : list.length ≤ c) {A2 : Option Addr} {c2 : Nat} {path : List Int} (hs2 : Sl intT Γ A2 path) (hc2 : path.length ≤ c2) (hb : bkL Rec.bk list ≤ 1048576) (hb2 : bkL bkOne path ≤ 1048576) : m_firthlaw11_TreePlays list path = some true := plays_law path (sl_recOk hs) (recs_len hb)
end Fw
end Go.Proofs.YtmmnpinpcgidnaaGreat
