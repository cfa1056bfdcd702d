/- Who differs under some keys; the law MendFew, as the printed models say it. No condition. -/
import Derived.Test.YtbidmceookkapaaGreatP23
namespace Go.Proofs.YtbidmceookkapaaGreat
namespace Fw
set_option linter.unusedVariables false
set_option linter.unusedSimpArgs false
set_option linter.unusedSectionVars false

theorem mem_gt_take {α : Type} [Inhabited α] {l : List α} {i : Nat} {x : α} (h : x ∈ l.take i) : x ∈ l := List.mem_of_mem_take h
theorem addL_self {L : List Rec} (hs : SR L) (hv : ∀ r ∈ L, r.vers ≠ []) : addL L = L := by
  refine sr_ext (addL_sr L) hs fun x => ⟨mem_addL, fun hx => ?_⟩
  have key : ∀ i, i ≤ L.length → ∀ x ∈ L.take i, x ∈ addL (L.take i) := by
    intro i
    induction i with
    | zero => intro _ x hx; simp at hx
    | succ i ih =>
      intro hi x hx
      rw [take_gt hi] at hx
      rw [take_gt hi, addL_snoc, mem_withr]
      have hm := gt_mem (show i < L.length by omega)
      by_cases e : x = gt L i
      · exact .inl ⟨e, hv _ hm⟩
      · rcases List.mem_append.1 hx with h | h
        · refine .inr ⟨ih (by omega) x h, fun hk => e (sr_key hs (mem_gt_take h) hm hk)⟩
        · rw [List.mem_singleton] at h; exact absurd h e
  have := key L.length (Nat.le_refl _) x (by rw [List.take_length]; exact hx)
  rwa [List.take_length] at this
theorem foldl_vers : ∀ {l acc : List Rec}, (∀ x ∈ acc, x.vers ≠ []) → ∀ x ∈ l.foldl withr acc, x.vers ≠ []
  | [], _, h, x, hx => h x hx
  | r :: l, acc, h, x, hx => foldl_vers (l := l) (acc := withr acc r) (fun y hy => by
      rcases mem_withr.1 hy with ⟨h1, h2⟩ | ⟨h1, _⟩
      · rw [h1]; exact h2
      · exact h y h1) x hx
theorem addL_vers (l : List Rec) : ∀ x ∈ addL l, x.vers ≠ [] := foldl_vers (fun x h => absurd h List.not_mem_nil)
theorem foldl_len : ∀ (l acc : List Rec), (l.foldl withr acc).length ≤ acc.length + l.length
  | [], acc => Nat.le_refl _
  | r :: l, acc => by
    have := foldl_len l (withr acc r)
    have := withr_len acc r
    rw [List.foldl_cons, List.length_cons]; omega
theorem e_laid {l more : List Rec} (h : l.length + more.length + 4 ≤ lim) : m_firthlaw14_laid l more = some (more.foldl withr l) := by
  unfold m_firthlaw14_laid
  refine forI_run (fun i s => s = (more.take i).foldl withr l) (fun s hs => by rw [hs, List.take_length]) (fun f i s hi hs hf => ?_) rfl
  have hlen := foldl_len (more.take i) l
  rw [List.length_take] at hlen
  unfold m_firthlaw14_laid_b1
  rw [e_With (by rw [hs]; omega), Option.bind_some]
  exact hf _ (by rw [take_gt hi, List.foldl_append, ← hs]; rfl)
theorem Hs_laid : ∀ {m a : List Rec} {path : List Int}, SR a → (∀ r ∈ m, inP path r = false) → Hs (m.foldl withr a) path = Hs a path
  | [], _, _, _, _ => rfl
  | r :: m, a, path, hs, h => by
    rw [List.foldl_cons, Hs_laid (sr_withr hs) (fun x hx => h x (List.mem_cons_of_mem _ hx)), Hs_same hs (h r List.mem_cons_self)]
theorem Hs_diff {m a : List Rec} {path : List Int} (hs : SR a) (h : Hs (m.foldl withr a) path ≠ Hs a path) : ∃ r ∈ m, inP path r = true := by
  rcases Classical.em (∃ r ∈ m, inP path r = true) with h2 | h2
  · exact h2
  · refine absurd (Hs_laid hs fun r hr => ?_) h
    cases hc : inP path r with
    | false => rfl
    | true => exact absurd ⟨r, hr, hc⟩ h2
theorem difN_mem {a b : List Int} {i : Nat} (h : i ∈ difN a b) : i < 16 ∧ gt a i ≠ gt b i := by
  unfold difN at h
  obtain ⟨h1, h2⟩ := List.mem_filter.1 h
  exact ⟨List.mem_range.1 h1, by simpa using h2⟩
theorem difN_nodup (a b : List Int) : (difN a b).Nodup := List.nodup_range.sublist List.filter_sublist
theorem difN_self (a : List Int) : difN a a = [] := by
  unfold difN
  rw [List.filter_eq_nil_iff]
  intro i _; simp
theorem kids_gt {all : List Rec} {path : List Int} (h : (okP path && decide (path.length ≤ 1)) = true) {i : Nat} (hi : i < 16) : gt (kidsV all path) i = Hs all (path ++ [((i : Nat) : Int)]) := by
  unfold kidsV
  rw [h, cond_true, gt_eq (by rw [List.length_map, List.length_range]; exact hi), List.getElem_map, List.getElem_range]
theorem ok1 {i : Nat} (hi : i < 16) : okP [((i : Nat) : Int)] = true := ok_ext (path := []) rfl (Nat.zero_le _) hi
theorem cnt_split {α : Type} (P Q R : α → Bool) (hR : ∀ r, R r = (P r || Q r)) (hd : ∀ r, (P r && Q r) = false) : ∀ l : List α, (l.filter R).length = (l.filter P).length + (l.filter Q).length
  | [] => rfl
  | x :: l => by
    have ih := cnt_split P Q R hR hd l
    have h1 := hR x
    have h2 := hd x
    rw [List.filter_cons, List.filter_cons, List.filter_cons, h1]
    cases hp : P x <;> cases hq : Q x
    · simpa using ih
    · simp [ih]; omega
    · simp [ih]; omega
    · rw [hp, hq] at h2; cases h2
/-- the records whose first digit is among these -/
def cI (m : List Rec) (D : List Nat) : Nat := (m.filter (fun r => D.contains (pa r.key))).length
theorem cI_le (m : List Rec) (D : List Nat) : cI m D ≤ m.length := List.length_filter_le _ _
theorem cI_snoc (m : List Rec) {D : List Nat} {d : Nat} (h : d ∉ D) : cI m (D ++ [d]) = cI m D + (m.filter (fun r => decide (pa r.key = d))).length := by
  unfold cI
  refine cnt_split _ _ _ (fun r => ?_) (fun r => ?_) m
  · rw [Bool.eq_iff_iff]; simp
  · rw [Bool.eq_false_iff]
    simp only [ne_eq, Bool.and_eq_true, decide_eq_true_eq, List.contains_iff_mem]
    rintro ⟨h1, h2⟩
    rw [h2] at h1; exact h h1
theorem sub_len {m a : List Rec} (hs : SR a) {d : Nat} (hd : d < 16) : (difN (kidsV a [((d : Nat) : Int)]) (kidsV (m.foldl withr a) [((d : Nat) : Int)])).length ≤ (m.filter (fun r => decide (pa r.key = d))).length := by
  have hkk : (okP [((d : Nat) : Int)] && decide ([((d : Nat) : Int)].length ≤ 1)) = true := by rw [ok1 hd]; rfl
  have := nodup_len (m := difN (kidsV a [((d : Nat) : Int)]) (kidsV (m.foldl withr a) [((d : Nat) : Int)])) (l := (m.filter (fun r => decide (pa r.key = d))).map (fun r => pb r.key)) (difN_nodup _ _) (fun e he => by
    obtain ⟨h1, h2⟩ := difN_mem he
    rw [kids_gt hkk h1, kids_gt hkk h1] at h2
    obtain ⟨r, hr, hp⟩ := Hs_diff hs (fun h => h2 h.symm)
    have hp' : (((d : Nat) : Int) == ((pa r.key : Nat) : Int) && ((e : Nat) : Int) == ((pb r.key : Nat) : Int)) = true := hp
    simp only [Bool.and_eq_true, beq_iff_eq] at hp'
    exact List.mem_map.2 ⟨r, List.mem_filter.2 ⟨hr, decide_eq_true (by omega)⟩, by omega⟩)
  simpa using this
theorem top_len {m a : List Rec} (hs : SR a) : (difN (kidsV (m.foldl withr a) []) (kidsV a [])).length ≤ m.length := by
  have := nodup_len (m := difN (kidsV (m.foldl withr a) []) (kidsV a [])) (l := m.map (fun r => pa r.key)) (difN_nodup _ _) (fun e he => by
    obtain ⟨h1, h2⟩ := difN_mem he
    rw [kids_gt rfl h1, kids_gt rfl h1] at h2
    obtain ⟨r, hr, hp⟩ := Hs_diff hs h2
    have hp' : (((e : Nat) : Int) == ((pa r.key : Nat) : Int)) = true := hp
    simp only [beq_iff_eq] at hp'
    exact List.mem_map.2 ⟨r, hr, by omega⟩)
  simpa using this
theorem few_law {list more : List Rec} (hok : ∀ r ∈ list, RecOk r) (hl : list.length ≤ 1048576) (hokm : ∀ r ∈ more, RecOk r) (hlm : more.length ≤ 1048576) : m_firthlaw14_MendFew list more = some true := by
  unfold m_firthlaw14_MendFew
  rw [awake14, Option.bind_some, Bool.not_true, cond_false]
  rcases all_or list with hr | hr
  · rcases all_or more with hrm | hrm
    · rw [e_Held_t hok (by rw [lim_v]; omega) hr, Option.bind_some, e_Held_t hokm (by rw [lim_v]; omega) hrm, Option.bind_some]
      have hla := addL_len list
      have hlm2 := addL_len more
      have hoka := addL_ok hok
      have hokm2 := addL_ok hokm
      have hra : ∀ r ∈ addL list, rr r = true := fun r h => hr r (mem_addL h)
      have hrm2 : ∀ r ∈ addL more, rr r = true := fun r h => hrm r (mem_addL h)
      have hsa := addL_sr list
      have hsm := addL_sr more
      have hva := addL_vers list
      have haa := addL_self hsa hva
      have hvm := addL_vers more
      generalize addL list = a at *
      generalize addL more = m at *
      have hlB := foldl_len m a
      have hsB : SR (m.foldl withr a) := foldl_sr m a hsa
      have hvB : ∀ x ∈ m.foldl withr a, x.vers ≠ [] := foldl_vers hva
      have hBB := addL_self hsB hvB
      have hokB : ∀ r ∈ m.foldl withr a, RecOk r := fun r h => by
        rcases foldl_mem h with h | h
        · exact hokm2 r h
        · exact hoka r h
      have hrB : ∀ r ∈ m.foldl withr a, rr r = true := fun r h => by
        rcases foldl_mem h with h | h
        · exact hrm2 r h
        · exact hra r h
      simp only [Bool.not_true, Bool.or_self, cond_false]
      rw [e_laid (by rw [lim_v]; omega), Option.bind_some]
      have hO : m_mend_Open a = some (kidsV a []) := by rw [e_Open_t hoka (by omega) hra, haa]
      have hA0 : ∀ hs, m_mend_Answer a [] hs = some ((dif (kidsV a []) hs).map (fun d => stepA a ([] ++ [d]))) := fun hs => by
        rw [e_Answer_t hoka (by omega) hra, haa]
        show some (((dif (kidsV a []) hs).map (fun d => [] ++ [d])).map (stepA a)) = _
        rw [List.map_map]; rfl
      have hB0 : ∀ hs, m_mend_Answer (m.foldl withr a) [] hs = some ((dif (kidsV (m.foldl withr a) []) hs).map (fun d => stepA (m.foldl withr a) ([] ++ [d]))) := fun hs => by
        rw [e_Answer_t hokB (by omega) hrB, hBB]
        show some (((dif (kidsV (m.foldl withr a) []) hs).map (fun d => [] ++ [d])).map (stepA (m.foldl withr a))) = _
        rw [List.map_map]; rfl
      rw [hO, Option.bind_some, hA0, Option.bind_some]
      have h0 : dif (kidsV a []) (kidsV a []) = [] := by unfold dif; rw [difN_self]; rfl
      rw [h0]
      rw [List.map_nil, List.length_nil, show ((((0 : Nat) : Int)) != 0) = false from rfl, cond_false, Option.bind_some, hB0, Option.bind_some]
      have htop := top_len (m := m) hsa
      have hDlt : ∀ d ∈ difN (kidsV (m.foldl withr a) []) (kidsV a []), d < 16 := fun d hd => (difN_mem hd).1
      have hDnd := difN_nodup (kidsV (m.foldl withr a) []) (kidsV a [])
      unfold dif
      generalize difN (kidsV (m.foldl withr a) []) (kidsV a []) = D at *
      have hfl : (List.map (fun d => stepA (m.foldl withr a) ([] ++ [d])) (List.map (fun i : Nat => ((i : Nat) : Int)) D)).length = D.length := by rw [List.length_map, List.length_map]
      refine forI_run (fun i (x : Int) => 0 ≤ x ∧ x ≤ ((cI m (D.take i) : Nat) : Int)) (fun x hI => ?_) (fun f i x hi hI hf => ?_) ⟨Int.le_refl _, by omega⟩
      · have h1 := cI_le m (D.take (List.map (fun d => stepA (m.foldl withr a) ([] ++ [d])) (List.map (fun i : Nat => ((i : Nat) : Int)) D)).length)
        have e1 : decide (x ≤ ((m.length : Nat) : Int)) = true := decide_eq_true (by omega)
        have e2 : decide ((((List.map (fun d => stepA (m.foldl withr a) ([] ++ [d])) (List.map (fun i : Nat => ((i : Nat) : Int)) D)).length : Nat) : Int) ≤ ((m.length : Nat) : Int)) = true := decide_eq_true (by rw [hfl]; omega)
        rw [e1, e2]; rfl
      · rw [hfl] at hi
        have hg : gt (List.map (fun d => stepA (m.foldl withr a) ([] ++ [d])) (List.map (fun i : Nat => ((i : Nat) : Int)) D)) i = ⟨[((gt D i : Nat) : Int)], kidsV (m.foldl withr a) [((gt D i : Nat) : Int)], []⟩ := by
          rw [gt_eq (by rw [hfl]; exact hi), List.getElem_map, List.getElem_map, gt_eq hi]; rfl
        have hd16 := hDlt _ (gt_mem hi)
        have hnot : gt D i ∉ D.take i := by
          have := hDnd
          rw [← List.take_append_drop i D, drop_gt hi, List.nodup_append] at this
          exact fun h => this.2.2 _ h _ List.mem_cons_self rfl
        have hst := cI_snoc m hnot
        rw [← take_gt hi] at hst
        have hsub := sub_len (m := m) hsa hd16
        have hle := cI_le m (D.take (i + 1))
        have hAn : m_mend_Answer a [((gt D i : Nat) : Int)] (kidsV (m.foldl withr a) [((gt D i : Nat) : Int)]) = some ((ansD a [((gt D i : Nat) : Int)] (kidsV (m.foldl withr a) [((gt D i : Nat) : Int)])).map (stepA a)) := by
          rw [e_Answer_t hoka (by omega) hra, haa]
        have hlen : ((ansD a [((gt D i : Nat) : Int)] (kidsV (m.foldl withr a) [((gt D i : Nat) : Int)])).map (stepA a)).length = (difN (kidsV a [((gt D i : Nat) : Int)]) (kidsV (m.foldl withr a) [((gt D i : Nat) : Int)])).length := by
          unfold ansD
          rw [ok1 hd16]
          show (List.map (stepA a) (List.map _ (dif _ _))).length = _
          rw [List.length_map, List.length_map]
          unfold dif
          rw [List.length_map]
        rw [hg]
        unfold m_firthlaw14_MendFew_b1
        simp only
        rw [hAn, Option.bind_some, hlen, w64_i (by unfold I64; omega)]
        exact hf _ ⟨by omega, by omega⟩
    · rw [e_Held_t hok (by rw [lim_v]; omega) hr, Option.bind_some, e_Held_f hokm (by rw [lim_v]; omega) hrm, Option.bind_some]; rfl
  · rw [e_Held_f hok (by rw [lim_v]; omega) hr, Option.bind_some]
    rcases all_or more with hrm | hrm
    · rw [e_Held_t hokm (by rw [lim_v]; omega) hrm, Option.bind_some]; rfl
    · rw [e_Held_f hokm (by rw [lim_v]; omega) hrm, Option.bind_some]; rfl
theorem p_firthlaw14_MendFew {Γ : Gh} {A : Option Addr} {c : Nat} {list : List Rec} (hs : Sl recT Γ A list) (hc : list.length ≤ c) {A3 : Option Addr} {c3 : Nat} {more : List Rec} (hs3 : Sl recT Γ A3 more) (hc3 : more.length ≤ c3) (m1 : bkL Rec.bk list ≤ 1048576) (m3 : bkL Rec.bk more ≤ 1048576) :
    m_firthlaw14_MendFew list more = some true := few_law (sl_recOk hs) (recs_len m1) (sl_recOk hs3) (recs_len m3)
end Fw
end Go.Proofs.YtbidmceookkapaaGreat
