/- The law MendTwice: what was taken once changes nothing more. No condition. -/
import Derived.Test.YtbidmceookkapaaGreatP28
namespace Go.Proofs.YtbidmceookkapaaGreat
namespace Fw
set_option linter.unusedVariables false
set_option linter.unusedSimpArgs false
set_option linter.unusedSectionVars false

theorem e_Lacks5 {a b : List Ver} (ha : VersOk a) (hb : VersOk b) : m_firthref05_Lacks a b = some (r5Lacks a b) := e_r5Lacks ha hb
theorem twice_law {own theirs : List Rec} (hok : ∀ r ∈ own, RecOk r) (hl : own.length ≤ 1048576) (hokt : ∀ r ∈ theirs, RecOk r) (hlt : theirs.length ≤ 1048576) : m_firthlaw14_MendTwice own theirs = some true := by
  unfold m_firthlaw14_MendTwice
  rw [awake14, Option.bind_some, Bool.not_true, cond_false]
  rcases all_or own with hr | hr
  · rcases all_or theirs with hrt | hrt
    · rw [e_Held_t hok (by rw [lim_v]; omega) hr, Option.bind_some, e_Held_t hokt (by rw [lim_v]; omega) hrt, Option.bind_some]
      have hla := addL_len own
      have hlb := addL_len theirs
      have hokA := addL_ok hok
      have hokT := addL_ok hokt
      have hrA : ∀ r ∈ addL own, rr r = true := fun r h => hr r (mem_addL h)
      have hrT : ∀ r ∈ addL theirs, rr r = true := fun r h => hrt r (mem_addL h)
      have hsA := addL_sr own
      have hsT := addL_sr theirs
      have hvA := addL_vers own
      have hvT := addL_vers theirs
      generalize addL own = A at *
      generalize addL theirs = T at *
      simp only [Bool.not_true, Bool.or_self, cond_false]
      obtain ⟨rb, e1, hfine⟩ := e_both hokA hrA hsA (by omega) hokT hsT (by omega)
      rw [e1, Option.bind_some]
      obtain ⟨out, e2, s2, m2⟩ := e_Take hokA hrA hsA hvA (by omega) hokT hrT hsT hvT (by omega)
      rw [e2, Option.bind_some]
      simp only
      rw [show ((0 : Int) != 0) = false from rfl, Bool.false_or]
      cases hf : rb.2 with
      | false => rfl
      | true =>
        have hm0 := hfine hf
        rw [Bool.not_true, cond_false]
        -- what was taken
        have hout : ∀ x ∈ out, RecOk x ∧ rr x = true ∧ x.vers ≠ [] ∧ (x.key ∈ A.map (·.key) ++ T.map (·.key)) := fun x hx => by
          obtain ⟨h1, h2⟩ := (m2 x).1 hx
          obtain ⟨h3, h4⟩ := tkC_ne h2
          obtain ⟨y, hy, he⟩ := tkV_key h3
          have hyk : RecOk y ∧ rr y = true := by
            rcases hy with h | h
            · exact ⟨hokA y h, hrA y h⟩
            · exact ⟨hokT y h, hrT y h⟩
          refine ⟨⟨by rw [← he]; exact hyk.1.key, by rw [h1]; exact mg_ok (gvR_ok hokA _) (gvR_ok hokT _)⟩, ?_, by rw [h1]; exact h3, ?_⟩
          · have hrr := hyk.2
            unfold rr at hrr ⊢
            rw [Bool.and_eq_true_iff] at hrr ⊢
            refine ⟨by rw [← he]; exact hrr.1, ?_⟩
            rw [h1]; exact mg_right (gvR_right hrA _)
          · rw [List.mem_append, List.mem_map, List.mem_map]
            rcases hy with h | h
            · exact .inl ⟨y, h, he⟩
            · exact .inr ⟨y, h, he⟩
        have hol : out.length ≤ A.length + T.length := by
          have := nodup_len (sr_keys s2) (l := A.map (·.key) ++ T.map (·.key)) (fun k hk => by
            obtain ⟨x, hx, rfl⟩ := List.mem_map.1 hk
            exact (hout x hx).2.2.2)
          simpa using this
        rw [e_laid (by rw [lim_v]; omega), Option.bind_some]
        have hgv : ∀ k, gvR (out.foldl withr A) k = if tkC A T k = true then tkV A T k else gvR A k := fun k => by
          rw [gv_laid s2 hsA]
          by_cases hc : tkC A T k = true
          · have hx : (⟨k, tkV A T k⟩ : Rec) ∈ out := (m2 _).2 ⟨rfl, hc⟩
            rw [if_pos hc, if_pos ⟨_, hx, rfl⟩]
            exact gvR_mem s2 hx
          · rw [if_neg hc, if_neg]
            rintro ⟨x, hx, rfl⟩
            exact hc ((m2 x).1 hx).2
        have hokN : ∀ r ∈ out.foldl withr A, RecOk r := fun r h => by
          rcases foldl_mem h with h | h
          · exact (hout r h).1
          · exact hokA r h
        have hrN : ∀ r ∈ out.foldl withr A, rr r = true := fun r h => by
          rcases foldl_mem h with h | h
          · exact (hout r h).2.1
          · exact hrA r h
        have hsN : SR (out.foldl withr A) := foldl_sr out A hsA
        have hvN : ∀ r ∈ out.foldl withr A, r.vers ≠ [] := foldl_vers hvA
        have hlN := foldl_len out A
        generalize out.foldl withr A = N at *
        have hplen : ∀ k, (gvR A k).length + (gvR T k).length ≤ lim := fun k => by
          have h1 := r5Right_len (gvR_right hrA k)
          have h2 := r5Right_len (gvR_right hrT k)
          rw [lim_v]; omega
        -- nothing is lacked
        have hnl : ∀ k, PL (gvR A k ++ gvR T k) → r5Lacks (gvR N k) (gvR A k) = false := fun k hp => by
          refine no_lack fun h2 => ?_
          rw [hgv k] at h2 ⊢
          by_cases hc : tkC A T k = true
          · rw [if_pos hc] at h2 ⊢
            have hv : tkV A T k = (r5Merge (gvR A k) (gvR T k)).1 := by unfold tkV mg; rw [hm0 k]; rfl
            rw [hv] at h2 ⊢
            exact twice (hm0 k) hp _ (.inl rfl) h2
          · rw [if_neg hc] at h2 ⊢
            exact self_merge h2
        -- nothing is taken again
        have hno : ∀ k, PL (gvR A k ++ gvR T k) → tkC N T k = false := fun k hp => by
          by_cases hc : tkC A T k = true
          · refine tkC_f ?_
            have hv : tkV A T k = (r5Merge (gvR A k) (gvR T k)).1 := by unfold tkV mg; rw [hm0 k]; rfl
            have hN : gvR N k = (r5Merge (gvR A k) (gvR T k)).1 := by rw [hgv k, if_pos hc, hv]
            unfold tkV
            rw [hN]
            unfold mg
            cases h9 : (r5Merge (r5Merge (gvR A k) (gvR T k)).1 (gvR T k)).2 == 0 with
            | false => rfl
            | true => exact twice (hm0 k) hp _ (.inr rfl) (by simpa using h9)
          · have hN : gvR N k = gvR A k := by rw [hgv k, if_neg hc]
            have : tkC N T k = tkC A T k := by unfold tkC tkV; rw [hN]
            rw [this]
            cases h9 : tkC A T k with
            | false => rfl
            | true => exact absurd h9 hc
        refine forI_run (fun _ _ => True) (fun _ _ => ?_) (fun f i s hi _ hf2 => ?_) trivial
        · obtain ⟨out2, e3, s3, m3⟩ := e_Take hokN hrN hsN hvN (by omega) hokT hrT hsT hvT (by omega)
          rw [e3, Option.bind_some]
          refine forI_run (fun _ _ => True) (fun _ _ => rfl) (fun f i s hi _ hf2 => ?_) trivial
          have hx := ((m3 _).1 (gt_mem hi)).2
          unfold m_firthlaw14_MendTwice_b2
          simp only
          rw [e_Get, Option.bind_some, e_Get, Option.bind_some]
          obtain ⟨p, hp1, hp2⟩ := e_plain (hplen (gt out2 i).key)
          rw [hp1, Option.bind_some]
          cases p with
          | false => rw [cond_false]; exact hf2 () trivial
          | true => rw [hno _ (hp2 rfl)] at hx; cases hx
        · have hm := gt_mem hi
          have hA : gvR A (gt A i).key = (gt A i).vers := gvR_mem hsA hm
          unfold m_firthlaw14_MendTwice_b1
          simp only
          rw [e_Get, Option.bind_some, e_r5Lacks (gvR_ok hokN _) (hokA _ hm).vers, Option.bind_some]
          cases hk : r5Lacks (gvR N (gt A i).key) (gt A i).vers with
          | false => rw [cond_false]; exact hf2 () trivial
          | true =>
            rw [cond_true, e_Get, Option.bind_some]
            obtain ⟨p, hp1, hp2⟩ := e_plain (hplen (gt A i).key)
            rw [hA] at hp1
            rw [hp1, gcall_s, Option.bind_some]
            cases p with
            | false => exact hf2 () trivial
            | true =>
              have := hnl _ (hp2 rfl)
              rw [hA, hk] at this; cases this
    · rw [e_Held_t hok (by rw [lim_v]; omega) hr, Option.bind_some, e_Held_f hokt (by rw [lim_v]; omega) hrt, Option.bind_some]; rfl
  · rw [e_Held_f hok (by rw [lim_v]; omega) hr, Option.bind_some]
    rcases all_or theirs with hrt | hrt
    · rw [e_Held_t hokt (by rw [lim_v]; omega) hrt, Option.bind_some]; rfl
    · rw [e_Held_f hokt (by rw [lim_v]; omega) hrt, Option.bind_some]; rfl
theorem p_firthlaw14_MendTwice {Γ : Gh} {A : Option Addr} {c : Nat} {own : List Rec} (hs : Sl recT Γ A own) (hc : own.length ≤ c) {A3 : Option Addr} {c3 : Nat} {theirs : List Rec} (hs3 : Sl recT Γ A3 theirs) (hc3 : theirs.length ≤ c3) (m1 : bkL Rec.bk own ≤ 1048576) (m3 : bkL Rec.bk theirs ≤ 1048576) :
    m_firthlaw14_MendTwice own theirs = some true := twice_law (sl_recOk hs) (recs_len m1) (sl_recOk hs3) (recs_len m3)
end Fw
end Go.Proofs.YtbidmceookkapaaGreat
