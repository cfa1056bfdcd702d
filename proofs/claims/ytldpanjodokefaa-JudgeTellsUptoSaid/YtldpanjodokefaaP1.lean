/- Sets of dots, rising; what the program's joining of sets comes to. No condition. -/
import Derived.Test.YtldpanjodokefaaM
namespace Go.Proofs.Ytldpanjodokefaa
namespace Fw
set_option linter.unusedVariables false
set_option linter.unusedSimpArgs false
set_option linter.unusedSectionVars false
open Go.RowKit
abbrev DS := List (Dot × Unit)
abbrev kl := kl27
def kys (s : DS) : List Dot := s.map (·.1)
theorem kl_irr (a : Dot) : kl a a = false := by simp [kl, kl27]
theorem kl_trans {a b c : Dot} (h : kl a b = true) (h' : kl b c = true) : kl a c = true := by
  simp only [kl, kl27, Bool.or_eq_true, Bool.and_eq_true, decide_eq_true_eq] at *; omega
theorem dot_ext {a b : Dot} (h : a.s = b.s) (h' : a.n = b.n) : a = b := by cases a; cases b; simp_all
theorem kl_tri (a b : Dot) : kl a b = true ∨ a = b ∨ kl b a = true := by
  simp only [kl, kl27, Bool.or_eq_true, Bool.and_eq_true, decide_eq_true_eq]
  by_cases h : a.s = b.s
  · by_cases h2 : a.n = b.n
    · exact .inr (.inl (dot_ext h h2))
    · omega
  · omega
theorem kl_asymm {a b : Dot} (h : kl a b = true) : kl b a = false := by
  cases hb : kl b a with
  | false => rfl
  | true => have := kl_trans h hb; rw [kl_irr] at this; cases this
def CL (l : List Dot) : Prop := l.Pairwise (fun a b => kl a b = true)
def CS (s : DS) : Prop := CL (kys s)
theorem CL.nodup {l : List Dot} (h : CL l) : l.Nodup := List.Pairwise.imp (fun {a b} hab e => by subst e; rw [kl_irr] at hab; cases hab) h
theorem CL.ext : ∀ {l m : List Dot}, CL l → CL m → (∀ x, x ∈ l ↔ x ∈ m) → l = m
  | [], [], _, _, _ => rfl
  | [], b :: m, _, _, h => by have := (h b).2 List.mem_cons_self; cases this
  | a :: l, [], _, _, h => by have := (h a).1 List.mem_cons_self; cases this
  | a :: l, b :: m, h1, h2, h => by
    obtain ⟨h3, h4⟩ := List.pairwise_cons.1 h1
    obtain ⟨h5, h6⟩ := List.pairwise_cons.1 h2
    have hab : a = b := by
      rcases List.mem_cons.1 ((h a).1 List.mem_cons_self) with e | e
      · exact e
      · rcases List.mem_cons.1 ((h b).2 List.mem_cons_self) with e2 | e2
        · exact e2.symm
        · have h7 := kl_trans (h3 b e2) (h5 a e)
          rw [kl_irr] at h7; cases h7
    subst hab
    rw [CL.ext h4 h6 fun x => ?_]
    have hx := h x
    simp only [List.mem_cons] at hx
    constructor
    · intro hm
      rcases hx.1 (.inr hm) with e | e
      · subst e; have := h3 x hm; rw [kl_irr] at this; cases this
      · exact e
    · intro hm
      rcases hx.2 (.inr hm) with e | e
      · subst e; have := h5 x hm; rw [kl_irr] at this; cases this
      · exact e
theorem kys_inj : ∀ {s t : DS}, kys s = kys t → s = t
  | [], [], _ => rfl
  | [], _ :: _, h => by cases h
  | _ :: _, [], h => by cases h
  | (a, ()) :: s, (b, ()) :: t, h => by
    simp only [kys, List.map_cons, List.cons.injEq] at h
    rw [h.1, kys_inj (s := s) (t := t) h.2]
theorem CS.ext {s t : DS} (h1 : CS s) (h2 : CS t) (h : ∀ x, x ∈ kys s ↔ x ∈ kys t) : s = t := kys_inj (CL.ext h1 h2 h)
theorem mget_kys {x : Dot} {s : DS} : (mget x s).isSome = true ↔ x ∈ kys s := by
  cases h : mget x s with
  | none => simp only [Option.isSome_none, Bool.false_eq_true, false_iff]; exact mget_none.1 h
  | some u => simp only [Option.isSome_some, true_iff]; exact List.mem_map.2 ⟨_, mget_mem h, rfl⟩
theorem mget_kys' {x : Dot} {s : DS} : (mget x s).isSome = decide (x ∈ kys s) := by
  rw [Bool.eq_iff_iff, mget_kys, decide_eq_true_eq]
theorem mem_sins {x y : Dot} : ∀ {s : DS}, y ∈ kys (sins kl x s) ↔ y = x ∨ y ∈ kys s := by
  intro s
  have h := (sins_perm kl x s).map (·.1)
  unfold kys
  rw [h.mem_iff]; simp
theorem sins_cs {x : Dot} : ∀ {s : DS}, CS s → x ∉ kys s → CS (sins kl x s)
  | [], _, _ => by simp [sins, CS, CL, kys]
  | p :: s, h, hx => by
    simp only [CS, CL, kys, List.map_cons, List.pairwise_cons] at h
    simp only [kys, List.map_cons, List.mem_cons, not_or] at hx
    unfold sins
    split
    · rename_i hl
      simp only [CS, CL, kys, List.map_cons, List.pairwise_cons, List.mem_cons]
      refine ⟨?_, h.1, h.2⟩
      rintro y (e | e)
      · rw [e]; exact hl
      · exact kl_trans hl (h.1 y e)
    · rename_i hl
      simp only [CS, CL, kys, List.map_cons, List.pairwise_cons]
      refine ⟨fun y hy => ?_, sins_cs h.2 hx.2⟩
      rcases mem_sins.1 (show y ∈ kys (sins kl x s) from hy) with e | e
      · subst e
        rcases kl_tri y p.1 with q | q | q
        · exact absurd q hl
        · exact absurd q hx.1
        · exact q
      · exact h.1 y e
theorem mem_sput {x y : Dot} {s : DS} : y ∈ kys (sput kl x s) ↔ y = x ∨ y ∈ kys s := by
  unfold sput
  split
  · rename_i h
    have := mget_kys.1 h
    constructor
    · exact .inr
    · rintro (e | e)
      · rw [e]; exact this
      · exact e
  · exact mem_sins
theorem sput_cs {x : Dot} {s : DS} (h : CS s) : CS (sput kl x s) := by
  unfold sput
  split
  · exact h
  · rename_i hn
    exact sins_cs h (fun hm => hn (mget_kys.2 hm))
/-- a set with others laid into it -/
def unl (s : DS) (l : List Dot) : DS := l.foldl (fun s x => sput kl x s) s
theorem mem_unl {y : Dot} : ∀ {l : List Dot} {s : DS}, y ∈ kys (unl s l) ↔ y ∈ kys s ∨ y ∈ l
  | [], s => by simp [unl]
  | x :: l, s => by
    show y ∈ kys (unl (sput kl x s) l) ↔ _
    rw [mem_unl, mem_sput, List.mem_cons]
    constructor
    · rintro ((h | h) | h)
      · exact .inr (.inl h)
      · exact .inl h
      · exact .inr (.inr h)
    · rintro (h | h | h)
      · exact .inl (.inr h)
      · exact .inl (.inl h)
      · exact .inr h
theorem unl_cs : ∀ {l : List Dot} {s : DS}, CS s → CS (unl s l)
  | [], _, h => h
  | x :: l, s, h => by show CS (unl (sput kl x s) l); exact unl_cs (sput_cs h)
def un (s t : DS) : DS := unl s (kys t)
theorem mem_un {y : Dot} {s t : DS} : y ∈ kys (un s t) ↔ y ∈ kys s ∨ y ∈ kys t := mem_unl
theorem un_cs {s t : DS} (h : CS s) : CS (un s t) := unl_cs h
theorem cs_nil : CS [] := by simp [CS, CL, kys]
theorem nodup_len {α : Type} [DecidableEq α] : ∀ {l m : List α}, l.Nodup → (∀ x ∈ l, x ∈ m) → l.length ≤ m.length
  | [], _, _, _ => Nat.zero_le _
  | x :: l, m, h, hs => by
    rw [List.nodup_cons] at h
    have h1 : l.length ≤ (m.erase x).length := nodup_len h.2 fun y hy => (List.mem_erase_of_ne (fun e => h.1 (by rw [← e]; exact hy))).2 (hs y (List.mem_cons_of_mem _ hy))
    rw [List.length_erase_of_mem (hs x List.mem_cons_self)] at h1
    have := List.length_pos_of_mem (hs x List.mem_cons_self)
    rw [List.length_cons]; omega
theorem un_len {s t : DS} (h : CS s) : s.length ≤ (un s t).length ∧ ((un s t).length ≤ s.length → un s t = s) := by
  have h1 : (kys s).Nodup := CL.nodup h
  have h2 : (kys (un s t)).Nodup := CL.nodup (un_cs h)
  have hsub : kys s ⊆ kys (un s t) := fun y hy => mem_un.2 (.inl hy)
  have e1 : (kys s).length = s.length := by simp [kys]
  have e2 : (kys (un s t)).length = (un s t).length := by simp [kys]
  refine ⟨by rw [← e1, ← e2]; exact nodup_len h1 hsub, fun hl => ?_⟩
  refine CS.ext (un_cs h) h fun y => ⟨fun hy => ?_, fun hy => hsub hy⟩
  apply Classical.byContradiction
  intro hn
  have h3 : (y :: kys s).length ≤ (kys (un s t)).length := nodup_len (List.nodup_cons.2 ⟨hn, h1⟩) (fun z hz => by
    rcases List.mem_cons.1 hz with e | e
    · rw [e]; exact hy
    · exact hsub e)
  rw [List.length_cons] at h3
  omega
/-! ### the program's joining -/
theorem e_scopy {d x : DS} (h : CS d) : m_maps_Copy_judge_dots_judge_dots_api_Dot_bool d x = some (un d x) := by
  unfold m_maps_Copy_judge_dots_judge_dots_api_Dot_bool
  refine anyX_of fun l hl => ?_
  have key : ∀ (l : DS) (d : DS), runX m_maps_Copy_judge_dots_judge_dots_api_Dot_bool_b1 (fun m7 => some m7) l d = some (unl d (kys l)) := by
    intro l
    induction l with
    | nil => intro d; rfl
    | cons p l ih => intro d; exact ih (sput kl p.1 d)
  rw [key]
  refine congrArg some (CS.ext (unl_cs h) (unl_cs h) fun y => ?_)
  rw [mem_unl, mem_un, show y ∈ kys l ↔ y ∈ kys x from (hl.map (·.1)).mem_iff]
theorem e_join {d x : DS} (h : CS d) : m_judge_dots_join d x = some (un d x, decide (d.length < (un d x).length)) := by
  unfold m_judge_dots_join
  rw [e_scopy h]
  simp only [Option.bind_some]
  congr 2
  rw [Bool.eq_iff_iff, decide_eq_true_eq, decide_eq_true_eq]; omega
theorem e_put {t : Ojudge_trial} {s : DS} {d : Dot} (h : CS s) : m_judge_trial_put_l1 t s d = some (un (sput kl d s) ((mget d t.behind).getD [])) := by
  unfold m_judge_trial_put_l1
  rw [e_join (sput_cs h)]; rfl
/-! ### loops -/
theorem forI_nil {α S R : Type} {b : (S → Option R) → Nat → α → S → Option R} {k : S → Option R} {i : Nat} {s : S} : forI b k i [] s = k s := rfl
theorem forI_cons {α S R : Type} {b : (S → Option R) → Nat → α → S → Option R} {k : S → Option R} {i : Nat} {s : S} {x : α} {l : List α} : forI b k i (x :: l) s = b (forI b k (i + 1) l) i x s := rfl
theorem loopN_s {S R : Type} {b : (S → Option R) → S → Option R} {n : Nat} {s : S} : loopN b (n + 1) s = b (loopN b n) s := rfl
theorem w64_id {x : Int} (h1 : -9223372036854775808 ≤ x) (h2 : x < 9223372036854775808) : w64 x = x := by unfold w64; omega
end Fw
end Go.Proofs.Ytldpanjodokefaa
