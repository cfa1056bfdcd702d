/- Lists of structs of which each has a map of its own. No condition. -/
import Derived.Test.YtogmioecalmalaaGreatK39
namespace Go.Proofs.YtogmioecalmalaaGreat
namespace Fw
set_option linter.unusedVariables false
set_option linter.unusedSimpArgs false
set_option linter.unusedSectionVars false
open Go.RowKit Go.MapKept
structure EM (M D κ α : Type) where
 mkd : M → Nat → D
 mp : M → List (κ × α)
 up : M → List (κ × α) → M
 mk_up : ∀ x l g, mkd (up x l) g = mkd x g
 mp_up : ∀ x l, mp (up x l) = l
abbrev MGR (M : Type) := M × Nat × Rowb
section
variable {P : Program} {k : TypeId} {M D κ α : Type} [DecidableEq κ] [Inhabited M] [Inhabited D]
abbrev dsof (E : EM M D κ α) (ts : List (MGR M)) : List D := ts.map fun t => E.mkd t.1 t.2.1
abbrev rsof (ts : List (MGR M)) : Rowb := (ts.map fun t => t.2.2).flatten
structure LM (E : EM M D κ α) (T : Ty D) (K : KeyT P k κ) (V : Tv α) (Γ : Gh) (e : TypeId) (row : Rowb) (A : Option Addr) (c : Nat) (xs : List M) : Prop where
 is : ∃ (ts : List (MGR M)) (rowL jk : Rowb), OwnV T Γ e rowL A c (dsof E ts) ∧ row = rowL ++ (rsof ts ++ jk) ∧ (∀ t ∈ ts, MapO K V Γ t.2.2 t.2.1 (E.mp t.1)) ∧ xs = ts.map (·.1)
variable {E : EM M D κ α} {T : Ty D} {K : KeyT P k κ} {V : Tv α} {Γ Δ : Gh} {e : TypeId} {row : Rowb} {A : Option Addr} {c : Nat} {xs : List M}
theorem LM.mono (h : LM E T K V Γ e row A c xs) (hs : Γ.le Δ) : LM E T K V Δ e row A c xs := by
 obtain ⟨ts, rowL, jk, h1, h2, h3, h4⟩ := h.is
 exact ⟨⟨ts, rowL, jk, h1.mono hs, h2, fun t ht => (h3 t ht).mono hs, h4⟩⟩
theorem LM.nil (E : EM M D κ α) (T : Ty D) (K : KeyT P k κ) (V : Tv α) (Γ : Gh) (e : TypeId) : LM E T K V Γ e [] none 0 [] := ⟨⟨[], [], [], OwnV.nil T Γ e, rfl, (fun t ht => by simp at ht), rfl⟩⟩
theorem LM.le (h : LM E T K V Γ e row A c xs) : xs.length ≤ lim := by
 obtain ⟨ts, rowL, jk, h1, h2, h3, rfl⟩ := h.is
 simpa using h1.le
theorem LM.capz (h : LM E T K V Γ e row A c xs) : xs.length ≤ c := by
 obtain ⟨ts, rowL, jk, h1, h2, h3, rfl⟩ := h.is
 simpa using h1.capz
theorem LM.some_ (h : LM E T K V Γ e row A c xs) {i : Nat} (hi : i < xs.length) : A.isSome = true := by
 obtain ⟨ts, rowL, jk, h1, h2, h3, rfl⟩ := h.is
 exact h1.some_ (k := i) (by simpa using hi)
theorem LM.part (h : LM E T K V Γ e row A c xs) {i : Nat} (hi : i < xs.length) : ∃ g rowL rA r rB cs, row = rA ++ (r ++ rB) ∧ T.rd Γ cs (E.mkd (gt xs i) g) ∧ wB rowL A (i * T.n) cs ∧ (∀ p ∈ rowL, p ∈ rA) ∧ MapO K V Γ r g (E.mp (gt xs i)) ∧
  ∀ Δ r' l, Γ.le Δ → MapO K V Δ r' g l → LM E T K V Δ e (rA ++ (r' ++ rB)) A c (xs.set i (E.up (gt xs i) l)) := by
 obtain ⟨ts, rowL, jk, h1, h2, h3, rfl⟩ := h.is
 have hi2 : i < ts.length := by simpa using hi
 haveI : Inhabited (MGR M) := ⟨(default, 0, [])⟩
 have hx : gt (ts.map (·.1)) i = ts[i].1 := by rw [cm hi]; simp
 obtain ⟨cs, h5, h6⟩ := h1.get (i := i) (by simpa using hi2)
 have hd : gt (dsof E ts) i = E.mkd ts[i].1 ts[i].2.1 := by rw [cm (by simpa using hi2)]; simp [dsof]
 have hsp : ts = ts.take i ++ ts[i] :: ts.drop (i + 1) := by rw [List.getElem_cons_drop, List.take_append_drop]
 have hrs : rsof ts = rsof (ts.take i) ++ (ts[i].2.2 ++ rsof (ts.drop (i + 1))) := by
  have h9 := congrArg rsof hsp
  rw [h9]
  unfold rsof
  rw [List.map_append, List.flatten_append, List.map_cons, List.flatten_cons]
 rw [hx]
 rw [hd] at h5
 refine ⟨ts[i].2.1, rowL, rowL ++ rsof (ts.take i), ts[i].2.2, rsof (ts.drop (i + 1)) ++ jk, cs, by rw [h2, hrs]; simp, h5, h6, fun p hp => List.mem_append.2 (.inl hp), h3 _ (List.getElem_mem hi2), fun Δ r' l hs hm => ?_⟩
 have hset : ts.set i (E.up ts[i].1 l, ts[i].2.1, r') = ts.take i ++ (E.up ts[i].1 l, ts[i].2.1, r') :: ts.drop (i + 1) := List.set_eq_take_append_cons_drop.trans (by rw [if_pos hi2])
 refine ⟨⟨ts.set i (E.up ts[i].1 l, ts[i].2.1, r'), rowL, jk, ?_, ?_, ?_, ?_⟩⟩
 ·have : dsof E (ts.set i (E.up ts[i].1 l, ts[i].2.1, r')) = dsof E ts := by
   apply List.ext_getElem
   ·simp [dsof]
   ·intro j hj1 hj2
    simp only [dsof, List.getElem_map, List.getElem_set]
    split
    ·rename_i hij; subst hij; exact E.mk_up _ _ _
    ·rfl
  rw [this]; exact h1.mono hs
 ·rw [hset]; unfold rsof; rw [List.map_append, List.flatten_append, List.map_cons, List.flatten_cons]; simp
 ·intro t ht
  rcases List.mem_or_eq_of_mem_set ht with ht | rfl
  ·exact (h3 t ht).mono hs
  ·show MapO K V Δ r' _ (E.mp (E.up _ l)); rw [E.mp_up]; exact hm
 ·apply List.ext_getElem
  ·simp
  ·intro j hj1 hj2
   simp only [List.getElem_map, List.getElem_set]
   split <;> rfl
theorem ve {a b : List (MGR M)} (h : a.Perm b) : (rsof a).Perm (rsof b) := (h.map _).flatten
theorem LM.keep {ts us vs : List (MGR M)} {rowL jk : Rowb} (h2 : OwnV T Γ e rowL A c (dsof E us)) (hp : (us ++ vs).Perm ts) (h3 : ∀ t ∈ ts, MapO K V Γ t.2.2 t.2.1 (E.mp t.1)) :
  ∃ row' : Rowb, row'.Perm (rowL ++ (rsof ts ++ jk)) ∧ LM E T K V Γ e row' A c (us.map (·.1)) := by
 refine ⟨rowL ++ (rsof us ++ (rsof vs ++ jk)), ?_, ⟨us, rowL, rsof vs ++ jk, h2, rfl, fun t ht => h3 t (hp.mem_iff.1 (List.mem_append.2 (.inl ht))), rfl⟩⟩
 refine List.Perm.append_left _ ?_
 rw [← List.append_assoc]
 refine List.Perm.append_right _ ?_
 have : rsof us ++ rsof vs = rsof (us ++ vs) := by simp [rsof]
 rw [this]
 exact ve hp
theorem LM.cut_from (h : LM E T K V Γ e row A c xs) {lo : Nat} (h1 : lo ≤ xs.length) : ∃ row' : Rowb, row'.Perm row ∧ LM E T K V Γ e row' (if c = lo then A else A.map (·.add (lo * T.n))) (c - lo) (xs.drop lo) := by
 obtain ⟨ts, rowL, jk, h2, h3, h4, rfl⟩ := h.is
 have h7 := h2.cut_from (lo := lo) (by simpa using h1)
 have h8 : (dsof E ts).drop lo = dsof E (ts.drop lo) := by simp [dsof, List.map_drop]
 rw [h8] at h7
 obtain ⟨row', h9, h10⟩ := LM.keep (jk := jk) h7 (vs := ts.take lo) (ts := ts) (by
  have := List.perm_append_comm (l₁ := ts.drop lo) (l₂ := ts.take lo)
  rwa [List.take_append_drop] at this) h4
 rw [h3]
 exact ⟨row', h9, by rw [← List.map_drop]; exact h10⟩
end
section
variable {P : Program} {N : FN} {Q : Exit → Env → World → Prop} {σ : Env} {o : Oper} {F : Fm} {Γ : Gh} {L : List Rowb} {ops : Array Oper} {rest : List Oper} {k t e : TypeId} {M D κ α : Type} [DecidableEq κ] [Inhabited M] [Inhabited D]
 {E : EM M D κ α} {T : Ty D} {K : KeyT P k κ} {V : Tv α} {row r2 : Rowb} {A : Option Addr} {c g : Nat} {xs : List M}
end
end Fw
end Go.Proofs.YtogmioecalmalaaGreat
