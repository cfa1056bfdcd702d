/- Loops; maps as lists of pairs; lists of files in the order of their names. No condition. -/
import Derived.Test.YtichdipjedoijaaM
namespace Go.Proofs.Ytichdipjedoijaa
namespace Fw
set_option linter.unusedVariables false
set_option linter.unusedSimpArgs false
set_option linter.unusedSectionVars false

/-! ### loops -/
section
variable {α S R : Type} [Inhabited α]
theorem forI_inv {body : (S → Option R) → Nat → α → S → Option R} {k : S → Option R} {l : List α} (T : Nat → S → Option R) (I : Nat → S → Prop) (hend : ∀ s, I l.length s → k s = T l.length s)
    (hstep : ∀ f i s, i < l.length → I i s → (∀ s', I (i + 1) s' → f s' = T (i + 1) s') → body f i (gt l i) s = T i s) {s : S} (h0 : I 0 s) : forI body k 0 l s = T 0 s := by
  have key : ∀ m i s, l.length - i = m → i ≤ l.length → I i s → forI body k i (l.drop i) s = T i s := by
    intro m
    induction m with
    | zero =>
      intro i s hm hi hI
      have : i = l.length := by omega
      subst this
      rw [List.drop_of_length_le (Nat.le_refl _)]
      exact hend s hI
    | succ m ih =>
      intro i s hm hi hI
      rw [drop_gt (by omega)]
      exact hstep _ i s (by omega) hI fun s' h' => ih (i + 1) s' (by omega) (by omega) h'
  exact key _ 0 s rfl (Nat.zero_le _) h0
/-- a loop that always goes on, from state to state -/
theorem forI_run {body : (S → Option R) → Nat → α → S → Option R} {k : S → Option R} {l : List α} {r : Option R} (I : Nat → S → Prop)
    (hend : ∀ s, I l.length s → k s = r) (hstep : ∀ f i s, i < l.length → I i s → (∀ s', I (i + 1) s' → f s' = r) → body f i (gt l i) s = r) {s : S} (h0 : I 0 s) : forI body k 0 l s = r :=
  forI_inv (fun _ _ => r) I hend hstep h0
theorem forU_run {body : (S → Option R) → Nat → S → Option R} {k : S → Option R} {n : Nat} {r : Option R} (I : Nat → S → Prop)
    (hend : ∀ s, I n s → k s = r) (hstep : ∀ f i s, i < n → I i s → (∀ s', I (i + 1) s' → f s' = r) → body f i s = r) {s : S} (h0 : I 0 s) : forU body k n 0 s = r := by
  have key : ∀ m i s, i + m = n → I i s → forU body k m i s = r := by
    intro m
    induction m with
    | zero =>
      intro i s hm hI
      obtain rfl : i = n := by omega
      exact hend s hI
    | succ m ih =>
      intro i s hm hI
      exact hstep _ i s (by omega) hI fun s' h' => ih (i + 1) s' (by omega) h'
  exact key n 0 s (by omega) h0
/-- a loop whose rounds are steps of a fold -/
theorem forI_fold {body : (S → Option R) → Nat → α → S → Option R} {k : S → Option R} (g : S → α → S) : ∀ (l : List α) (i : Nat) (s : S), (∀ f i x s, x ∈ l → body f i x s = f (g s x)) → forI body k i l s = k (l.foldl g s)
  | [], i, s, _ => rfl
  | x :: l, i, s, h => by
    rw [forI, h _ _ _ _ List.mem_cons_self]
    exact forI_fold g l (i + 1) (g s x) fun f i y s hy => h f i y s (List.mem_cons_of_mem _ hy)
end
theorem gcall_s {R : Type} [Inhabited R] (g : Bool) (v : R) : gcall g (some v) = some (bif g then v else default) := by cases g <;> rfl
theorem chk_t {R : Type} {c : Bool} {k : Option R} (h : c = true) : chk c k = k := by rw [h]; rfl
theorem bif_t {R : Type} {c : Bool} {x y : R} (h : c = true) : (bif c then x else y) = x := by rw [h]; rfl
theorem bif_f {R : Type} {c : Bool} {x y : R} (h : c = false) : (bif c then x else y) = y := by rw [h]; rfl

instance : LawfulBEq ByteArray where
  eq_of_beq {a b} h := by rw [bytes_beq] at h; exact of_decide_eq_true h
  rfl {a} := by rw [bytes_beq]; exact decide_eq_true rfl

/-! ### maps -/
section
variable {κ α : Type} [DecidableEq κ] {x y : κ} {v : α} {es : List (κ × α)}
/-- no key twice -/
def NK (es : List (κ × α)) : Prop := (es.map (·.1)).Nodup
theorem NK.nil : NK ([] : List (κ × α)) := by simp [NK]
theorem NK.cons {p : κ × α} : NK (p :: es) ↔ (∀ q ∈ es, q.1 ≠ p.1) ∧ NK es := by
  unfold NK
  rw [List.map_cons, List.nodup_cons]
  refine ⟨fun h => ⟨fun q hq e => h.1 (by rw [← e]; exact List.mem_map.2 ⟨q, hq, rfl⟩), h.2⟩, fun h => ⟨fun hm => ?_, h.2⟩⟩
  obtain ⟨q, hq, e⟩ := List.mem_map.1 hm
  exact h.1 q hq e
theorem mem_of_mget : ∀ {es : List (κ × α)}, mget x es = some v → (x, v) ∈ es
  | [], h => by cases h
  | p :: es, h => by
    unfold mget at h
    split at h
    · rename_i e; injection h with h; rw [e, ← h]; exact List.mem_cons_self
    · exact List.mem_cons_of_mem _ (mem_of_mget h)
theorem mget_of_mem : ∀ {es : List (κ × α)}, NK es → (x, v) ∈ es → mget x es = some v
  | p :: es, hn, h => by
    rw [NK.cons] at hn
    unfold mget
    rcases List.mem_cons.1 h with e | h
    · rw [← e]; simp
    · rw [if_neg (hn.1 _ h)]; exact mget_of_mem hn.2 h
theorem mget_isSome : (mget x es).isSome = true ↔ x ∈ es.map (·.1) := by
  induction es with
  | nil => simp [mget]
  | cons p es ih =>
    unfold mget
    split
    · rename_i h; simp [h]
    · rename_i h; rw [ih]; simp [h]
theorem mem_mput {p : κ × α} : ∀ {es : List (κ × α)}, p ∈ mput x v es → p = (x, v) ∨ p ∈ es
  | [], h => by simp only [mput, List.mem_singleton] at h; exact .inl h
  | q :: es, h => by
    unfold mput at h
    split at h
    · rcases List.mem_cons.1 h with h | h
      · exact .inl h
      · exact .inr (List.mem_cons_of_mem _ h)
    · rcases List.mem_cons.1 h with h | h
      · exact .inr (h ▸ List.mem_cons_self)
      · exact (mem_mput h).imp id (List.mem_cons_of_mem _)
theorem mem_mdel {p : κ × α} : ∀ {es : List (κ × α)}, p ∈ mdel x es → p ∈ es
  | [], h => by cases h
  | q :: es, h => by
    unfold mdel at h
    split at h
    · exact List.mem_cons_of_mem _ h
    · rcases List.mem_cons.1 h with h | h
      · exact h ▸ List.mem_cons_self
      · exact List.mem_cons_of_mem _ (mem_mdel h)
theorem NK.put : ∀ {es : List (κ × α)}, NK es → NK (mput x v es)
  | [], _ => by simp [NK, mput]
  | p :: es, h => by
    rw [NK.cons] at h
    unfold mput
    split
    · rename_i e; rw [NK.cons]; exact ⟨fun q hq => by rw [e]; exact h.1 q hq, h.2⟩
    · rename_i e
      rw [NK.cons]
      refine ⟨fun q hq => ?_, h.2.put⟩
      rcases mem_mput hq with rfl | hq
      · exact e
      · exact h.1 q hq
theorem NK.del : ∀ {es : List (κ × α)}, NK es → NK (mdel x es)
  | [], _ => by simp [NK, mdel]
  | p :: es, h => by
    rw [NK.cons] at h
    unfold mdel
    split
    · exact h.2
    · rw [NK.cons]; exact ⟨fun q hq => h.1 q (mem_mdel hq), h.2.del⟩
theorem mget_none (h : ∀ q ∈ es, q.1 ≠ x) : mget x es = none := by
  induction es with
  | nil => rfl
  | cons p es ih =>
    unfold mget
    rw [if_neg (fun e => h p List.mem_cons_self e.symm)]
    exact ih fun q hq => h q (List.mem_cons_of_mem _ hq)
theorem mget_mdel : ∀ {es : List (κ × α)}, NK es → mget y (mdel x es) = if y = x then none else mget y es
  | [], _ => by simp [mget, mdel]
  | p :: es, h => by
    rw [NK.cons] at h
    unfold mdel
    split
    · rename_i e
      by_cases hy : y = x
      · rw [if_pos hy, hy, e]; exact mget_none h.1
      · rw [if_neg hy, mget, if_neg (fun e2 => hy (e2.trans e.symm))]
    · rename_i e
      rw [mget, mget_mdel h.2]
      by_cases hy : y = p.1
      · rw [if_pos hy, if_neg (fun e2 => e (e2.symm.trans hy)), mget, if_pos hy]
      · rw [if_neg hy, mget, if_neg hy]
theorem len_mput : ∀ {es : List (κ × α)}, (mput x v es).length ≤ es.length + 1
  | [] => by simp [mput]
  | p :: es => by
    unfold mput
    split
    · simp
    · have := len_mput (es := es); simp only [List.length_cons]; omega
theorem len_mput_old (h : (mget x es).isSome = true) : (mput x v es).length = es.length := by
  induction es with
  | nil => cases h
  | cons p es ih =>
    unfold mget at h
    unfold mput
    split at h
    · rename_i e; rw [if_pos e]; rfl
    · rename_i e; rw [if_neg e]; simp [ih h]
theorem len_mdel : ∀ {es : List (κ × α)}, (mdel x es).length ≤ es.length
  | [] => by simp [mdel]
  | p :: es => by
    unfold mdel
    split
    · simp
    · have := len_mdel (es := es); simp only [List.length_cons]; omega
theorem len_mdel_old (h : (mget x es).isSome = true) : (mdel x es).length + 1 = es.length := by
  induction es with
  | nil => cases h
  | cons p es ih =>
    unfold mget at h
    unfold mdel
    split at h
    · rename_i e; rw [if_pos e]; rfl
    · rename_i e; rw [if_neg e]; simp [ih h]
end
/-- how many bytes the files of a map have -/
def sz (es : List (ByteArray × List UInt8)) : Nat := (es.map (fun p => p.2.length)).sum
section
variable {x : ByteArray} {v : List UInt8} {es : List (ByteArray × List UInt8)}
theorem sz_put : sz (mput x v es) + ((mget x es).getD []).length = sz es + v.length := by
  induction es with
  | nil => simp [sz, mput, mget]
  | cons p es ih =>
    unfold mput mget
    split
    · simp [sz]; omega
    · simp only [sz, List.map_cons, List.sum_cons] at ih ⊢; omega
theorem sz_del : sz (mdel x es) + ((mget x es).getD []).length = sz es := by
  induction es with
  | nil => simp [sz, mdel, mget]
  | cons p es ih =>
    unfold mdel mget
    split
    · simp [sz]; omega
    · simp only [sz, List.map_cons, List.sum_cons] at ih ⊢; omega
theorem sz_get : ((mget x es).getD []).length ≤ sz es := by have := sz_del (x := x) (es := es); omega
end

/-! ### files in order -/
abbrev Fl := Dfirthref07_File
def ky (f : Fl) : List UInt8 := f.name.data.toList
theorem ba_inj {a b : ByteArray} (h : a.data.toList = b.data.toList) : a = b := by
  rcases a with ⟨⟨a⟩⟩
  rcases b with ⟨⟨b⟩⟩
  simp only at h
  rw [h]
/-- in order, no name twice -/
def SF (l : List Fl) : Prop := l.Pairwise (fun a b => ky a < ky b)
theorem lt_irr (x : List UInt8) : ¬ x < x := List.lt_irrefl x
theorem lt_tr {x y z : List UInt8} (h : x < y) (h2 : y < z) : x < z := List.lt_trans h h2
theorem lt_as {x y : List UInt8} (h : x < y) : ¬ y < x := fun h2 => lt_irr x (lt_tr h h2)
theorem lt_tri {x y : List UInt8} (h : ¬ y < x) (hne : x ≠ y) : x < y := by
  rcases Classical.em (x < y) with h2 | h2
  · exact h2
  · exact absurd (List.le_antisymm (show x ≤ y from h) (show y ≤ x from h2)) hne
theorem sf_ext : ∀ {l l' : List Fl}, SF l → SF l' → (∀ f, f ∈ l ↔ f ∈ l') → l = l'
  | [], [], _, _, _ => rfl
  | [], b :: l', _, _, h => by have := (h b).2 List.mem_cons_self; cases this
  | a :: l, [], _, _, h => by have := (h a).1 List.mem_cons_self; cases this
  | a :: l, b :: l', h1, h2, h => by
    unfold SF at h1 h2
    rw [List.pairwise_cons] at h1 h2
    have e : a = b := by
      rcases List.mem_cons.1 ((h a).1 List.mem_cons_self) with e | ha
      · exact e
      · rcases List.mem_cons.1 ((h b).2 List.mem_cons_self) with e | hb
        · exact e.symm
        · exact absurd (h2.1 a ha) (lt_as (h1.1 b hb))
    subst e
    rw [sf_ext h1.2 h2.2 fun f => ?_]
    refine ⟨fun hf => ?_, fun hf => ?_⟩
    · rcases List.mem_cons.1 ((h f).1 (List.mem_cons_of_mem _ hf)) with e | hf2
      · subst e; exact absurd (h1.1 f hf) (lt_irr _)
      · exact hf2
    · rcases List.mem_cons.1 ((h f).2 (List.mem_cons_of_mem _ hf)) with e | hf2
      · subst e; exact absurd (h2.1 f hf) (lt_irr _)
      · exact hf2
/-- the files of a map, in order -/
def FM (es : List (ByteArray × List UInt8)) : List Fl := (skeys es).map fun k => ⟨k, (mget k es).getD []⟩
theorem mem_skeys {es : List (ByteArray × List UInt8)} {k : ByteArray} : k ∈ skeys es ↔ k ∈ es.map (·.1) := by
  unfold skeys
  simp only [List.mem_map, List.mem_mergeSort]
  constructor
  · rintro ⟨l, ⟨p, hp, rfl⟩, rfl⟩; exact ⟨p, hp, ba_inj (by simp)⟩
  · rintro ⟨p, hp, rfl⟩; exact ⟨_, ⟨p, hp, rfl⟩, ba_inj (by simp)⟩
theorem mem_FM {es : List (ByteArray × List UInt8)} {f : Fl} : f ∈ FM es ↔ mget f.name es = some f.data := by
  unfold FM
  simp only [List.mem_map, mem_skeys]
  constructor
  · rintro ⟨k, hk, rfl⟩
    have := mget_isSome.2 (List.mem_map.2 hk)
    obtain ⟨v, hv⟩ := Option.isSome_iff_exists.1 this
    simp [hv]
  · intro h
    refine ⟨f.name, List.mem_map.1 (mget_isSome.1 (by rw [h]; rfl)), ?_⟩
    rw [h]; rfl
theorem sf_FM {es : List (ByteArray × List UInt8)} (hn : NK es) : SF (FM es) := by
  unfold SF FM
  rw [List.pairwise_map]
  show (skeys es).Pairwise fun a b => a.data.toList < b.data.toList
  unfold skeys
  rw [List.pairwise_map]
  have hs := List.pairwise_mergeSort (le := fun x y : List UInt8 => decide (x ≤ y)) (fun a b c h1 h2 => by
    simp only [decide_eq_true_eq] at *; exact List.le_trans h1 h2) (fun a b => by
    simp only [Bool.or_eq_true, decide_eq_true_eq]; exact List.le_total a b) (es.map (fun p => p.1.data.toList))
  have hnd : ((es.map (fun p => p.1.data.toList)).mergeSort (fun x y => decide (x ≤ y))).Nodup := by
    rw [(List.mergeSort_perm _ _).nodup_iff, show (fun p : ByteArray × List UInt8 => p.1.data.toList) = ((fun b : ByteArray => b.data.toList) ∘ (·.1)) from rfl, ← List.map_map]
    exact List.Pairwise.map _ (fun a b h e => h (ba_inj e)) hn
  refine (hs.and hnd).imp fun {a b} h => ?_
  have h1 := of_decide_eq_true h.1
  exact lt_tri h1 h.2
theorem FM_ext {es : List (ByteArray × List UInt8)} {l : List Fl} (hn : NK es) (hl : SF l) (h : ∀ f, f ∈ l ↔ mget f.name es = some f.data) : l = FM es :=
  sf_ext hl (sf_FM hn) fun f => (h f).trans mem_FM.symm
end Fw
end Go.Proofs.Ytichdipjedoijaa
