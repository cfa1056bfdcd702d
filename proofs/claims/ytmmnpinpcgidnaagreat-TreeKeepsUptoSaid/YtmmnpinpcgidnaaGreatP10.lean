/- Trees: the records beneath a path. No condition. -/
import Derived.Test.YtmmnpinpcgidnaaGreatP9
namespace Go.Proofs.YtmmnpinpcgidnaaGreat
namespace Fw
set_option linter.unusedVariables false
set_option linter.unusedSimpArgs false
set_option linter.unusedSectionVars false

/-! ### the records beneath a path -/
theorem mem_skeys {β : Type} {es : List (ByteArray × β)} {k : ByteArray} : k ∈ skeys es ↔ k ∈ es.map (·.1) := by
  unfold skeys
  simp only [List.mem_map, List.mem_mergeSort]
  constructor
  · rintro ⟨l, ⟨p, hp, rfl⟩, rfl⟩; exact ⟨p, hp, ba_inj (by simp)⟩
  · rintro ⟨p, hp, rfl⟩; exact ⟨_, ⟨p, hp, rfl⟩, ba_inj (by simp)⟩
theorem skeys_srt {β : Type} {es : List (ByteArray × β)} (hn : (es.map (·.1)).Nodup) : (skeys es).Pairwise fun a b => a.data.toList < b.data.toList := by
  unfold skeys
  rw [List.pairwise_map]
  have hs := List.pairwise_mergeSort (le := fun x y : List UInt8 => decide (x ≤ y)) (fun a b c h1 h2 => by
    simp only [decide_eq_true_eq] at *; exact List.le_trans h1 h2) (fun a b => by
    simp only [Bool.or_eq_true, decide_eq_true_eq]; exact List.le_total a b) (es.map (fun p => p.1.data.toList))
  have hnd : ((es.map (fun p => p.1.data.toList)).mergeSort (fun x y => decide (x ≤ y))).Nodup := by
    rw [(List.mergeSort_perm _ _).nodup_iff, show (fun p : ByteArray × β => p.1.data.toList) = ((fun b : ByteArray => b.data.toList) ∘ (·.1)) from rfl, ← List.map_map]
    exact List.Pairwise.map _ (fun a b h e => h (ba_inj e)) hn
  exact (hs.and hnd).imp fun {a b} h => lt_tri (of_decide_eq_true h.1) h.2
theorem mem_copy : ∀ {es m : List (ByteArray × Rec)} {x : ByteArray × Rec}, (m.map (·.1)).Nodup → (es.map (·.1)).Nodup → ((es.foldl (fun m e => mput e.1 e.2 m) m).map (·.1)).Nodup ∧ (x ∈ es.foldl (fun m e => mput e.1 e.2 m) m ↔ x ∈ es ∨ (x ∈ m ∧ ∀ e ∈ es, e.1 ≠ x.1))
  | [], m, x, hm, _ => ⟨hm, by simp⟩
  | e :: es, m, x, hm, he => by
    rw [List.map_cons, List.nodup_cons] at he
    obtain ⟨h1, h2⟩ := mem_copy (es := es) (m := mput e.1 e.2 m) (x := x) (mput_nodup hm) he.2
    refine ⟨h1, ?_⟩
    rw [List.foldl_cons, h2, mem_mput hm]
    simp only [List.mem_cons]
    constructor
    · rintro (h | ⟨h | h, h3⟩)
      · exact .inl (.inr h)
      · exact .inl (.inl h)
      · exact .inr ⟨h.1, fun q hq => by
          rcases hq with rfl | hq
          · exact fun e2 => h.2 e2.symm
          · exact h3 q hq⟩
    · rintro ((h | h) | ⟨h, h3⟩)
      · subst h
        exact .inr ⟨.inl rfl, fun q hq e2 => he.1 (by rw [← e2]; exact List.mem_map.2 ⟨q, hq, rfl⟩)⟩
      · exact .inl h
      · exact .inr ⟨.inr ⟨h, fun e2 => h3 e (.inl rfl) e2.symm⟩, fun q hq => h3 q (.inr hq)⟩
theorem e_Copy (m es : List (ByteArray × Rec)) : m_maps_Copy_map_string_api_Rec_map_string_api_Rec_string_api_Rec m es = some (es.foldl (fun m e => mput e.1 e.2 m) m) := by
  unfold m_maps_Copy_map_string_api_Rec_map_string_api_Rec_string_api_Rec
  have : ∀ (es m : List (ByteArray × Rec)), fldO m_maps_Copy_map_string_api_Rec_map_string_api_Rec_string_api_Rec_b1 m es = some (es.foldl (fun m e => mput e.1 e.2 m) m) := by
    intro es
    induction es with
    | nil => intro m; rfl
    | cons e es ih => intro m; exact ih _
  rw [this]; rfl
theorem e_CopyN (m : List (ByteArray × Rec)) : m_maps_Copy_map_string_api_Rec_map_string_api_Rec_string_api_Rec_nil m = some () := by
  unfold m_maps_Copy_map_string_api_Rec_map_string_api_Rec_string_api_Rec_nil
  rw [show FU = 18446744073709551615 + 1 from rfl]; rfl
theorem inP_pq {path : List Int} (ho : okP path = true) {p q : Nat} {x : Rec} (hp : pa x.key = p) (hq : pb x.key = q) :
    inP path x = !(((decide (0 < ((path.length : Nat) : Int))) && ((gt path 0) != ((p : Nat) : Int))) || ((decide (1 < ((path.length : Nat) : Int))) && ((gt path 1) != ((q : Nat) : Int)))) := by
  subst hp hq
  match path with
  | [] => rfl
  | [a] =>
    show (a == _) = !(((decide _) && (a != _)) || _)
    rw [show decide (0 < (([a].length : Nat) : Int)) = true from rfl, show decide (1 < (([a].length : Nat) : Int)) = false from rfl]
    simp [bne]
  | [a, b] =>
    show ((a == _) && (b == _)) = !(((decide _) && (a != _)) || ((decide _) && (b != _)))
    rw [show decide (0 < (([a, b].length : Nat) : Int)) = true from rfl, show decide (1 < (([a, b].length : Nat) : Int)) = true from rfl]
    simp [bne]
  | a :: b :: c :: l => simp [okP] at ho
theorem imp_len (path : List Int) (g : Bool) (n : Nat) : imp (g && (decide ((n : Int) < ((path.length : Nat) : Int)))) (decide (n < path.length)) = true := by
  unfold imp
  cases h : decide (n < path.length) with
  | true => cases g && _ <;> rfl
  | false =>
    have : decide ((n : Int) < ((path.length : Nat) : Int)) = false := decide_eq_false (by have := of_decide_eq_false h; omega)
    rw [this, Bool.and_false]; rfl
/-- the map that is laid together -/
structure MInv (all : List Rec) (path : List Int) (n : Nat) (m : List (ByteArray × Rec)) : Prop where
  nk : (m.map (·.1)).Nodup
  mem : ∀ x, x ∈ m ↔ (x.1 = x.2.key ∧ x.2 ∈ all ∧ inP path x.2 = true ∧ ix x.2.key < n)
theorem MInv.step {o : OTree} {all : List Rec} {path : List Int} {n : Nat} {m : List (ByteArray × Rec)} (hG : Good o all) (hn : n < 256) (h : MInv all path n m) (hall : ∀ x ∈ all, ix x.key = n → inP path x = true) : MInv all path (n + 1) ((leafAt o n).foldl (fun m e => mput e.1 e.2 m) m) := by
  refine ⟨(mem_copy (x := default) h.nk (hG.nk n hn)).1, fun x => ?_⟩
  rw [(mem_copy (x := x) h.nk (hG.nk n hn)).2, h.mem x, hG.mem n hn x]
  constructor
  · rintro (⟨h1, h2, h3⟩ | ⟨⟨h1, h2, h3, h4⟩, _⟩)
    · exact ⟨h1, h2, hall _ h2 h3, by omega⟩
    · exact ⟨h1, h2, h3, by omega⟩
  · rintro ⟨h1, h2, h3, h4⟩
    by_cases e : ix x.2.key = n
    · exact .inl ⟨h1, h2, e⟩
    · refine .inr ⟨⟨h1, h2, h3, by omega⟩, fun q hq e2 => ?_⟩
      obtain ⟨h5, h6, h7⟩ := (hG.mem n hn q).1 hq
      have : q.2 = x.2 := sr_key hG.srt h6 h2 (by rw [← h5, e2, h1])
      rw [this] at h7; exact e h7
theorem MInv.skip {all : List Rec} {path : List Int} {n : Nat} {m : List (ByteArray × Rec)} (h : MInv all path n m) (hall : ∀ x ∈ all, ix x.key = n → inP path x = false) : MInv all path (n + 1) m := by
  refine ⟨h.nk, fun x => ?_⟩
  rw [h.mem x]
  constructor
  · rintro ⟨h1, h2, h3, h4⟩; exact ⟨h1, h2, h3, by omega⟩
  · rintro ⟨h1, h2, h3, h4⟩
    refine ⟨h1, h2, h3, ?_⟩
    by_cases e : ix x.2.key = n
    · rw [hall _ h2 e] at h3; cases h3
    · omega
theorem nodup_len {α : Type} [DecidableEq α] : ∀ {m l : List α}, m.Nodup → (∀ k ∈ m, k ∈ l) → m.length ≤ l.length
  | [], l, _, _ => by simp
  | a :: m, l, hn, h => by
    rw [List.nodup_cons] at hn
    have ha : a ∈ l := h a List.mem_cons_self
    have h1 := nodup_len (m := m) (l := l.erase a) hn.2 (fun k hk => (List.mem_erase_of_ne (fun e => hn.1 (by rw [← e]; exact hk))).2 (h k (List.mem_cons_of_mem _ hk)))
    rw [List.length_erase_of_mem ha] at h1
    have : 0 < l.length := List.length_pos_of_mem ha
    simp only [List.length_cons]; omega
theorem imp_len0 (path : List Int) : imp (decide ((0 : Int) < ((path.length : Nat) : Int))) (decide (0 < path.length)) = true := by
  have := imp_len path true 0
  rw [Bool.true_and] at this
  exact this
theorem imp_len1 (path : List Int) (g : Bool) : imp (g && (decide ((1 : Int) < ((path.length : Nat) : Int)))) (decide (1 < path.length)) = true := imp_len path g 1
theorem e_Recs {o : OTree} {all : List Rec} (hG : Good o all) (hn : all.length + 2 ≤ lim) (path : List Int) : m_tree_Tree_Recs o path = some (bif okP path then all.filter (inP path) else []) := by
  unfold m_tree_Tree_Recs
  obtain ⟨z, hz, hz2, _⟩ := e_at path
  rw [hz, Option.bind_some, hz2]
  cases ho : okP path with
  | false => rfl
  | true =>
    simp only [Bool.not_true, cond_false, cond_true]
    refine forU_inv (fun _ _ => some (all.filter (inP path))) (fun p m => MInv all path (p * 16) m) (fun m hI => ?_) (fun f p m hp hI hf => ?_) ⟨by simp, fun x => by simp⟩
    · -- behind the loops
      have hmm : ∀ x, x ∈ m ↔ (x.1 = x.2.key ∧ x.2 ∈ all ∧ inP path x.2 = true) := fun x => by
        rw [hI.mem x]
        constructor
        · rintro ⟨h1, h2, h3, _⟩; exact ⟨h1, h2, h3⟩
        · rintro ⟨h1, h2, h3⟩; exact ⟨h1, h2, h3, ix_lt _⟩
      have hl : m.length ≤ all.length := by
        have := nodup_len hI.nk (l := all.map (·.key)) (fun k hk => by
          obtain ⟨x, hx, rfl⟩ := List.mem_map.1 hk
          obtain ⟨h1, h2, _⟩ := (hmm x).1 hx
          exact List.mem_map.2 ⟨x.2, h2, h1.symm⟩)
        simpa using this
      rw [chk_t (decide_eq_true (by omega))]
      have hget : ∀ k ∈ skeys m, ∃ r, mget k m = some r ∧ r.key = k ∧ r ∈ all ∧ inP path r = true := fun k hk => by
        obtain ⟨x, hx, rfl⟩ := List.mem_map.1 (mem_skeys.1 hk)
        obtain ⟨h1, h2, h3⟩ := (hmm x).1 hx
        exact ⟨x.2, mget_of_mem hI.nk hx, h1.symm, h2, h3⟩
      refine (forI_inv (fun i out => some (out ++ ((skeys m).drop i).map (fun k => (mget k m).getD default))) (fun i (out : List Rec) => out.length ≤ i) (fun out hO => ?_) (fun f i out hi hO hf => ?_) (Nat.zero_le _)).trans ?_
      · rw [List.drop_of_length_le (Nat.le_refl _)]; simp
      · unfold m_tree_Tree_Recs_b22
        obtain ⟨r, h1, h2, h3, h4⟩ := hget _ (gt_mem hi)
        have hi2 : i < m.length := by rw [skeys_len] at hi; exact hi
        rw [h1]
        show (m_tree_own r).bind _ = _
        rw [e_own (hG.ok r h3).1, Option.bind_some, chk_t (decide_eq_true (by omega)), hf _ (by simp; omega), drop_gt (xs := skeys m) hi, List.map_cons, h1]
        simp
      · rw [List.drop_zero, List.nil_append]
        congr 1
        refine sr_ext ?_ (sr_filter _ hG.srt) fun r => ?_
        · unfold SR
          rw [List.pairwise_map]
          refine (skeys_srt hI.nk).imp_of_mem fun {a b} ha hb hab => ?_
          obtain ⟨r1, h1, h2, _⟩ := hget a ha
          obtain ⟨r2, h3, h4, _⟩ := hget b hb
          rw [h1, h3]
          show r1.key.data.toList < r2.key.data.toList
          rw [h2, h4]; exact hab
        · simp only [List.mem_map, List.mem_filter]
          constructor
          · rintro ⟨k, hk, rfl⟩
            obtain ⟨r1, h1, h2, h3, h4⟩ := hget k hk
            rw [h1]; exact ⟨h3, h4⟩
          · rintro ⟨h1, h2⟩
            have hx : (r.key, r) ∈ m := (hmm (r.key, r)).2 ⟨rfl, h1, h2⟩
            exact ⟨r.key, mem_skeys.2 (List.mem_map.2 ⟨_, hx, rfl⟩), by rw [mget_of_mem hI.nk hx]; rfl⟩
    · unfold m_tree_Tree_Recs_b16
      refine forU_inv (fun _ _ => some (all.filter (inP path))) (fun q m => MInv all path (p * 16 + q) m) (fun m hI => ?_) (fun f2 q m hq hI hf2 => ?_) (by simpa using hI)
      · exact hf m (by rw [Nat.add_mul]; exact hI)
      · unfold m_tree_Tree_Recs_b20 m_tree_Tree_Recs_j21
        rw [chk_t (imp_len0 path), chk_t (imp_len1 path _)]
        have hin : ∀ x ∈ all, ix x.key = p * 16 + q → inP path x = !(((decide (0 < ((path.length : Nat) : Int))) && ((gt path 0) != ((p : Nat) : Int))) || ((decide (1 < ((path.length : Nat) : Int))) && ((gt path 1) != ((q : Nat) : Int)))) := fun x _ hx => by
          obtain ⟨h1, h2⟩ := (ix_eq hq).1 hx
          exact inP_pq ho h1 h2
        cases hc : (((decide (0 < ((path.length : Nat) : Int))) && ((gt path 0) != ((p : Nat) : Int))) || ((decide (1 < ((path.length : Nat) : Int))) && ((gt path 1) != ((q : Nat) : Int)))) with
        | true =>
          simp only [cond_true]
          exact hf2 m (hI.skip fun x hx h => by rw [hin x hx h, hc]; rfl)
        | false =>
          simp only [cond_false]
          have hst := hI.step hG (by omega) (fun x hx h => by rw [hin x hx h, hc]; rfl)
          rw [show 0 + p * 16 + q * 1 = p * 16 + q by omega]
          unfold leafAt at hst
          cases hg : gt o.leaves (p * 16 + q) with
          | none =>
            rw [hg] at hst
            unfold optm
            simp only
            rw [e_CopyN, Option.bind_some]
            exact hf2 m hst
          | some es =>
            rw [hg] at hst
            unfold optm
            simp only
            rw [e_Copy, Option.bind_some]
            exact hf2 _ hst
end Fw
end Go.Proofs.YtmmnpinpcgidnaaGreat
