/- Memory for the engine: what a call may turn, local blocks, slices that read as lists, and the laws of the operations. No condition. -/
import Derived.Test.YtlbdlkgboliikaaL1
import Derived.Maps.AppendAt
import Derived.IntWalk
namespace Go.Proofs.Ytlbdlkgboliikaa
namespace Fw
set_option linter.unusedVariables false
set_option linter.unusedSimpArgs false
open Go.RowKit

/-- the longest list that is spoken of -/
def lim : Nat := 2147483648
theorem lim_eq : lim = 2147483648 := rfl

abbrev Rowb := List (Nat × Obj)
def no : Nat → Prop := fun _ => False

/-- E became w, and nothing of E has turned but blocks of S -/
structure Fr (S : Nat → Prop) (E w : World) : Prop where
  os : w.os = E.os
  tape : w.tape = E.tape
  output : w.output = E.output
  size : E.heap.size ≤ w.heap.size
  keep : ∀ k, k < E.heap.size → ¬ S k → w.heap[k]? = E.heap[k]?

theorem Fr.refl (S : Nat → Prop) (w : World) : Fr S w w := ⟨rfl, rfl, rfl, Nat.le_refl _, fun _ _ _ => rfl⟩
theorem Fr.trans {S : Nat → Prop} {a b c : World} (h : Fr S a b) (h' : Fr S b c) : Fr S a c :=
  ⟨h'.os.trans h.os, h'.tape.trans h.tape, h'.output.trans h.output, Nat.le_trans h.size h'.size, fun k hk hs => (h'.keep k (Nat.lt_of_lt_of_le hk h.size) hs).trans (h.keep k hk hs)⟩
theorem Fr.mono {S S' : Nat → Prop} {a b : World} (h : Fr S a b) (hs : ∀ k, S k → S' k) : Fr S' a b := ⟨h.os, h.tape, h.output, h.size, fun k hk hn => h.keep k hk (fun h' => hn (hs k h'))⟩
theorem Fr.of_no {S : Nat → Prop} {a b : World} (h : Fr no a b) : Fr S a b := h.mono fun _ h => h.elim
/-- what turned lies behind the first world's end -/
theorem Fr.drop {S S' : Nat → Prop} {E a b : World} (h : Fr S E a) (h' : Fr S' a b) (hs : ∀ k, S' k → S k ∨ E.heap.size ≤ k) : Fr S E b :=
  ⟨h'.os.trans h.os, h'.tape.trans h.tape, h'.output.trans h.output, Nat.le_trans h.size h'.size, fun k hk hn =>
    (h'.keep k (Nat.lt_of_lt_of_le hk h.size) (fun h2 => (hs k h2).elim hn (fun h3 => by omega))).trans (h.keep k hk hn)⟩
theorem Fr.drawn {S : Nat → Prop} {a b : World} (h : Fr S a b) (n : Nat) : Fr S a { b with drawn := n } := ⟨h.os, h.tape, h.output, h.size, h.keep⟩
theorem Fr.below {a b : World} (h : Fr no a b) : Below a.heap.size a b := ⟨h.os, h.tape, h.output, h.size, fun k hk => h.keep k hk id⟩
theorem Fr.of_grown {a b : World} {row : Option Nat} (h : a.grownBy b row) : Fr (fun k => some k = row) a b := ⟨h.os, h.tape, h.output, h.size, fun k hk hn => h.block k hk hn⟩

/-- where the walk stands: E: the world in which the call began; S: what it may turn; B: the world at which facts on data are told, X: the blocks that they leave aside; L: blocks known whole -/
structure Cur (S : Nat → Prop) (E : World) (X : Nat → Prop) (B : World) (L : List Rowb) (w : World) : Prop where
  frE : Fr S E w
  fr : Fr X B w
  loc : ∀ r ∈ L, ∀ p ∈ r, w.heap[p.1]? = some p.2
  sepE : ∀ r ∈ L, ∀ p ∈ r, S p.1 ∨ E.heap.size ≤ p.1
  sepB : ∀ r ∈ L, ∀ p ∈ r, X p.1 ∨ B.heap.size ≤ p.1
  nodup : (L.flatten.map (·.1)).Nodup

def Mx (X : Nat → Prop) (L : List Rowb) : Nat → Prop := fun k => X k ∨ ∃ r ∈ L, ∃ p ∈ r, p.1 = k

section
variable {S X : Nat → Prop} {E B w w' : World} {L : List Rowb}

theorem Cur.start (w : World) (X : Nat → Prop) : Cur no w X w [] w := ⟨Fr.refl _ _, Fr.refl _ _, by simp, by simp, by simp, by simp⟩

theorem Cur.drawn (h : Cur S E X B L w) (n : Nat) : Cur S E X B L { w with drawn := n } := ⟨h.frE.drawn n, h.fr.drawn n, h.loc, h.sepE, h.sepB, h.nodup⟩

theorem Cur.lt (h : Cur S E X B L w) {r : Rowb} (hr : r ∈ L) {p : Nat × Obj} (hp : p ∈ r) : p.1 < w.heap.size := by
  have := h.loc r hr p hp
  rcases Nat.lt_or_ge p.1 w.heap.size with h1 | h1
  · exact h1
  · rw [Array.getElem?_eq_none h1] at this; cases this

theorem Cur.call (h : Cur S E X B L w) (h' : Fr no w w') : Cur S E X B L w' :=
  ⟨h.frE.trans h'.of_no, h.fr.trans h'.of_no, fun r hr p hp => (h'.keep _ (h.lt hr hp) id).trans (h.loc r hr p hp), h.sepE, h.sepB, h.nodup⟩

theorem Cur.rebase (h : Cur S E X B L w) : Cur S E (Mx X L) w L w :=
  ⟨h.frE, Fr.refl _ _, h.loc, h.sepE, fun r hr p hp => .inl (.inr ⟨r, hr, p, hp, rfl⟩), h.nodup⟩

theorem alloc_keep (w : World) (o : Obj) (S : Nat → Prop) : Fr S w (w.alloc o) := ⟨rfl, rfl, rfl, by simp, fun k hk _ => heap_alloc_old w o hk⟩

theorem Cur.new (h : Cur S E X B L w) (o : Obj) : Cur S E X B ([(w.heap.size, o)] :: L) (w.alloc o) := by
  refine ⟨h.frE.trans (alloc_keep w o _), h.fr.trans (alloc_keep w o _), ?_, ?_, ?_, ?_⟩
  · intro r hr p hp
    rcases List.mem_cons.1 hr with rfl | hr
    · rw [List.mem_singleton.1 hp]; exact heap_alloc_new w o
    · rw [heap_alloc_old w o (h.lt hr hp)]; exact h.loc r hr p hp
  · intro r hr p hp
    rcases List.mem_cons.1 hr with rfl | hr
    · rw [List.mem_singleton.1 hp]; exact .inr h.frE.size
    · exact h.sepE r hr p hp
  · intro r hr p hp
    rcases List.mem_cons.1 hr with rfl | hr
    · rw [List.mem_singleton.1 hp]; exact .inr h.fr.size
    · exact h.sepB r hr p hp
  · simp only [List.flatten_cons, List.map_cons, List.cons_append, List.nil_append]
    refine List.nodup_cons.2 ⟨fun hm => ?_, h.nodup⟩
    obtain ⟨p, hp, he⟩ := List.mem_map.1 hm
    obtain ⟨r, hr, hpr⟩ := List.mem_flatten.1 hp
    have := h.lt hr hpr
    omega

/-- one row of blocks turns into another: everything else stays -/
theorem Cur.set (h : Cur S E X B L w) {i : Nat} {row row' : Rowb} (hi : L[i]? = some row) (hf : Fr (fun k => ∃ p ∈ row, p.1 = k) w w') (hl : ∀ p ∈ row', w'.heap[p.1]? = some p.2)
    (hn : ∀ p ∈ row', (∃ q ∈ row, q.1 = p.1) ∨ w.heap.size ≤ p.1) (hd : (row'.map (·.1)).Nodup) : Cur S E X B (L.set i row') w' := by
  have hmem : row ∈ L := List.mem_of_getElem? hi
  have hil : i < L.length := (List.getElem?_eq_some_iff.1 hi).1
  have hgi : L[i] = row := (List.getElem?_eq_some_iff.1 hi).2
  -- the list in three parts
  have hsplit : L = L.take i ++ row :: L.drop (i + 1) := by
    conv => lhs; rw [← List.take_append_drop i L, List.drop_eq_getElem_cons hil, hgi]
  have hset : L.set i row' = L.take i ++ row' :: L.drop (i + 1) := List.set_eq_take_append_cons_drop.trans (by rw [if_pos hil])
  have hnd := h.nodup
  rw [hsplit] at hnd
  simp only [List.flatten_append, List.flatten_cons, List.map_append] at hnd
  have hothers : ∀ r, (r ∈ L.take i ∨ r ∈ L.drop (i + 1)) → ∀ p ∈ r, r ∈ L ∧ ¬ (∃ q ∈ row, q.1 = p.1) := by
    intro r hr p hp
    refine ⟨?_, ?_⟩
    · rcases hr with hr | hr
      · exact List.mem_of_mem_take hr
      · exact List.mem_of_mem_drop hr
    · rintro ⟨q, hq, he⟩
      rcases hr with hr | hr
      · have h1 := (List.nodup_append.1 hnd).2.2 p.1 (List.mem_map.2 ⟨p, List.mem_flatten.2 ⟨r, hr, hp⟩, rfl⟩)
          q.1 (List.mem_append.2 (.inl (List.mem_map.2 ⟨q, hq, rfl⟩)))
        exact h1 he.symm
      · have h1 := (List.nodup_append.1 (List.nodup_append.1 hnd).2.1).2.2 q.1 (List.mem_map.2 ⟨q, hq, rfl⟩)
          p.1 (List.mem_map.2 ⟨p, List.mem_flatten.2 ⟨r, hr, hp⟩, rfl⟩)
        exact h1 he
  have hcase : ∀ r, r ∈ L.set i row' → r = row' ∨ (r ∈ L.take i ∨ r ∈ L.drop (i + 1)) := by
    intro r hr
    rw [hset] at hr
    rcases List.mem_append.1 hr with h1 | h1
    · exact .inr (.inl h1)
    · rcases List.mem_cons.1 h1 with h1 | h1
      · exact .inl h1
      · exact .inr (.inr h1)
  refine ⟨h.frE.drop hf ?_, h.fr.drop hf ?_, ?_, ?_, ?_, ?_⟩
  · rintro k ⟨p, hp, rfl⟩; exact h.sepE row hmem p hp
  · rintro k ⟨p, hp, rfl⟩; exact h.sepB row hmem p hp
  · intro r hr p hp
    rcases hcase r hr with rfl | hr
    · exact hl p hp
    · obtain ⟨h1, h2⟩ := hothers r hr p hp
      rw [hf.keep _ (h.lt h1 hp) h2]
      exact h.loc r h1 p hp
  · intro r hr p hp
    rcases hcase r hr with rfl | hr
    · rcases hn p hp with ⟨q, hq, he⟩ | h1
      · rw [← he]; exact h.sepE row hmem q hq
      · exact .inr (Nat.le_trans h.frE.size h1)
    · exact h.sepE r (hothers r hr p hp).1 p hp
  · intro r hr p hp
    rcases hcase r hr with rfl | hr
    · rcases hn p hp with ⟨q, hq, he⟩ | h1
      · rw [← he]; exact h.sepB row hmem q hq
      · exact .inr (Nat.le_trans h.fr.size h1)
    · exact h.sepB r (hothers r hr p hp).1 p hp
  · rw [hset]
    simp only [List.flatten_append, List.flatten_cons, List.map_append]
    have hA := (List.nodup_append.1 hnd).1
    have hB := (List.nodup_append.1 (List.nodup_append.1 hnd).2.1).2.1
    have hAB : ∀ a ∈ (L.take i).flatten.map (·.1), ∀ b ∈ (L.drop (i + 1)).flatten.map (·.1), a ≠ b := fun a ha b hb =>
      (List.nodup_append.1 hnd).2.2 a ha b (List.mem_append.2 (.inr hb))
    have hnew : ∀ r, (r ∈ L.take i ∨ r ∈ L.drop (i + 1)) → ∀ p ∈ r, ∀ q ∈ row', q.1 ≠ p.1 := by
      intro r hr p hp q hq he
      obtain ⟨h1, h2⟩ := hothers r hr p hp
      rcases hn q hq with ⟨s, hs, hse⟩ | hge
      · exact h2 ⟨s, hs, hse.trans he⟩
      · have := h.lt h1 hp
        omega
    refine List.nodup_append.2 ⟨hA, List.nodup_append.2 ⟨hd, hB, ?_⟩, ?_⟩
    · intro a ha b hb he
      obtain ⟨q, hq, rfl⟩ := List.mem_map.1 ha
      obtain ⟨p, hp, rfl⟩ := List.mem_map.1 hb
      obtain ⟨r, hr, hpr⟩ := List.mem_flatten.1 hp
      exact hnew r (.inr hr) p hpr q hq he
    · intro a ha b hb he
      obtain ⟨p, hp, rfl⟩ := List.mem_map.1 ha
      obtain ⟨r, hr, hpr⟩ := List.mem_flatten.1 hp
      rcases List.mem_append.1 hb with hb | hb
      · obtain ⟨q, hq, rfl⟩ := List.mem_map.1 hb
        exact hnew r (.inl hr) p hpr q hq he.symm
      · exact hAB _ ha _ hb he

/-- rows that are not wanted any more -/
theorem Cur.tail {r : Rowb} (h : Cur S E X B (r :: L) w) : Cur S E X B L w :=
  ⟨h.frE, h.fr, fun r' hr => h.loc r' (List.mem_cons_of_mem _ hr), fun r' hr => h.sepE r' (List.mem_cons_of_mem _ hr), fun r' hr => h.sepB r' (List.mem_cons_of_mem _ hr), by
    have := h.nodup
    simp only [List.flatten_cons, List.map_append] at this
    exact (List.nodup_append.1 this).2.1⟩

theorem flatten_sub {α : Type} {a b : List (List α)} (h : a.Sublist b) : a.flatten.Sublist b.flatten := by
  induction h with
  | slnil => simp
  | cons a _ ih => exact ih.trans (List.sublist_append_right _ _)
  | cons_cons a _ ih => exact List.Sublist.append_left ih a

theorem Cur.perm {L' : List Rowb} (h : Cur S E X B L w) (hp : L'.Sublist L) : Cur S E X B L' w :=
  ⟨h.frE, h.fr, fun r hr => h.loc r (hp.subset hr), fun r hr => h.sepE r (hp.subset hr), fun r hr => h.sepB r (hp.subset hr), by
    refine h.nodup.sublist (List.Sublist.map _ ?_)
    exact flatten_sub hp⟩

theorem Cur.at_ (h : Cur S E X B L w) {i : Nat} {row : Rowb} (hi : L[i]? = some row) {p : Nat × Obj} (hp : p ∈ row) : w.heap[p.1]? = some p.2 := h.loc row (List.mem_of_getElem? hi) p hp
end
end Fw
end Go.Proofs.Ytlbdlkgboliikaa
