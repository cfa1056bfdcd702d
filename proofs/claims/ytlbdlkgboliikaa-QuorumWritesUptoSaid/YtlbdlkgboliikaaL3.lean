/- Data in memory: types that read as data, slices that read as lists, rows of the call's own. No condition. -/
import Derived.Test.YtlbdlkgboliikaaL2
namespace Go.Proofs.Ytlbdlkgboliikaa
namespace Fw
set_option linter.unusedVariables false
set_option linter.unusedSimpArgs false
open Go.RowKit

/-- facts told at (X, w) go over to (X', w') -/
structure St (X : Nat → Prop) (w : World) (X' : Nat → Prop) (w' : World) : Prop where
  os : w'.os = w.os
  tape : w'.tape = w.tape
  output : w'.output = w.output
  size : w.heap.size ≤ w'.heap.size
  keep : ∀ k, k < w.heap.size → ¬ X k → w'.heap[k]? = w.heap[k]?
  out : ∀ k, k < w.heap.size → ¬ X k → ¬ X' k

theorem St.refl (X : Nat → Prop) (w : World) : St X w X w := ⟨rfl, rfl, rfl, Nat.le_refl _, fun _ _ _ => rfl, fun _ _ h => h⟩
theorem St.trans {X X' X'' : Nat → Prop} {w w' w'' : World} (h : St X w X' w') (h' : St X' w' X'' w'') : St X w X'' w'' :=
  ⟨h'.os.trans h.os, h'.tape.trans h.tape, h'.output.trans h.output, Nat.le_trans h.size h'.size, fun k hk hx => (h'.keep k (Nat.lt_of_lt_of_le hk h.size) (h.out k hk hx)).trans (h.keep k hk hx), fun k hk hx => h'.out k (Nat.lt_of_lt_of_le hk h.size) (h.out k hk hx)⟩
theorem St.of_fr {X : Nat → Prop} {w w' : World} (h : Fr X w w') : St X w X w' := ⟨h.os, h.tape, h.output, h.size, h.keep, fun _ _ h => h⟩
theorem St.less {X X' : Nat → Prop} {w : World} (h : ∀ k, X' k → X k) : St X w X' w := ⟨rfl, rfl, rfl, Nat.le_refl _, fun _ _ _ => rfl, fun k _ hx h' => hx (h k h')⟩
theorem St.of_no {X : Nat → Prop} {w w' : World} (h : Fr no w w') : St X w X w' := ⟨h.os, h.tape, h.output, h.size, fun k hk _ => h.keep k hk id, fun _ _ h => h⟩
theorem St.to_no (X : Nat → Prop) (w : World) : St X w no w := St.less fun _ h => h.elim

theorem Cur.st {S X : Nat → Prop} {E B w : World} {L : List Rowb} (h : Cur S E X B L w) : St X B (Mx X L) w :=
  ⟨h.fr.os, h.fr.tape, h.fr.output, h.fr.size, h.fr.keep, fun k hk hx hm => by
    rcases hm with hm | ⟨r, hr, p, hp, rfl⟩
    · exact hx hm
    · rcases h.sepB r hr p hp with h1 | h1
      · exact hx h1
      · omega⟩
theorem Cur.st0 {S X : Nat → Prop} {E B w : World} {L : List Rowb} (h : Cur S E X B L w) : St X B X w := ⟨h.fr.os, h.fr.tape, h.fr.output, h.fr.size, h.fr.keep, fun _ _ h => h⟩

/-- a Go type whose cells read as data -/
structure Ty (α : Type) where
  n : Nat
  pos : 0 < n
  rd : (Nat → Prop) → World → List Value → α → Prop
  len : ∀ {X w cs x}, rd X w cs x → cs.length = n
  one : ∀ {X w cs x}, rd X w cs x → ∀ u ∈ cs, u.oneCell' = true
  step : ∀ {X X' w w' cs x}, rd X w cs x → St X w X' w' → rd X' w' cs x

def Cell (X : Nat → Prop) (w : World) (A : Option Addr) (j : Nat) (v : Value) : Prop := ∃ b o, A = some ⟨b, o, none⟩ ∧ ¬ X b ∧ w.cell? ⟨b, o + j, none⟩ = some v

section
variable {X X' : Nat → Prop} {w w' : World} {A : Option Addr} {j : Nat} {v : Value}
theorem Cell.step (h : Cell X w A j v) (hs : St X w X' w') : Cell X' w' A j v := by
  obtain ⟨b, o, rfl, hx, hc⟩ := h
  have hlt := World.block_lt_of_cell? w _ hc
  exact ⟨b, o, rfl, hs.out b hlt hx, (World.cell?_of_block (hs.keep b hlt hx)).trans hc⟩
theorem Cell.some_ (h : Cell X w A j v) : A.isSome = true := by obtain ⟨b, o, rfl, _⟩ := h; rfl
/-- the head of a slice that lies in a cell -/
def slA (w : World) (A : Option Addr) (j : Nat) : Option Addr :=
  match A with
  | some a => match w.cell? ⟨a.block, a.off + j, none⟩ with
    | some (.slice a' _ _) => a'
    | _ => none
  | none => none
def slC (w : World) (A : Option Addr) (j : Nat) : Nat :=
  match A with
  | some a => match w.cell? ⟨a.block, a.off + j, none⟩ with
    | some (.slice _ _ c) => c
    | _ => 0
  | none => 0
theorem Cell.slA {A' : Option Addr} {n c : Nat} (h : Cell X w A j (.slice A' n c)) : slA w A j = A' := by obtain ⟨b, o, rfl, _, hc⟩ := h; simp [Fw.slA, hc]
theorem Cell.slC {A' : Option Addr} {n c : Nat} (h : Cell X w A j (.slice A' n c)) : slC w A j = c := by obtain ⟨b, o, rfl, _, hc⟩ := h; simp [Fw.slC, hc]
end

/-- the element at k, whatever k -/
def gt {α : Type} [Inhabited α] (xs : List α) (k : Nat) : α := xs.getD k default
theorem gt_eq {α : Type} [Inhabited α] {xs : List α} {k : Nat} (h : k < xs.length) : gt xs k = xs[k] := by simp [gt, List.getD, List.getElem?_eq_getElem h]
theorem drop_gt {α : Type} [Inhabited α] {xs : List α} {k : Nat} (h : k < xs.length) : xs.drop k = gt xs k :: xs.drop (k + 1) := by rw [gt_eq h]; exact List.drop_eq_getElem_cons h
theorem take_gt {α : Type} [Inhabited α] {xs : List α} {k : Nat} (h : k < xs.length) : xs.take (k + 1) = xs.take k ++ [gt xs k] := by rw [gt_eq h]; exact List.take_succ_eq_append_getElem h

/-- the slice value '.slice A xs.length _' reads as the list xs -/
structure Sl {α : Type} [Inhabited α] (T : Ty α) (X : Nat → Prop) (w : World) (A : Option Addr) (xs : List α) : Prop where
  le : xs.length ≤ lim
  get : ∀ i, i < xs.length → ∃ cs, T.rd X w cs (gt xs i) ∧ ∀ j (hj : j < cs.length), Cell X w A (i * T.n + j) cs[j]

section
variable {α : Type} [Inhabited α] {T : Ty α} {X X' : Nat → Prop} {w w' : World} {A : Option Addr} {xs : List α}
theorem Sl.step (h : Sl T X w A xs) (hs : St X w X' w') : Sl T X' w' A xs :=
  ⟨h.le, fun i hi => let ⟨cs, h1, h2⟩ := h.get i hi; ⟨cs, T.step h1 hs, fun j hj => (h2 j hj).step hs⟩⟩
theorem Sl.some_ (h : Sl T X w A xs) {k : Nat} (hk : k < xs.length) : A.isSome = true := by
  obtain ⟨cs, h1, h2⟩ := h.get k hk
  exact (h2 0 (by rw [T.len h1]; exact T.pos)).some_
theorem Sl.nil (T : Ty α) (X : Nat → Prop) (w : World) (A : Option Addr) : Sl T X w A [] := ⟨by simp, fun i h => by simp at h⟩
theorem Sl.le_ (h : Sl T X w A xs) : xs.length ≤ 2147483648 := h.le
/-- x[lo:hi] -/
theorem Sl.cut (h : Sl T X w A xs) {lo hi cap : Nat} (h1 : lo ≤ hi) (h2 : hi ≤ xs.length) (h3 : xs.length ≤ cap) : Sl T X w (if cap = lo then A else A.map (·.add (lo * T.n))) ((xs.take hi).drop lo) := by
  have hle := h.le
  refine ⟨by simp; omega, fun i hi' => ?_⟩
  have hi'' := hi'
  simp only [List.length_drop, List.length_take] at hi'
  obtain ⟨cs, g1, g2⟩ := h.get (lo + i) (by omega)
  have hg : gt ((xs.take hi).drop lo) i = gt xs (lo + i) := by
    rw [gt_eq hi'', gt_eq (by omega)]; simp
  refine ⟨cs, by rw [hg]; exact g1, fun j hj => ?_⟩
  rw [if_neg (by omega)]
  obtain ⟨b, o, rfl, hx, hc⟩ := g2 j hj
  refine ⟨b, o + lo * T.n, ?_, hx, ?_⟩
  · simp only [Option.map_some, Addr.add]
    split
    · rename_i h0; simp [h0]
    · rfl
  · rw [← hc]; congr 2; rw [Nat.add_mul]; omega
end

/-- a row of the call's own: the block of the slice, known whole, whose first elements read as xs; or nil -/
structure Own {α : Type} [Inhabited α] (T : Ty α) (X : Nat → Prop) (w : World) (e : TypeId) (row : Rowb) (A : Option Addr) (c : Nat) (xs : List α) : Prop where
  le : xs.length ≤ lim
  is : (A = none ∧ xs = [] ∧ c = 0 ∧ row = []) ∨
    ∃ (g : Nat) (cur : Array Value) (css : List (List Value)), A = some ⟨g, 0, none⟩ ∧ row = [(g, .cells cur e (0, 0))] ∧ xs.length ≤ c ∧ c ≤ maxLen ∧ cur.size = c * T.n ∧ css.length = xs.length ∧
      cur.toList.take (xs.length * T.n) = css.flatten ∧ ∀ i (h1 : i < css.length), T.rd X w css[i] (gt xs i)

theorem flatten_get {β : Type} (n : Nat) : ∀ (css : List (List β)) (i j : Nat) (hi : i < css.length), (∀ cs ∈ css, cs.length = n) → j < n → css.flatten[i * n + j]? = css[i][j]?
  | [], i, j, hi, _, _ => by simp at hi
  | cs :: css, 0, j, _, hl, hj => by
    have := hl cs (by simp)
    simp only [List.flatten_cons, Nat.zero_mul, Nat.zero_add, List.getElem_cons_zero]
    rw [List.getElem?_append_left (by omega)]
  | cs :: css, i + 1, j, hi, hl, hj => by
    have h0 := hl cs (by simp)
    simp only [List.flatten_cons, List.getElem_cons_succ]
    rw [List.getElem?_append_right (by rw [h0, Nat.add_mul]; omega), h0, show (i + 1) * n + j - n = i * n + j by rw [Nat.add_mul]; omega]
    exact flatten_get n css i j (by simpa using hi) (fun c hc => hl c (by simp [hc])) hj

theorem flatten_len {β : Type} (n : Nat) : ∀ (css : List (List β)), (∀ cs ∈ css, cs.length = n) → css.flatten.length = css.length * n
  | [], _ => by simp
  | cs :: css, hl => by
    simp only [List.flatten_cons, List.length_append, List.length_cons, flatten_len n css (fun c hc => hl c (by simp [hc])), hl cs (by simp), Nat.add_mul]; omega

theorem lt_mul {i j n m : Nat} (hi : i < n) (hj : j < m) : i * m + j < n * m := by
  calc i * m + j < i * m + m := by omega
    _ = (i + 1) * m := by rw [Nat.add_mul]; omega
    _ ≤ n * m := Nat.mul_le_mul_right _ (by omega)

section
variable {α : Type} [Inhabited α] {T : Ty α} {X X' : Nat → Prop} {w w' : World} {e : TypeId} {row : Rowb} {A : Option Addr} {c : Nat} {xs : List α}
theorem Own.step (h : Own T X w e row A c xs) (hs : St X w X' w') : Own T X' w' e row A c xs := by
  refine ⟨h.le, ?_⟩
  rcases h.is with h1 | ⟨g, cur, css, h1, h2, h3, h4, h5, h6, h7, h8⟩
  · exact .inl h1
  · exact .inr ⟨g, cur, css, h1, h2, h3, h4, h5, h6, h7, fun i a => T.step (h8 i a) hs⟩
theorem Own.nil (T : Ty α) (X : Nat → Prop) (w : World) (e : TypeId) : Own T X w e [] none 0 [] := ⟨by simp, .inl ⟨rfl, rfl, rfl, rfl⟩⟩
theorem Own.le_ (h : Own T X w e row A c xs) : xs.length ≤ 2147483648 := h.le
theorem Own.capz (h : Own T X w e row A c xs) : xs.length ≤ c := by
  rcases h.is with ⟨_, rfl, rfl, _⟩ | ⟨g, cur, css, _, _, h, _⟩
  · exact Nat.le_refl _
  · exact h
/-- an own row, seen as a slice of data -/
theorem Own.sl {w1 : World} (h : Own T X w e row A c xs) (hs : St X w X' w1) (hr : ∀ p ∈ row, w1.heap[p.1]? = some p.2) (hx : ∀ p ∈ row, ¬ X' p.1) : Sl T X' w1 A xs := by
  refine ⟨h.le, fun i hi => ?_⟩
  rcases h.is with ⟨_, h0, _⟩ | ⟨g, cur, css, rfl, rfl, h3, h4, h5, h6, h7, h8⟩
  · rw [h0] at hi; simp at hi
  · have hic : i < css.length := by omega
    have hall : ∀ cs ∈ css, cs.length = T.n := by
      intro cs hcs
      obtain ⟨k, hk, rfl⟩ := List.getElem_of_mem hcs
      exact T.len (h8 k hk)
    refine ⟨css[i], T.step (h8 i hic) hs, fun j hj => ?_⟩
    have hjn : j < T.n := by rw [hall _ (List.getElem_mem hic)] at hj; exact hj
    refine ⟨g, 0, rfl, hx (g, .cells cur e (0, 0)) (by simp), ?_⟩
    have hcell := cell_of_row w1 g (i * T.n + j) cur e (0, 0) (hr (g, .cells cur e (0, 0)) (by simp))
    rw [Nat.zero_add, hcell]
    have h9 := flatten_get T.n css i j hic hall hjn
    rw [← h7, List.getElem?_take, if_pos (lt_mul hi hjn)] at h9
    rw [← Array.getElem?_toList, h9, List.getElem?_eq_getElem hj]
end

/-! ### the kinds of data that are everywhere -/
@[reducible] def I64 (x : Int) : Prop := -9223372036854775808 ≤ x ∧ x ≤ 9223372036854775807
@[reducible] def U64 (x : Int) : Prop := 0 ≤ x ∧ x ≤ 18446744073709551615
@[reducible] def U8 (x : Int) : Prop := 0 ≤ x ∧ x ≤ 255

def intT : Ty Int where
  n := 1
  pos := by decide
  rd := fun _ _ cs x => cs = [.int .i64 x] ∧ I64 x
  len := by rintro X w cs x ⟨rfl, _⟩; rfl
  one := by rintro X w cs x ⟨rfl, _⟩ u hu; simp at hu; subst hu; rfl
  step := fun h _ => h
def u64T : Ty Int where
  n := 1
  pos := by decide
  rd := fun _ _ cs x => cs = [.int .u64 x] ∧ U64 x
  len := by rintro X w cs x ⟨rfl, _⟩; rfl
  one := by rintro X w cs x ⟨rfl, _⟩ u hu; simp at hu; subst hu; rfl
  step := fun h _ => h
def byteT : Ty UInt8 where
  n := 1
  pos := by decide
  rd := fun _ _ cs x => cs = [.int .u8 x.toNat]
  len := by rintro X w cs x rfl; rfl
  one := by rintro X w cs x rfl u hu; simp at hu; subst hu; rfl
  step := fun h _ => h
def boolT : Ty Bool where
  n := 1
  pos := by decide
  rd := fun _ _ cs x => cs = [.bool x]
  len := by rintro X w cs x rfl; rfl
  one := by rintro X w cs x rfl u hu; simp at hu; subst hu; rfl
  step := fun h _ => h
def strT : Ty ByteArray where
  n := 1
  pos := by decide
  rd := fun _ _ cs x => cs = [.string x] ∧ x.size ≤ lim
  len := by rintro X w cs x ⟨rfl, _⟩; rfl
  one := by rintro X w cs x ⟨rfl, _⟩ u hu; simp at hu; subst hu; rfl
  step := fun h _ => h
/-- a slice in a cell -/
def slT {α : Type} [Inhabited α] (T : Ty α) : Ty (List α) where
  n := 1
  pos := by decide
  rd := fun X w cs xs => ∃ A c, cs = [.slice A xs.length c] ∧ xs.length ≤ c ∧ Sl T X w A xs
  len := by rintro X w cs x ⟨A, c, rfl, _⟩; rfl
  one := by rintro X w cs x ⟨A, c, rfl, _⟩ u hu; simp at hu; subst hu; rfl
  step := by rintro X X' w w' cs x ⟨A, c, rfl, h1, h2⟩ hs; exact ⟨A, c, rfl, h1, h2.step hs⟩
end Fw
end Go.Proofs.Ytlbdlkgboliikaa
