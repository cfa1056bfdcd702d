/- The data types of the program, as Lean structures, and what they are in memory. No condition. -/
import Derived.Test.YtlbdlkgboliikaaL9
import Derived.Test.YtlbdlkgboliikaaRows
namespace Go.Proofs.Ytlbdlkgboliikaa
namespace Fw
set_option linter.unusedVariables false
set_option linter.unusedSimpArgs false
open Go.RowKit

structure Dot where
  s : Int
  n : Int
  deriving Inhabited, DecidableEq
/-- what holds of a Dot that is told by these cells -/
def Dot.fits (X : Nat → Prop) (w : World)  (x : Dot) : Prop := I64 x.s ∧ I64 x.n
def Dot.cs  (x : Dot) : List Value := [.int .i64 x.s, .int .i64 x.n]
theorem Dot.fits_step {X X' : Nat → Prop} {w w' : World}  {x : Dot} (h : Dot.fits X w  x) (hs : St X w X' w') : Dot.fits X' w'  x := by
  exact h
def dotT : Ty Dot where
  n := 2
  pos := by decide
  rd := fun X w cs x => cs = Dot.cs  x ∧ Dot.fits X w  x
  len := by rintro X w cs x ⟨rfl, h⟩; rfl
  one := by rintro X w cs x ⟨rfl, h⟩ u hu; simp only [Dot.cs, List.mem_cons, List.not_mem_nil, or_false] at hu; rcases hu with rfl | rfl <;> rfl
  step := by rintro X X' w w' cs x ⟨rfl, h⟩ hs; exact ⟨rfl, Dot.fits_step h hs⟩
section
variable {X : Nat → Prop} {w : World} {A : Option Addr} {xs : List Dot} {i : Nat}
theorem Sl.dotT_open (h : Sl dotT X w A xs) (hi : i < xs.length) : Dot.fits X w  (gt xs i) ∧ ∀ j (hj : j < (Dot.cs  (gt xs i)).length), Cell X w A (i * 2 + j) (Dot.cs  (gt xs i))[j] := by
  obtain ⟨cs, ⟨rfl, h1⟩, h2⟩ := h.get i hi
  simp only [show dotT.n = 2 from rfl] at h2
  exact ⟨h1, h2⟩
theorem Sl.dotT_fits (h : Sl dotT X w A xs) (hi : i < xs.length) : Dot.fits X w  (gt xs i) := (h.dotT_open hi).1
theorem Sl.dotT_rd (h : Sl dotT X w A xs) (hi : i < xs.length) : dotT.rd X w (Dot.cs  (gt xs i)) (gt xs i) := ⟨rfl, (h.dotT_open hi).1⟩
theorem Sl.dotT_0 (h : Sl dotT X w A xs) (hi : i < xs.length) : Cell X w A (i * 2 + 0) (.int .i64 (gt xs i).s) := (h.dotT_open hi).2 0 (by simp [Dot.cs])
theorem Sl.dotT_1 (h : Sl dotT X w A xs) (hi : i < xs.length) : Cell X w A (i * 2 + 1) (.int .i64 (gt xs i).n) := (h.dotT_open hi).2 1 (by simp [Dot.cs])
end
structure Span where
  s : Int
  f : Int
  t : Int
  deriving Inhabited, DecidableEq
/-- what holds of a Span that is told by these cells -/
def Span.fits (X : Nat → Prop) (w : World)  (x : Span) : Prop := I64 x.s ∧ I64 x.f ∧ I64 x.t
def Span.cs  (x : Span) : List Value := [.int .i64 x.s, .int .i64 x.f, .int .i64 x.t]
theorem Span.fits_step {X X' : Nat → Prop} {w w' : World}  {x : Span} (h : Span.fits X w  x) (hs : St X w X' w') : Span.fits X' w'  x := by
  exact h
def spanT : Ty Span where
  n := 3
  pos := by decide
  rd := fun X w cs x => cs = Span.cs  x ∧ Span.fits X w  x
  len := by rintro X w cs x ⟨rfl, h⟩; rfl
  one := by rintro X w cs x ⟨rfl, h⟩ u hu; simp only [Span.cs, List.mem_cons, List.not_mem_nil, or_false] at hu; rcases hu with rfl | rfl | rfl <;> rfl
  step := by rintro X X' w w' cs x ⟨rfl, h⟩ hs; exact ⟨rfl, Span.fits_step h hs⟩
section
variable {X : Nat → Prop} {w : World} {A : Option Addr} {xs : List Span} {i : Nat}
theorem Sl.spanT_open (h : Sl spanT X w A xs) (hi : i < xs.length) : Span.fits X w  (gt xs i) ∧ ∀ j (hj : j < (Span.cs  (gt xs i)).length), Cell X w A (i * 3 + j) (Span.cs  (gt xs i))[j] := by
  obtain ⟨cs, ⟨rfl, h1⟩, h2⟩ := h.get i hi
  simp only [show spanT.n = 3 from rfl] at h2
  exact ⟨h1, h2⟩
theorem Sl.spanT_fits (h : Sl spanT X w A xs) (hi : i < xs.length) : Span.fits X w  (gt xs i) := (h.spanT_open hi).1
theorem Sl.spanT_rd (h : Sl spanT X w A xs) (hi : i < xs.length) : spanT.rd X w (Span.cs  (gt xs i)) (gt xs i) := ⟨rfl, (h.spanT_open hi).1⟩
theorem Sl.spanT_0 (h : Sl spanT X w A xs) (hi : i < xs.length) : Cell X w A (i * 3 + 0) (.int .i64 (gt xs i).s) := (h.spanT_open hi).2 0 (by simp [Span.cs])
theorem Sl.spanT_1 (h : Sl spanT X w A xs) (hi : i < xs.length) : Cell X w A (i * 3 + 1) (.int .i64 (gt xs i).f) := (h.spanT_open hi).2 1 (by simp [Span.cs])
theorem Sl.spanT_2 (h : Sl spanT X w A xs) (hi : i < xs.length) : Cell X w A (i * 3 + 2) (.int .i64 (gt xs i).t) := (h.spanT_open hi).2 2 (by simp [Span.cs])
end
structure Ver where
  dot : Dot
  past : (List Span)
  gone : Bool
  val : ByteArray
  deriving Inhabited, DecidableEq
/-- what holds of a Ver that is told by these cells -/
def Ver.fits (X : Nat → Prop) (w : World) (A2 : Option Addr) (c2 : Nat) (x : Ver) : Prop := I64 x.dot.s ∧ I64 x.dot.n ∧ (x.past.length ≤ c2 ∧ Sl spanT X w A2 x.past) ∧ x.val.size ≤ lim
def Ver.cs (A2 : Option Addr) (c2 : Nat) (x : Ver) : List Value := [.int .i64 x.dot.s, .int .i64 x.dot.n, .slice A2 x.past.length c2, .bool x.gone, .string x.val]
theorem Ver.fits_step {X X' : Nat → Prop} {w w' : World} {A2 : Option Addr} {c2 : Nat} {x : Ver} (h : Ver.fits X w A2 c2 x) (hs : St X w X' w') : Ver.fits X' w' A2 c2 x := by
  obtain ⟨h0, h1, h2, h3⟩ := h
  exact ⟨h0, h1, ⟨h2.1, h2.2.step hs⟩, h3⟩
def verT : Ty Ver where
  n := 5
  pos := by decide
  rd := fun X w cs x => ∃ A2 c2, cs = Ver.cs A2 c2 x ∧ Ver.fits X w A2 c2 x
  len := by rintro X w cs x ⟨A2, c2, rfl, h⟩; rfl
  one := by rintro X w cs x ⟨A2, c2, rfl, h⟩ u hu; simp only [Ver.cs, List.mem_cons, List.not_mem_nil, or_false] at hu; rcases hu with rfl | rfl | rfl | rfl | rfl <;> rfl
  step := by rintro X X' w w' cs x ⟨A2, c2, rfl, h⟩ hs; exact ⟨A2, c2, rfl, Ver.fits_step h hs⟩
section
variable {X : Nat → Prop} {w : World} {A : Option Addr} {xs : List Ver} {i : Nat}
theorem Sl.verT_open (h : Sl verT X w A xs) (hi : i < xs.length) : Ver.fits X w (slA w A (i * 5 + 2)) (slC w A (i * 5 + 2)) (gt xs i) ∧ ∀ j (hj : j < (Ver.cs (slA w A (i * 5 + 2)) (slC w A (i * 5 + 2)) (gt xs i)).length), Cell X w A (i * 5 + j) (Ver.cs (slA w A (i * 5 + 2)) (slC w A (i * 5 + 2)) (gt xs i))[j] := by
  obtain ⟨cs, ⟨A2, c2, rfl, h1⟩, h2⟩ := h.get i hi
  have e2 := (h2 2 (by simp [Ver.cs])).slA
  have f2 := (h2 2 (by simp [Ver.cs])).slC
  simp only [show verT.n = 5 from rfl] at e2 f2
  simp only [show verT.n = 5 from rfl] at h2
  rw [e2, f2]
  exact ⟨h1, h2⟩
theorem Sl.verT_fits (h : Sl verT X w A xs) (hi : i < xs.length) : Ver.fits X w (slA w A (i * 5 + 2)) (slC w A (i * 5 + 2)) (gt xs i) := (h.verT_open hi).1
theorem Sl.verT_rd (h : Sl verT X w A xs) (hi : i < xs.length) : verT.rd X w (Ver.cs (slA w A (i * 5 + 2)) (slC w A (i * 5 + 2)) (gt xs i)) (gt xs i) := ⟨_, _, rfl, (h.verT_open hi).1⟩
theorem Sl.verT_0 (h : Sl verT X w A xs) (hi : i < xs.length) : Cell X w A (i * 5 + 0) (.int .i64 (gt xs i).dot.s) := (h.verT_open hi).2 0 (by simp [Ver.cs])
theorem Sl.verT_1 (h : Sl verT X w A xs) (hi : i < xs.length) : Cell X w A (i * 5 + 1) (.int .i64 (gt xs i).dot.n) := (h.verT_open hi).2 1 (by simp [Ver.cs])
theorem Sl.verT_2 (h : Sl verT X w A xs) (hi : i < xs.length) : Cell X w A (i * 5 + 2) (.slice (slA w A (i * 5 + 2)) (gt xs i).past.length (slC w A (i * 5 + 2))) := (h.verT_open hi).2 2 (by simp [Ver.cs])
theorem Sl.verT_3 (h : Sl verT X w A xs) (hi : i < xs.length) : Cell X w A (i * 5 + 3) (.bool (gt xs i).gone) := (h.verT_open hi).2 3 (by simp [Ver.cs])
theorem Sl.verT_4 (h : Sl verT X w A xs) (hi : i < xs.length) : Cell X w A (i * 5 + 4) (.string (gt xs i).val) := (h.verT_open hi).2 4 (by simp [Ver.cs])
end
structure Rec where
  key : ByteArray
  vers : (List Ver)
  deriving Inhabited, DecidableEq
/-- what holds of a Rec that is told by these cells -/
def Rec.fits (X : Nat → Prop) (w : World) (A1 : Option Addr) (c1 : Nat) (x : Rec) : Prop := x.key.size ≤ lim ∧ (x.vers.length ≤ c1 ∧ Sl verT X w A1 x.vers)
def Rec.cs (A1 : Option Addr) (c1 : Nat) (x : Rec) : List Value := [.string x.key, .slice A1 x.vers.length c1]
theorem Rec.fits_step {X X' : Nat → Prop} {w w' : World} {A1 : Option Addr} {c1 : Nat} {x : Rec} (h : Rec.fits X w A1 c1 x) (hs : St X w X' w') : Rec.fits X' w' A1 c1 x := by
  obtain ⟨h0, h1⟩ := h
  exact ⟨h0, ⟨h1.1, h1.2.step hs⟩⟩
def recT : Ty Rec where
  n := 2
  pos := by decide
  rd := fun X w cs x => ∃ A1 c1, cs = Rec.cs A1 c1 x ∧ Rec.fits X w A1 c1 x
  len := by rintro X w cs x ⟨A1, c1, rfl, h⟩; rfl
  one := by rintro X w cs x ⟨A1, c1, rfl, h⟩ u hu; simp only [Rec.cs, List.mem_cons, List.not_mem_nil, or_false] at hu; rcases hu with rfl | rfl <;> rfl
  step := by rintro X X' w w' cs x ⟨A1, c1, rfl, h⟩ hs; exact ⟨A1, c1, rfl, Rec.fits_step h hs⟩
section
variable {X : Nat → Prop} {w : World} {A : Option Addr} {xs : List Rec} {i : Nat}
theorem Sl.recT_open (h : Sl recT X w A xs) (hi : i < xs.length) : Rec.fits X w (slA w A (i * 2 + 1)) (slC w A (i * 2 + 1)) (gt xs i) ∧ ∀ j (hj : j < (Rec.cs (slA w A (i * 2 + 1)) (slC w A (i * 2 + 1)) (gt xs i)).length), Cell X w A (i * 2 + j) (Rec.cs (slA w A (i * 2 + 1)) (slC w A (i * 2 + 1)) (gt xs i))[j] := by
  obtain ⟨cs, ⟨A1, c1, rfl, h1⟩, h2⟩ := h.get i hi
  have e1 := (h2 1 (by simp [Rec.cs])).slA
  have f1 := (h2 1 (by simp [Rec.cs])).slC
  simp only [show recT.n = 2 from rfl] at e1 f1
  simp only [show recT.n = 2 from rfl] at h2
  rw [e1, f1]
  exact ⟨h1, h2⟩
theorem Sl.recT_fits (h : Sl recT X w A xs) (hi : i < xs.length) : Rec.fits X w (slA w A (i * 2 + 1)) (slC w A (i * 2 + 1)) (gt xs i) := (h.recT_open hi).1
theorem Sl.recT_rd (h : Sl recT X w A xs) (hi : i < xs.length) : recT.rd X w (Rec.cs (slA w A (i * 2 + 1)) (slC w A (i * 2 + 1)) (gt xs i)) (gt xs i) := ⟨_, _, rfl, (h.recT_open hi).1⟩
theorem Sl.recT_0 (h : Sl recT X w A xs) (hi : i < xs.length) : Cell X w A (i * 2 + 0) (.string (gt xs i).key) := (h.recT_open hi).2 0 (by simp [Rec.cs])
theorem Sl.recT_1 (h : Sl recT X w A xs) (hi : i < xs.length) : Cell X w A (i * 2 + 1) (.slice (slA w A (i * 2 + 1)) (gt xs i).vers.length (slC w A (i * 2 + 1))) := (h.recT_open hi).2 1 (by simp [Rec.cs])
end
theorem Sl.intT_0 {X : Nat → Prop} {w : World} {A : Option Addr} {xs : List Int} {i : Nat} (h : Sl intT X w A xs) (hi : i < xs.length) : Cell X w A (i * 1 + 0) (.int .i64 (gt xs i)) := by
  obtain ⟨cs, hr, h2⟩ := h.get i hi
  obtain ⟨rfl, _⟩ := hr
  exact h2 0 (by simp)
theorem Sl.intT_fits {X : Nat → Prop} {w : World} {A : Option Addr} {xs : List Int} {i : Nat} (h : Sl intT X w A xs) (hi : i < xs.length) : I64 (gt xs i) := by
  obtain ⟨cs, ⟨_, hr⟩, h2⟩ := h.get i hi
  exact hr
theorem Sl.u64T_0 {X : Nat → Prop} {w : World} {A : Option Addr} {xs : List Int} {i : Nat} (h : Sl u64T X w A xs) (hi : i < xs.length) : Cell X w A (i * 1 + 0) (.int .u64 (gt xs i)) := by
  obtain ⟨cs, hr, h2⟩ := h.get i hi
  obtain ⟨rfl, _⟩ := hr
  exact h2 0 (by simp)
theorem Sl.u64T_fits {X : Nat → Prop} {w : World} {A : Option Addr} {xs : List Int} {i : Nat} (h : Sl u64T X w A xs) (hi : i < xs.length) : U64 (gt xs i) := by
  obtain ⟨cs, ⟨_, hr⟩, h2⟩ := h.get i hi
  exact hr
theorem Sl.byteT_0 {X : Nat → Prop} {w : World} {A : Option Addr} {xs : List UInt8} {i : Nat} (h : Sl byteT X w A xs) (hi : i < xs.length) : Cell X w A (i * 1 + 0) (.int .u8 (((gt xs i).toNat : Nat) : Int)) := by
  obtain ⟨cs, hr, h2⟩ := h.get i hi
  have e : cs = _ := hr
  subst e
  exact h2 0 (by simp)
theorem Sl.boolT_0 {X : Nat → Prop} {w : World} {A : Option Addr} {xs : List Bool} {i : Nat} (h : Sl boolT X w A xs) (hi : i < xs.length) : Cell X w A (i * 1 + 0) (.bool (gt xs i)) := by
  obtain ⟨cs, hr, h2⟩ := h.get i hi
  have e : cs = _ := hr
  subst e
  exact h2 0 (by simp)
theorem Sl.strT_0 {X : Nat → Prop} {w : World} {A : Option Addr} {xs : List ByteArray} {i : Nat} (h : Sl strT X w A xs) (hi : i < xs.length) : Cell X w A (i * 1 + 0) (.string (gt xs i)) := by
  obtain ⟨cs, hr, h2⟩ := h.get i hi
  obtain ⟨rfl, _⟩ := hr
  exact h2 0 (by simp)
theorem Sl.strT_fits {X : Nat → Prop} {w : World} {A : Option Addr} {xs : List ByteArray} {i : Nat} (h : Sl strT X w A xs) (hi : i < xs.length) : (gt xs i).size ≤ lim := by
  obtain ⟨cs, ⟨_, hr⟩, h2⟩ := h.get i hi
  exact hr
theorem fld_8_0 : FieldAt Try.prog 8 0 0 := ⟨_, _, _, Try.underlying8, rfl, rfl, Try.sizeOf2⟩
theorem fld_8_1 : FieldAt Try.prog 8 1 1 := ⟨_, _, _, Try.underlying8, rfl, rfl, Try.sizeOf3⟩
theorem fld_8_2 : FieldAt Try.prog 8 2 2 := ⟨_, _, _, Try.underlying8, rfl, rfl, Try.sizeOf4⟩
theorem fld_8_3 : FieldAt Try.prog 8 3 3 := ⟨_, _, _, Try.underlying8, rfl, rfl, Try.sizeOf6⟩
theorem fld_14_0 : FieldAt Try.prog 14 0 0 := ⟨_, _, _, Try.underlying14, rfl, rfl, Try.sizeOf9⟩
theorem fld_14_1 : FieldAt Try.prog 14 1 1 := ⟨_, _, _, Try.underlying14, rfl, rfl, Try.sizeOf12⟩
theorem fld_19_0 : FieldAt Try.prog 19 0 0 := ⟨_, _, _, Try.underlying19, rfl, rfl, Try.sizeOf17⟩
theorem elem_22 : ElemOf Try.prog 22 3 intT := ⟨Try.underlying22, Try.t3, by kernel_rfl, by kernel_rfl, by kernel_rfl, by decide⟩
theorem elem_40 : ElemOf Try.prog 40 58 verT := ⟨Try.underlying40, Try.t58, by kernel_rfl, by kernel_rfl, by kernel_rfl, by decide⟩
theorem elem_41 : ElemOf Try.prog 41 89 recT := ⟨Try.underlying41, Try.t89, by kernel_rfl, by kernel_rfl, by kernel_rfl, by decide⟩
theorem fld_43_0 : FieldAt Try.prog 43 0 0 := ⟨_, _, _, Try.underlying43, rfl, rfl, Try.sizeOf3⟩
theorem fld_43_1 : FieldAt Try.prog 43 1 1 := ⟨_, _, _, Try.underlying43, rfl, rfl, Try.sizeOf40⟩
theorem fld_43_2 : FieldAt Try.prog 43 2 2 := ⟨_, _, _, Try.underlying43, rfl, rfl, Try.sizeOf41⟩
theorem fld_52_0 : FieldAt Try.prog 52 0 0 := ⟨_, _, _, Try.underlying52, rfl, rfl, Try.sizeOf3⟩
theorem fld_52_1 : FieldAt Try.prog 52 1 1 := ⟨_, _, _, Try.underlying52, rfl, rfl, Try.sizeOf3⟩
theorem fld_52_2 : FieldAt Try.prog 52 2 2 := ⟨_, _, _, Try.underlying52, rfl, rfl, Try.sizeOf3⟩
theorem fld_52_3 : FieldAt Try.prog 52 3 3 := ⟨_, _, _, Try.underlying52, rfl, rfl, Try.sizeOf22⟩
theorem fld_52_4 : FieldAt Try.prog 52 4 4 := ⟨_, _, _, Try.underlying52, rfl, rfl, Try.sizeOf22⟩
theorem elem_53 : ElemOf Try.prog 53 40 (slT verT) := ⟨Try.underlying53, Try.t40, by kernel_rfl, by kernel_rfl, by kernel_rfl, by decide⟩
theorem fld_55_0 : FieldAt Try.prog 55 0 0 := ⟨_, _, _, Try.underlying55, rfl, rfl, Try.sizeOf3⟩
theorem fld_55_1 : FieldAt Try.prog 55 1 1 := ⟨_, _, _, Try.underlying55, rfl, rfl, Try.sizeOf2⟩
theorem elem_56 : ElemOf Try.prog 56 106 spanT := ⟨Try.underlying56, Try.t106, by kernel_rfl, by kernel_rfl, by kernel_rfl, by decide⟩
theorem fld_58_0 : FieldAt Try.prog 58 0 0 := ⟨_, _, _, Try.underlying58, rfl, rfl, Try.sizeOf55⟩
theorem fld_58_1 : FieldAt Try.prog 58 1 2 := ⟨_, _, _, Try.underlying58, rfl, rfl, Try.sizeOf56⟩
theorem fld_58_2 : FieldAt Try.prog 58 2 3 := ⟨_, _, _, Try.underlying58, rfl, rfl, Try.sizeOf4⟩
theorem fld_58_3 : FieldAt Try.prog 58 3 4 := ⟨_, _, _, Try.underlying58, rfl, rfl, Try.sizeOf9⟩
theorem fld_68_0 : FieldAt Try.prog 68 0 0 := ⟨_, _, _, Try.underlying68, rfl, rfl, Try.sizeOf22⟩
theorem fld_68_1 : FieldAt Try.prog 68 1 1 := ⟨_, _, _, Try.underlying68, rfl, rfl, Try.sizeOf3⟩
theorem fld_68_2 : FieldAt Try.prog 68 2 2 := ⟨_, _, _, Try.underlying68, rfl, rfl, Try.sizeOf66⟩
theorem fld_72_0 : FieldAt Try.prog 72 0 0 := ⟨_, _, _, Try.underlying72, rfl, rfl, Try.sizeOf68⟩
theorem elem_73 : ElemOf Try.prog 73 4 boolT := ⟨Try.underlying73, Try.t4, by kernel_rfl, by kernel_rfl, by kernel_rfl, by decide⟩
theorem elem_74 : ElemOf Try.prog 74 41 (slT recT) := ⟨Try.underlying74, Try.t41, by kernel_rfl, by kernel_rfl, by kernel_rfl, by decide⟩
theorem fld_76_0 : FieldAt Try.prog 76 0 0 := ⟨_, _, _, Try.underlying76, rfl, rfl, Try.sizeOf22⟩
theorem fld_76_1 : FieldAt Try.prog 76 1 1 := ⟨_, _, _, Try.underlying76, rfl, rfl, Try.sizeOf3⟩
theorem fld_76_2 : FieldAt Try.prog 76 2 2 := ⟨_, _, _, Try.underlying76, rfl, rfl, Try.sizeOf73⟩
theorem fld_76_3 : FieldAt Try.prog 76 3 3 := ⟨_, _, _, Try.underlying76, rfl, rfl, Try.sizeOf53⟩
theorem fld_76_4 : FieldAt Try.prog 76 4 4 := ⟨_, _, _, Try.underlying76, rfl, rfl, Try.sizeOf74⟩
theorem fld_81_0 : FieldAt Try.prog 81 0 0 := ⟨_, _, _, Try.underlying81, rfl, rfl, Try.sizeOf22⟩
theorem fld_81_1 : FieldAt Try.prog 81 1 1 := ⟨_, _, _, Try.underlying81, rfl, rfl, Try.sizeOf3⟩
theorem fld_81_2 : FieldAt Try.prog 81 2 2 := ⟨_, _, _, Try.underlying81, rfl, rfl, Try.sizeOf79⟩
theorem fld_85_0 : FieldAt Try.prog 85 0 0 := ⟨_, _, _, Try.underlying85, rfl, rfl, Try.sizeOf81⟩
theorem fld_89_0 : FieldAt Try.prog 89 0 0 := ⟨_, _, _, Try.underlying89, rfl, rfl, Try.sizeOf9⟩
theorem fld_89_1 : FieldAt Try.prog 89 1 1 := ⟨_, _, _, Try.underlying89, rfl, rfl, Try.sizeOf40⟩
theorem fld_106_0 : FieldAt Try.prog 106 0 0 := ⟨_, _, _, Try.underlying106, rfl, rfl, Try.sizeOf3⟩
theorem fld_106_1 : FieldAt Try.prog 106 1 1 := ⟨_, _, _, Try.underlying106, rfl, rfl, Try.sizeOf2⟩
theorem fld_106_2 : FieldAt Try.prog 106 2 2 := ⟨_, _, _, Try.underlying106, rfl, rfl, Try.sizeOf2⟩
theorem fld_112_0 : FieldAt Try.prog 112 0 0 := ⟨_, _, _, Try.underlying112, rfl, rfl, Try.sizeOf17⟩
theorem fld_112_1 : FieldAt Try.prog 112 1 1 := ⟨_, _, _, Try.underlying112, rfl, rfl, Try.sizeOf17⟩
theorem fld_112_2 : FieldAt Try.prog 112 2 2 := ⟨_, _, _, Try.underlying112, rfl, rfl, Try.sizeOf17⟩
theorem fld_112_3 : FieldAt Try.prog 112 3 3 := ⟨_, _, _, Try.underlying112, rfl, rfl, Try.sizeOf9⟩
theorem fld_125_0 : FieldAt Try.prog 125 0 0 := ⟨_, _, _, Try.underlying125, rfl, rfl, Try.sizeOf12⟩
theorem fld_125_1 : FieldAt Try.prog 125 1 1 := ⟨_, _, _, Try.underlying125, rfl, rfl, Try.sizeOf12⟩
theorem fld_125_2 : FieldAt Try.prog 125 2 2 := ⟨_, _, _, Try.underlying125, rfl, rfl, Try.sizeOf117⟩
theorem fld_125_3 : FieldAt Try.prog 125 3 3 := ⟨_, _, _, Try.underlying125, rfl, rfl, Try.sizeOf118⟩
theorem fld_125_4 : FieldAt Try.prog 125 4 4 := ⟨_, _, _, Try.underlying125, rfl, rfl, Try.sizeOf5⟩
theorem fld_125_5 : FieldAt Try.prog 125 5 5 := ⟨_, _, _, Try.underlying125, rfl, rfl, Try.sizeOf5⟩
theorem fld_125_6 : FieldAt Try.prog 125 6 6 := ⟨_, _, _, Try.underlying125, rfl, rfl, Try.sizeOf119⟩
theorem fld_125_7 : FieldAt Try.prog 125 7 7 := ⟨_, _, _, Try.underlying125, rfl, rfl, Try.sizeOf120⟩
theorem fld_125_8 : FieldAt Try.prog 125 8 8 := ⟨_, _, _, Try.underlying125, rfl, rfl, Try.sizeOf121⟩
theorem fld_125_9 : FieldAt Try.prog 125 9 9 := ⟨_, _, _, Try.underlying125, rfl, rfl, Try.sizeOf122⟩
theorem fld_125_10 : FieldAt Try.prog 125 10 10 := ⟨_, _, _, Try.underlying125, rfl, rfl, Try.sizeOf123⟩
theorem Dot.beq_ (a b : Dot) : (a == b) = ((a.s == b.s) && (a.n == b.n)) := by
  rw [Bool.eq_iff_iff]; simp only [beq_iff_eq, Bool.and_eq_true]; cases a; cases b; simp [Dot.mk.injEq, and_assoc]
theorem q_eql_Dot {C : World → Prop} {σ : Env} {o : Oper} {x y : Operand} {ty : TypeId} {a b : Dot} (ho : o.op = .binOp .eql 55 x y ty) (hx : ev σ x = .agg #[.int .i64 a.s, .int .i64 a.n]) (hy : ev σ y = .agg #[.int .i64 b.s, .int .i64 b.n]) : QV Try.prog C σ o (.bool (a == b)) :=
  fun w _ => by
    have h1 : (eqGuard .eql 55 x y (.agg #[.int .i64 a.s, .int .i64 a.n]) (.agg #[.int .i64 b.s, .int .i64 b.n])).run Try.prog w = .ok () w := run_eqGuard_agg w .eql 55 x y _ _ Try.eqGuardType55
    have h2 : (Op.equalIn 10000 55 (.agg #[.int .i64 a.s, .int .i64 a.n]) (.agg #[.int .i64 b.s, .int .i64 b.n])).run Try.prog w = .ok (a == b) w := by
      rw [run_equalIn_agg w 9999 55 _ _ (by kernel_rfl) Try.stoodInHeld55, Dot.beq_]
      simp [Program.fieldsOf, Try.underlying55, Op.eqFields, part, Try.isAgg2, Try.underlying2, Try.isAgg3, Try.underlying3, run_equalIn_int, Sem.run_bind, Sem.run_pure]
      clear hx hy h1; by_cases e0 : a.s = b.s <;> by_cases e1 : a.n = b.n <;> simp [e0, e1]
    simp only [execOp, ho, hx, hy, Sem.run_bind, h1, Result.andThen_ok, run_eql_struct, h2, Sem.run_pure]
theorem q_neq_Dot {C : World → Prop} {σ : Env} {o : Oper} {x y : Operand} {ty : TypeId} {a b : Dot} (ho : o.op = .binOp .neq 55 x y ty) (hx : ev σ x = .agg #[.int .i64 a.s, .int .i64 a.n]) (hy : ev σ y = .agg #[.int .i64 b.s, .int .i64 b.n]) : QV Try.prog C σ o (.bool (a != b)) :=
  fun w _ => by
    have h1 : (eqGuard .neq 55 x y (.agg #[.int .i64 a.s, .int .i64 a.n]) (.agg #[.int .i64 b.s, .int .i64 b.n])).run Try.prog w = .ok () w := run_eqGuard_agg w .neq 55 x y _ _ Try.eqGuardType55
    have h2 : (Op.equalIn 10000 55 (.agg #[.int .i64 a.s, .int .i64 a.n]) (.agg #[.int .i64 b.s, .int .i64 b.n])).run Try.prog w = .ok (a == b) w := by
      rw [run_equalIn_agg w 9999 55 _ _ (by kernel_rfl) Try.stoodInHeld55, Dot.beq_]
      simp [Program.fieldsOf, Try.underlying55, Op.eqFields, part, Try.isAgg2, Try.underlying2, Try.isAgg3, Try.underlying3, run_equalIn_int, Sem.run_bind, Sem.run_pure]
      clear hx hy h1; by_cases e0 : a.s = b.s <;> by_cases e1 : a.n = b.n <;> simp [e0, e1]
    simp only [execOp, ho, hx, hy, Sem.run_bind, h1, Result.andThen_ok, run_neq_struct, h2, Sem.run_pure]; rfl
theorem Span.beq_ (a b : Span) : (a == b) = ((a.s == b.s) && (a.f == b.f) && (a.t == b.t)) := by
  rw [Bool.eq_iff_iff]; simp only [beq_iff_eq, Bool.and_eq_true]; cases a; cases b; simp [Span.mk.injEq, and_assoc]
theorem q_eql_Span {C : World → Prop} {σ : Env} {o : Oper} {x y : Operand} {ty : TypeId} {a b : Span} (ho : o.op = .binOp .eql 106 x y ty) (hx : ev σ x = .agg #[.int .i64 a.s, .int .i64 a.f, .int .i64 a.t]) (hy : ev σ y = .agg #[.int .i64 b.s, .int .i64 b.f, .int .i64 b.t]) : QV Try.prog C σ o (.bool (a == b)) :=
  fun w _ => by
    have h1 : (eqGuard .eql 106 x y (.agg #[.int .i64 a.s, .int .i64 a.f, .int .i64 a.t]) (.agg #[.int .i64 b.s, .int .i64 b.f, .int .i64 b.t])).run Try.prog w = .ok () w := run_eqGuard_agg w .eql 106 x y _ _ Try.eqGuardType106
    have h2 : (Op.equalIn 10000 106 (.agg #[.int .i64 a.s, .int .i64 a.f, .int .i64 a.t]) (.agg #[.int .i64 b.s, .int .i64 b.f, .int .i64 b.t])).run Try.prog w = .ok (a == b) w := by
      rw [run_equalIn_agg w 9999 106 _ _ (by kernel_rfl) Try.stoodInHeld106, Span.beq_]
      simp [Program.fieldsOf, Try.underlying106, Op.eqFields, part, Try.isAgg2, Try.underlying2, Try.isAgg3, Try.underlying3, run_equalIn_int, Sem.run_bind, Sem.run_pure]
      clear hx hy h1; by_cases e0 : a.s = b.s <;> by_cases e1 : a.f = b.f <;> by_cases e2 : a.t = b.t <;> simp [e0, e1, e2]
    simp only [execOp, ho, hx, hy, Sem.run_bind, h1, Result.andThen_ok, run_eql_struct, h2, Sem.run_pure]
theorem q_neq_Span {C : World → Prop} {σ : Env} {o : Oper} {x y : Operand} {ty : TypeId} {a b : Span} (ho : o.op = .binOp .neq 106 x y ty) (hx : ev σ x = .agg #[.int .i64 a.s, .int .i64 a.f, .int .i64 a.t]) (hy : ev σ y = .agg #[.int .i64 b.s, .int .i64 b.f, .int .i64 b.t]) : QV Try.prog C σ o (.bool (a != b)) :=
  fun w _ => by
    have h1 : (eqGuard .neq 106 x y (.agg #[.int .i64 a.s, .int .i64 a.f, .int .i64 a.t]) (.agg #[.int .i64 b.s, .int .i64 b.f, .int .i64 b.t])).run Try.prog w = .ok () w := run_eqGuard_agg w .neq 106 x y _ _ Try.eqGuardType106
    have h2 : (Op.equalIn 10000 106 (.agg #[.int .i64 a.s, .int .i64 a.f, .int .i64 a.t]) (.agg #[.int .i64 b.s, .int .i64 b.f, .int .i64 b.t])).run Try.prog w = .ok (a == b) w := by
      rw [run_equalIn_agg w 9999 106 _ _ (by kernel_rfl) Try.stoodInHeld106, Span.beq_]
      simp [Program.fieldsOf, Try.underlying106, Op.eqFields, part, Try.isAgg2, Try.underlying2, Try.isAgg3, Try.underlying3, run_equalIn_int, Sem.run_bind, Sem.run_pure]
      clear hx hy h1; by_cases e0 : a.s = b.s <;> by_cases e1 : a.f = b.f <;> by_cases e2 : a.t = b.t <;> simp [e0, e1, e2]
    simp only [execOp, ho, hx, hy, Sem.run_bind, h1, Result.andThen_ok, run_neq_struct, h2, Sem.run_pure]; rfl
end Fw
end Go.Proofs.Ytlbdlkgboliikaa
