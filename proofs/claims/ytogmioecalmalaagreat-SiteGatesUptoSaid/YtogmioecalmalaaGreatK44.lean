/- slices.Sort on a row of numbers of the call's own. No condition. -/
import Derived.Test.YtogmioecalmalaaGreatK41
import Derived.Test.YtogmioecalmalaaGreatK5
import Derived.Sort.OwnSortedInts
import Derived.Shelf.SortM.Plain
import Derived.Shelf.SortM.SortNone
namespace Go.Proofs.YtogmioecalmalaaGreat
namespace Fw
set_option linter.unusedVariables false
set_option linter.unusedSimpArgs false
set_option linter.unusedSectionVars false
open Go.RowKit Go.Shelf Go.Sort
theorem gM (l : List Int) : (srtI l).length = l.length := (kA l).length_eq
theorem yz (xs : List Int) : (xs.map (fun x => [Value.int .i64 x])).flatten = xs.map (Value.int .i64) := by
 induction xs with
 | nil => rfl
 | cons x xs ih => simp [ih]
section
variable {P : Program} {ρ : Ren} {Γ : Gh} {e : TypeId} {row : Rowb} {A : Option Addr} {c : Nat} {xs : List Int} {w : World}
theorem Eff.same2 {U : List Rowb} (hp : Pre U Γ w) : Eff Γ Γ U U w w :=
 ⟨Fr.refl _ _, hp.sat, Gh.refl _, fun b o hb => .inl ⟨o, hb⟩, hp.loc, fun r hr p hq => .inl ⟨r, hr, p, hq, rfl⟩, hp.out, hp.nodup⟩
theorem qn (L : SlLaysM.n5 P ρ) (ho : Own intT Γ e row A c xs) (hp : Pre [row] Γ w) :
  Calls P (ρ.f 5) #[.slice A xs.length c] w (Outc Γ [row] w fun U Δ v => v = .tuple #[] ∧ ∃ row', U = [row'] ∧ Own intT Δ e row' A c (srtI xs)) := by
 rcases ho.is with ⟨rfl, rfl, rfl, rfl⟩ | ⟨b, cur, css, rfl, rfl, h3, h4, h5, h6, h7, h8⟩
 ·refine (AnyM.slices_Sort_int_none L none 0 w).mono ?_
  rintro e' w' ⟨rfl, rfl⟩
  exact ⟨_, rfl, Γ, [[]], Eff.same2 hp, rfl, [], rfl, ho⟩
 ·have hb : w.heap[b]? = some (.cells cur e (0, 0)) := hp.loc _ List.mem_cons_self _ List.mem_cons_self
  have hΓb : Γ b = none := hp.out _ List.mem_cons_self _ List.mem_cons_self
  have hg : ∀ i (h1 : i < css.length), css[i] = [.int .i64 (gt xs i)] := fun i h1 => (h8 i h1).1
  have hcs : css.flatten = xs.map (Value.int .i64) := by
   have : css = xs.map (fun x => [Value.int .i64 x]) := by
    apply List.ext_getElem
    ·simp [h6]
    ·intro i a1 a2
     rw [hg i a1, List.getElem_map, cm (by simpa [h6] using a1)]
   rw [this]; exact yz xs
  have h7' : cur.toList.take xs.length = xs.map (Value.int .i64) := by rw [← hcs, ← h7]; show _ = cur.toList.take (xs.length * 1); rw [Nat.mul_one]
  have hle := ho.le
  have hlm : lim ≤ 4611686018427387903 := by unfold lim; decide
  refine (AnyM.slices_Sort_int L b 0 c xs w (holds_of_blockI hb h7') (bP hb) (by omega)).mono ?_
  rintro e' w' ⟨rfl, n, os, rfl⟩
  have hz : (xs.mergeSort fun x y => decide (x ≤ y)) = srtI xs := (xB xs).symm
  rw [hz]
  have hf := grownBy_sortedI (w := w) (g := b) (n := n) (os := os) (srtI xs).toArray
  have hd : w.drawn ≤ (grow (putRow (Value.int .i64) (Sort.ahead w n) b 0 (srtI xs).toArray) os).drawn := by show w.drawn ≤ w.drawn + n; omega
  have hfr := Fr.of_grown hf hd
  have hid : ∀ {q}, ids [[(b, Obj.cells cur e (0, 0))]] q ↔ q = b := by
   intro q
   simp [ids, eq_comm]
  have hc5 : cur.size = c * 1 := h5
  have hnew := heap_sortedI (w := w) (g := b) (n := n) (os := os) (srtI xs).toArray hb
  refine ⟨_, rfl, Γ, [[(b, .cells (putCells (Value.int .i64) 0 (srtI xs).toArray cur) e (0, 0))]], ?_, rfl, _, rfl, ?_⟩
  ·refine ⟨hfr.mono fun k hk => hid.2 (by injection hk), fun q o hq => ?_, Gh.refl _, fun q o hq => .inl ⟨o, hq⟩, ?_, ?_, ?_, by simp⟩
   ·have hqb : q ≠ b := by rintro rfl; rw [hΓb] at hq; cases hq
    have hq2 := hp.sat q o hq
    rw [hfr.keep q (bP hq2) (fun h => hqb (by injection h))]; exact hq2
   ·intro r hr p hpr
    rw [List.mem_singleton] at hr; subst hr
    rw [List.mem_singleton] at hpr; subst hpr
    exact hnew
   ·intro r hr p hpr
    rw [List.mem_singleton] at hr; subst hr
    rw [List.mem_singleton] at hpr; subst hpr
    exact .inl (hid.2 rfl)
   ·intro r hr p hpr
    rw [List.mem_singleton] at hr; subst hr
    rw [List.mem_singleton] at hpr; subst hpr
    exact hΓb
  ·refine ⟨by rw [gM]; exact ho.le, .inr ⟨b, _, (srtI xs).map (fun x => [Value.int .i64 x]), rfl, rfl, by rw [gM]; exact h3, h4, by simp [putCells, h5], by simp, ?_, ?_⟩⟩
   ·show List.take ((srtI xs).length * 1) _ = _
    rw [Nat.mul_one, take_putCellsI cur (srtI xs) (by rw [gM]; omega)]
    exact (yz _).symm
   ·intro i hi
    have hi' : i < (srtI xs).length := by simpa using hi
    rw [List.getElem_map]
    refine ⟨by rw [cm hi'], ?_⟩
    rw [cm hi']
    have hm : (srtI xs)[i] ∈ xs := (kA xs).mem_iff.1 (List.getElem_mem hi')
    obtain ⟨j, hj, he⟩ := List.getElem_of_mem hm
    rw [← he, ← cm hj]
    exact (h8 j (by omega)).2
end
end Fw
end Go.Proofs.YtogmioecalmalaaGreat
