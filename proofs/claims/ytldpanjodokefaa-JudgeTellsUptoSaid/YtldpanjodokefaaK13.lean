/- slices.SortFunc on a row of the call's own: what the shelf's contract gives. No condition. -/
import Derived.Test.YtldpanjodokefaaK12
import Derived.Shelf.SlSortCmp.WholeK
namespace Go.Proofs.Ytldpanjodokefaa
namespace Fw
set_option linter.unusedVariables false
set_option linter.unusedSimpArgs false
set_option linter.unusedSectionVars false
open Go.RowKit Go.Shelf Go.Sort

theorem world_ext {a b : World} (h1 : a.heap = b.heap) (h2 : a.tape = b.tape) (h3 : a.drawn = b.drawn) (h4 : a.os = b.os) (h5 : a.output = b.output) : a = b := by
  cases a; cases b; simp_all
/-- what nothing has turned has grown -/
theorem Fr.grown {a b : World} (h : Fr no a b) : ∃ q os, b = Go.Sort.grow (a.drewN q) os := by
  refine ⟨b.drawn - a.drawn, b.heap.extract a.heap.size b.heap.size, world_ext ?_ h.tape ?_ h.os h.output⟩
  · show b.heap = a.heap ++ b.heap.extract a.heap.size b.heap.size
    apply Array.ext_getElem?
    intro k
    by_cases hk : k < a.heap.size
    · rw [Array.getElem?_append_left hk, h.keep k hk id]
    · rw [Array.getElem?_append_right (by omega), Array.getElem?_extract]
      have := h.size
      split
      · rw [show a.heap.size + (k - a.heap.size) = k by omega]
      · rw [Array.getElem?_eq_none (by omega)]
  · show b.drawn = a.drawn + (b.drawn - a.drawn)
    have := h.draw rfl; omega
section
variable {P : Program} {ρ : Ren} {α : Type} [Inhabited α] [DecidableEq α] {T : Ty α} {Γ : Gh} {e : TypeId} {row : Rowb} {A : Option Addr} {c : Nat} {xs ys : List α} {w : World} {g : Nat} {cmp : α → α → Option Int}
theorem sorted_heap {β : Type} [Inhabited β] (enc : β → List Value) (k : Nat) (w : World) (b n : Nat) (d : Array β) (os : Array Obj) {cur : Array Value} (hb : w.heap[b]? = some (.cells cur e (0, 0))) :
    (sortWorldK enc k w b 0 n d os).heap[b]? = some (.cells (putCells id 0 (flatK enc k d) cur) e (0, 0)) ∧ (∀ q, q < w.heap.size → q ≠ b → (sortWorldK enc k w b 0 n d os).heap[q]? = w.heap[q]?) ∧ w.heap.size ≤ (sortWorldK enc k w b 0 n d os).heap.size := by
  have hlt := heap_lt hb
  have hh : (sortWorldK enc k w b 0 n d os).heap = w.heap.modify b (onCells (putCells id 0 (flatK enc k d))) ++ os := rfl
  refine ⟨?_, fun q hq hqb => ?_, ?_⟩
  · rw [hh, Array.getElem?_append_left (by simpa using hlt), Array.getElem?_modify, if_pos rfl, hb]; rfl
  · rw [hh, Array.getElem?_append_left (by simpa using hq), Array.getElem?_modify, if_neg (Ne.symm hqb)]
  · rw [hh]; simp
theorem sort_own (L : SlLaysF0.n6 P ρ) (aE : ∀ w, (isAgg (ρ.t 24)).run P w = .ok true w) (zE : ∀ w, (Go.sizeOf (ρ.t 24)).run P w = .ok T.n w) (eg : ∀ args w, (callFunc g args).run P w = .ok (.enter g args) w)
    (hc : ∀ {W : World} {x y : α} {cs ds : List Value} {r : Int}, T.rd (Gh.all W) cs x → T.rd (Gh.all W) ds y → cmp x y = some r → Calls P g #[.agg cs.toArray, .agg ds.toArray] W fun e' w' => e' = .returned (.int .i64 r) ∧ Fr no W w')
    (ho : Own T Γ e row A c xs) (hp : Pre [row] Γ w) (hm : m_sort cmp xs = some ys) :
    Calls P (ρ.f 6) #[.slice A xs.length c, .func (.func g) #[] #[]] w (Outc Γ [row] w fun U Δ v => v = .tuple #[] ∧ ∃ row', U = [row'] ∧ Own T Δ e row' A c ys) := by
  obtain ⟨htri, hne⟩ := m_sort_tri hm
  rcases ho.is with ⟨_, rfl, _⟩ | ⟨b, cur, css, rfl, rfl, h3, h4, h5, h6, h7, h8⟩
  · exact absurd rfl hne
  have hb : w.heap[b]? = some (.cells cur e (0, 0)) := hp.loc _ List.mem_cons_self _ List.mem_cons_self
  have hΓb : Γ b = none := hp.out _ List.mem_cons_self _ List.mem_cons_self
  have hpos := T.pos
  have hx0 : 0 < xs.length := List.length_pos_iff.2 hne
  let β := {p : List Value × α // T.rd Γ p.1 p.2 ∧ p.2 ∈ xs}
  let el : (i : Nat) → i < xs.length → β := fun i hi => ⟨(css[i]'(by omega), gt xs i), h8 i (by omega), by rw [gt_eq hi]; exact List.getElem_mem hi⟩
  haveI : Inhabited β := ⟨el 0 hx0⟩
  let enc : β → List Value := fun p => p.1.1
  let cf : β → β → Int := fun p q => (cmp p.1.2 q.1.2).getD 0
  let d : Array β := Array.ofFn (n := xs.length) fun i => el i.1 i.2
  have hds : d.size = xs.length := by simp [d]
  have hdg : ∀ i (hi : i < xs.length), d[i]! = el i hi := by
    intro i hi
    rw [getElem!_pos d i (by rw [hds]; exact hi)]
    simp [d]
  have hk : ∀ p, (enc p).length = T.n := fun p => T.len p.2.1
  have h1 : ∀ p, ∀ v ∈ enc p, v.oneCell' = true := fun p => T.one p.2.1
  have hlt : ∀ p q, ltOf cf p q = ltm cmp p.1.2 q.1.2 := by
    intro p q
    unfold ltOf ltm
    show decide ((cmp p.1.2 q.1.2).getD 0 < 0) = _
    cases cmp p.1.2 q.1.2 <;> simp
  have hO : SWO (ltOf cf) := ⟨fun p => by rw [hlt]; exact htri.irr _ p.2.2, fun p q r a b => by rw [hlt] at *; exact htri.trans _ _ _ p.2.2 q.2.2 r.2.2 a b, fun p q r a b => by rw [hlt] at *; exact htri.ntrans p.2.2 q.2.2 r.2.2 a b⟩
  have hcell : ∀ j, j < xs.length * T.n → cur[j]? = some ((flatK enc T.n d)[j]!) := by
    intro j hj
    have hjn : j / T.n < xs.length := Nat.div_lt_of_lt_mul (by rw [Nat.mul_comm]; exact hj)
    have hm' : j % T.n < T.n := Nat.mod_lt _ hpos
    rw [get_flatK _ _ _ j (by rw [hds]; exact hj), hdg _ hjn]
    have hall : ∀ cs ∈ css, cs.length = T.n := by
      intro cs hcs
      obtain ⟨k, hk, rfl⟩ := List.getElem_of_mem hcs
      exact T.len (h8 k hk)
    have h9 := flatten_get T.n css (j / T.n) (j % T.n) (by omega) hall hm'
    rw [show j / T.n * T.n + j % T.n = j by rw [Nat.mul_comm]; exact Nat.div_add_mod j T.n, ← h7, List.getElem?_take, if_pos hj] at h9
    rw [← Array.getElem?_toList, h9]
    show (css[j / T.n]'(by omega))[j % T.n]? = some ((css[j / T.n]'(by omega))[j % T.n]!)
    have hl := T.len (h8 (j / T.n) (by omega))
    rw [List.getElem?_eq_getElem (by omega), getElem!_pos _ _ (by omega)]
  have hH : HoldsK enc T.n w b 0 d := by
    intro j hj
    rw [size_flatK, hds] at hj
    rw [Nat.zero_add]
    refine ⟨?_, ?_⟩
    · rw [cell_of_row w b j cur e (0, 0) hb]; exact hcell j hj
    · simp [World.frozen?, hb]
  have hcmp : CmpLays P g #[] enc T.n cf b 0 d.size w := by
    intro m os dk hs x y
    obtain ⟨hw1, hw2, hw3⟩ := sorted_heap enc T.n w b m dk os hb
    have hsat : Γ.le (Gh.all (sortWorldK enc T.n w b 0 m dk os)) := by
      intro q o hq
      have hqb : q ≠ b := by rintro rfl; rw [hΓb] at hq; cases hq
      have hq2 := hp.sat q o hq
      show (sortWorldK enc T.n w b 0 m dk os).heap[q]? = some o
      rw [hw2 q (heap_lt hq2) hqb]; exact hq2
    obtain ⟨r, hr⟩ := Option.isSome_iff_exists.1 (htri.dfd _ _ x.2.2 y.2.2)
    refine (hc (W := sortWorldK enc T.n w b 0 m dk os) (T.mono x.2.1 hsat) (T.mono y.2.1 hsat) hr).mono ?_
    rintro e' w' ⟨rfl, hf⟩
    refine ⟨?_, hf.grown⟩
    show Ending.returned (.int .i64 r) = .returned (.int .i64 ((cmp x.1.2 y.1.2).getD 0))
    rw [hr]; rfl
  have hle := ho.le
  rw [lim_eq] at hle
  have hcon := AnyQ.slices_SortFunc L T.n aE zE enc hk h1 cf hO g #[] b 0 c d w eg hcmp hH (heap_lt hb) (by rw [hds]; omega)
  rw [hds] at hcon
  refine hcon.mono ?_
  rintro e' w' ⟨rfl, d', n, os, ⟨hs', _, hpm⟩, hsd, rfl⟩
  have hd's : d'.size = xs.length := by rw [hs', hds]
  have hpm2 : d'.toList.Perm d.toList := by
    have e1 : d'.extract 0 xs.length = d' := by rw [← hd's]; simp
    have e2 : d.extract 0 xs.length = d := by rw [← hds]; simp
    rwa [e1, e2] at hpm
  have hdx : d.toList.map (fun p : β => p.1.2) = xs := by
    apply List.ext_getElem
    · simp [hds]
    · intro i a1 a2
      simp [d, el, gt_eq a2]
  have hz : d'.toList.map (fun p : β => p.1.2) = ys := by
    refine (m_sort_eq hm ((hpm2.map (fun p : β => p.1.2)).trans (List.Perm.of_eq hdx)) ?_).1
    rw [List.pairwise_map, List.pairwise_iff_getElem]
    intro i j hi hj hij
    rw [← hlt]
    have := hsd i j (Nat.zero_le _) hij (by simpa [hd's] using hj)
    rwa [getElem!_pos d' j (by simpa using hj), getElem!_pos d' i (by simpa using hi)] at this
  have hyl : ys.length = xs.length := by rw [← hz]; simp [hd's]
  obtain ⟨hw1, hw2, hw3⟩ := sorted_heap enc T.n w b n d' os hb
  refine ⟨_, rfl, Γ, [[(b, .cells (putCells id 0 (flatK enc T.n d') cur) e (0, 0))]], ?_, rfl, _, rfl, ?_⟩
  · have hid : ∀ {q}, ids [[(b, Obj.cells cur e (0, 0))]] q ↔ q = b := by
      intro q
      simp [ids, eq_comm]
    refine ⟨⟨rfl, rfl, rfl, fun _ => by show w.drawn ≤ w.drawn + n; omega, hw3, fun q hq hn => hw2 q hq (fun h => hn (hid.2 h))⟩, fun q o hq => ?_, Gh.refl _, fun q o hq => .inl ⟨o, hq⟩, ?_, ?_, ?_, by simp⟩
    · have hqb : q ≠ b := by rintro rfl; rw [hΓb] at hq; cases hq
      have hq2 := hp.sat q o hq
      rw [hw2 q (heap_lt hq2) hqb]; exact hq2
    · intro r hr p hpr
      rw [List.mem_singleton] at hr; subst hr
      rw [List.mem_singleton] at hpr; subst hpr
      exact hw1
    · intro r hr p hpr
      rw [List.mem_singleton] at hr; subst hr
      rw [List.mem_singleton] at hpr; subst hpr
      exact .inl (hid.2 rfl)
    · intro r hr p hpr
      rw [List.mem_singleton] at hr; subst hr
      rw [List.mem_singleton] at hpr; subst hpr
      exact hΓb
  · refine ⟨by rw [hyl]; exact ho.le, .inr ⟨b, _, d'.toList.map enc, rfl, rfl, by omega, h4, by simp [putCells, h5], by simp [hd's, hyl], ?_, ?_⟩⟩
    · have hall : ∀ cs ∈ d'.toList.map enc, cs.length = T.n := by
        intro cs hcs
        obtain ⟨p, _, rfl⟩ := List.mem_map.1 hcs
        exact hk p
      have hmul : xs.length * T.n ≤ cur.size := by rw [h5]; exact Nat.mul_le_mul_right _ h3
      apply List.ext_getElem?
      intro j
      rw [hyl]
      by_cases hj : j < xs.length * T.n
      · have hjn : j / T.n < xs.length := Nat.div_lt_of_lt_mul (by rw [Nat.mul_comm]; exact hj)
        have hm' : j % T.n < T.n := Nat.mod_lt _ hpos
        rw [List.getElem?_take, if_pos hj, Array.getElem?_toList]
        have hjc : j < cur.size := by omega
        have h10 : (putCells id 0 (flatK enc T.n d') cur)[j]? = some ((flatK enc T.n d')[j]!) := by
          unfold putCells
          rw [Array.getElem?_mapIdx, Array.getElem?_eq_getElem hjc]
          simp only [Option.map_some, size_flatK, hd's, Nat.zero_le, true_and, Nat.zero_add, hj, if_true, Nat.sub_zero, id]
        rw [h10, get_flatK _ _ _ j (by rw [hd's]; exact hj)]
        have h11 := flatten_get T.n (d'.toList.map enc) (j / T.n) (j % T.n) (by simpa [hd's] using hjn) hall hm'
        rw [show j / T.n * T.n + j % T.n = j by rw [Nat.mul_comm]; exact Nat.div_add_mod j T.n] at h11
        rw [h11, List.getElem_map, Array.getElem_toList, getElem!_pos d' _ (by rw [hd's]; exact hjn)]
        have hl := hk (d'[j / T.n]'(by rw [hd's]; exact hjn))
        rw [List.getElem?_eq_getElem (by omega), getElem!_pos _ _ (by omega)]
      · rw [List.getElem?_take, if_neg hj, List.getElem?_eq_none]
        rw [flatten_len T.n _ hall, List.length_map, Array.length_toList, hd's]; omega
    · intro i hi
      have hi' : i < d'.size := by simpa using hi
      have : gt ys i = (d'[i]).1.2 := by
        rw [← hz, gt_eq (by simpa using hi')]; simp
      rw [this, List.getElem_map]
      simpa using (d'[i]).2.1
end
end Fw
end Go.Proofs.Ytldpanjodokefaa
