/- The laws of loads, stores, new blocks, append, calls, for the engine. No condition. -/
import Derived.Test.YtlbdlkgboliikaaL4
namespace Go.Proofs.Ytlbdlkgboliikaa
namespace Fw
set_option linter.unusedVariables false
set_option linter.unusedSimpArgs false
open Go.RowKit

section
variable {P : Program} {N : Nat} {Q : Exit → Env → World → Prop} {σ : Env} {o : Oper} {S X : Nat → Prop} {E B : World} {L : List Rowb} {ops : Array Oper} {rest : List Oper} {α : Type} {T : Ty α}

abbrev CC (S : Nat → Prop) (E : World) (X : Nat → Prop) (B : World) (L : List Rowb) : World → Prop := fun w => Cur S E X B L w

theorem Cell.now {A : Option Addr} {j : Nat} {v : Value} {w : World} (h : Cell X B A j v) (hc : Cur S E X B L w) : ∃ b o', A = some ⟨b, o', none⟩ ∧ w.cell? ⟨b, o' + j, none⟩ = some v := by
  obtain ⟨b, o', rfl, _, h2⟩ := h.step hc.st0
  exact ⟨b, o', rfl, h2⟩

theorem run_loadAt_cell {t : TypeId} {w : World} {a : Addr} {v : Value} (ht : ∀ w, (isAgg t).run P w = .ok false w) (hc : w.cell? a = some v) : (Instr.loadAt t (.pointer (some a))).run P w = .ok v w := by
  simp [Instr.loadAt, Instr.sureAddr, loadVar, ht, load, Sem.run, hc, Sem.run_pure, Sem.run_bind]
theorem run_loadAt_cells {t : TypeId} {w : World} {a : Addr} {vs : List Value} (ht : ∀ w, (isAgg t).run P w = .ok true w) (hz : ∀ w, (sizeOf t).run P w = .ok vs.length w) (hc : ∀ j v, vs[j]? = some v → w.cell? (a.add j) = some v) :
    (Instr.loadAt t (.pointer (some a))).run P w = .ok (.agg vs.toArray) w := by
  simp [Instr.loadAt, Instr.sureAddr, loadVar, ht, hz, run_loadCells_list w a vs hc, Sem.run_pure, Sem.run_bind]

theorem q_load_cell {x : Operand} {t : TypeId} {A : Option Addr} {j : Nat} {v : Value} (ho : o.op = .load t x) (ht : ∀ w, (isAgg t).run P w = .ok false w) (hx : ev σ x = ptrAt A j) (hc : Cell X B A j v) : QV P (CC S E X B L) σ o v :=
  fun w hw => by
    obtain ⟨b, o', rfl, h2⟩ := hc.now hw
    simp only [execOp, ho, hx, ptrAt, Option.map_some, addr_add, Sem.run_bind]
    rw [run_loadAt_cell ht h2]; rfl

theorem q_load_agg {x : Operand} {t : TypeId} {A : Option Addr} {j : Nat} {vs : List Value} (ho : o.op = .load t x) (ht : ∀ w, (isAgg t).run P w = .ok true w) (hz : ∀ w, (sizeOf t).run P w = .ok vs.length w) (hx : ev σ x = ptrAt A j) (hA : A.isSome = true)
    (hc : ∀ i (hi : i < vs.length), Cell X B A (j + i) vs[i]) : QV P (CC S E X B L) σ o (.agg vs.toArray) :=
  fun w hw => by
    cases A with
    | none => cases hA
    | some a =>
      simp only [execOp, ho, hx, ptrAt, Option.map_some, Sem.run_bind]
      rw [run_loadAt_cells ht hz]
      · rfl
      · intro i v hv
        obtain ⟨hi, rfl⟩ := List.getElem?_eq_some_iff.1 hv
        obtain ⟨b, o', he, h2⟩ := (hc i hi).now hw
        cases he
        rw [add_add, addr_add, h2]

theorem Cur.cell {w : World} (h : Cur S E X B L w) {i g j : Nat} {cs : Array Value} {t : TypeId} (hi : L[i]? = some [(g, .cells cs t (0, 0))]) : w.cell? ⟨g, j, none⟩ = cs[j]? :=
  cell_of_row w g j cs t (0, 0) (h.at_ hi (p := (g, .cells cs t (0, 0))) (by simp))

theorem q_load_loc {x : Operand} {t e : TypeId} {i g j : Nat} {cs : Array Value} {v : Value} (ho : o.op = .load t x) (ht : ∀ w, (isAgg t).run P w = .ok false w) (hx : ev σ x = .pointer (some ⟨g, j, none⟩)) (hi : L[i]? = some [(g, .cells cs e (0, 0))]) (hv : cs[j]? = some v) :
    QV P (CC S E X B L) σ o v :=
  fun w hw => by
    simp only [execOp, ho, hx, Sem.run_bind]
    rw [run_loadAt_cell ht ((hw.cell hi).trans hv)]; rfl

theorem q_load_loc_agg {x : Operand} {t e : TypeId} {i g j : Nat} {cs : Array Value} {vs : List Value} (ho : o.op = .load t x) (ht : ∀ w, (isAgg t).run P w = .ok true w) (hz : ∀ w, (sizeOf t).run P w = .ok vs.length w) (hx : ev σ x = .pointer (some ⟨g, j, none⟩))
    (hi : L[i]? = some [(g, .cells cs e (0, 0))]) (hv : (cs.toList.drop j).take vs.length = vs) : QV P (CC S E X B L) σ o (.agg vs.toArray) :=
  fun w hw => by
    simp only [execOp, ho, hx, Sem.run_bind]
    rw [run_loadAt_cells ht hz]
    · rfl
    · intro k v hk
      rw [addr_add, hw.cell hi, ← Array.getElem?_toList]
      have hlt : k < vs.length := (List.getElem?_eq_some_iff.1 hk).1
      rw [← hv, List.getElem?_take, if_pos hlt, List.getElem?_drop] at hk
      exact hk

/-! ### new blocks -/
theorem run_newVar {t : TypeId} {v : Value} {w : World} : (newVar t v).run P w = .ok ⟨w.heap.size, 0, none⟩ (w.alloc (.cells v.cells t)) := rfl

theorem WR.new {d : Nat} {obj : Obj} (hg : o.guard = none) (hdst : o.dst = some d) (hd : okDst N (some d) = true) {mk : Nat → Value}
    (hr : ∀ w, Cur S E X B L w → (execOp (ev σ) o).run P w = .ok (.value (mk w.heap.size)) (w.alloc obj))
    (k : ∀ g, B.heap.size ≤ g → E.heap.size ≤ g → WR P N ops (CC S E X B ([(g, obj)] :: L)) Q rest (upd σ d (mk g))) : WR P N ops (CC S E X B L) Q (o :: rest) σ := by
  refine WR.eff hg (by rw [hdst]; exact hd) fun w hw => ⟨_, _, .inl (hr w hw), ?_⟩
  rw [hdst]
  exact k w.heap.size hw.fr.size hw.frE.size _ (hw.new obj)

theorem e_alloc {t : TypeId} {z : Value} {d : Nat} (hg : o.guard = none) (hdst : o.dst = some d) (hd : okDst N (some d) = true) (ho : o.op = .alloc t) (hz : ∀ w, (zeroValue t).run P w = .ok z w)
    (k : ∀ g, B.heap.size ≤ g → E.heap.size ≤ g → WR P N ops (CC S E X B ([(g, .cells z.cells t)] :: L)) Q rest (upd σ d (.pointer (some ⟨g, 0, none⟩)))) : WR P N ops (CC S E X B L) Q (o :: rest) σ :=
  WR.new (mk := fun g => .pointer (some ⟨g, 0, none⟩)) hg hdst hd (fun w _ => by simp [execOp, ho, Instr.alloc, hz, run_newVar, Sem.run_pure, Sem.run_bind]) k

theorem e_box {t : TypeId} {x : Operand} {v : Value} {d : Nat} (hg : o.guard = none) (hdst : o.dst = some d) (hd : okDst N (some d) = true) (ho : o.op = .box t x) (hx : ev σ x = v)
    (k : ∀ g, B.heap.size ≤ g → E.heap.size ≤ g → WR P N ops (CC S E X B ([(g, .cells v.cells t)] :: L)) Q rest (upd σ d (.pointer (some ⟨g, 0, none⟩)))) : WR P N ops (CC S E X B L) Q (o :: rest) σ :=
  WR.new (mk := fun g => .pointer (some ⟨g, 0, none⟩)) hg hdst hd (fun w _ => by simp [execOp, ho, hx, Instr.box, run_newVar, Sem.run_pure, Sem.run_bind]) k

theorem e_buildSlice {t e : TypeId} {n d : Nat} {parts : Array (Nat × Operand)} {cs : Array Value} (hg : o.guard = none) (hdst : o.dst = some d) (hd : okDst N (some d) = true) (ho : o.op = .buildSlice t n parts)
    (hr : ∀ w, (Instr.buildSlice t n (parts.map fun (i, x) => (i, ev σ x))).run P w = .ok (.slice (some ⟨w.heap.size, 0, none⟩) n n) (w.alloc (.cells cs e)))
    (k : ∀ g, B.heap.size ≤ g → E.heap.size ≤ g → WR P N ops (CC S E X B ([(g, .cells cs e)] :: L)) Q rest (upd σ d (.slice (some ⟨g, 0, none⟩) n n))) : WR P N ops (CC S E X B L) Q (o :: rest) σ :=
  WR.new (mk := fun g => .slice (some ⟨g, 0, none⟩) n n) hg hdst hd (fun w _ => by simp [execOp, ho, hr w, Sem.run_pure, Sem.run_bind]) k

/-! ### stores -/
theorem setRow_fr (w : World) (g : Nat) (cs : Array Value) : Fr (fun k => k = g) w (w.setRow g cs) :=
  ⟨rfl, rfl, rfl, by simp [World.setRow], fun k _ hk => by
    simp only [World.setRow, Array.getElem?_modify]
    rw [if_neg (fun e => hk e.symm)]⟩
theorem setRow_at (w : World) (g : Nat) (old cs : Array Value) (t : TypeId) (h : w.heap[g]? = some (.cells old t (0, 0))) : (w.setRow g cs).heap[g]? = some (.cells cs t (0, 0)) := by
  simp [World.setRow, Array.getElem?_modify, h]

theorem Cur.setRow {w : World} (h : Cur S E X B L w) {i g : Nat} {old cs : Array Value} {t : TypeId} (hi : L[i]? = some [(g, .cells old t (0, 0))]) : Cur S E X B (L.set i [(g, .cells cs t (0, 0))]) (w.setRow g cs) :=
  h.set hi ((setRow_fr w g cs).mono fun k hk => ⟨(g, .cells old t (0, 0)), by simp, hk.symm⟩)
    (fun p hp => by rw [List.mem_singleton.1 hp]; exact setRow_at w g old cs t (h.at_ hi (p := (g, .cells old t (0, 0))) (by simp)))
    (fun p hp => .inl ⟨(g, .cells old t (0, 0)), by simp, by rw [List.mem_singleton.1 hp]⟩) (by simp)

theorem e_store_loc {t e : TypeId} {ad x : Operand} {i g j sz : Nat} {old new : Array Value} {v : Value} {L' : List Rowb} (hg : o.guard = none) (hdst : o.dst = none) (ho : o.op = .store t ad x) (ha : ev σ ad = .pointer (some ⟨g, j, none⟩)) (hx : ev σ x = v)
    (hz : ∀ w, (sizeOf t).run P w = .ok sz w) (hsz : v.cells.size = sz) (h1 : v.cells.toList.all (·.oneCell') = true) (hi : L[i]? = some [(g, .cells old e (0, 0))]) (hfit : Nat.ble (j + v.cells.toList.length) old.size = true)
    (hnew : (old.toList.take j ++ v.cells.toList ++ old.toList.drop (j + v.cells.toList.length)).toArray = new) (hL : L.set i [(g, .cells new e (0, 0))] = L')
    (k : WR P N ops (CC S E X B L') Q rest σ) : WR P N ops (CC S E X B L) Q (o :: rest) σ := by
  refine WR.eff hg (by rw [hdst]; rfl) fun w hw => ⟨undef, w.setRow g new, .inr ⟨?_, rfl⟩, ?_⟩
  · have hb := hw.at_ hi (p := (g, .cells old e (0, 0))) (by simp)
    have hs := run_storeCells_at P g j e v.cells.toList 0 old w hb (by simpa using Nat.le_of_ble_eq_true hfit) (fun u hu => List.all_eq_true.1 h1 u hu)
    simp only [Nat.add_zero, hnew] at hs
    simp [execOp, ho, ha, hx, Instr.storeAt, Instr.sureAddr, storeVar, hz, hsz, hs, Sem.run_pure, Sem.run_bind]
  · rw [hdst]
    subst hL
    exact k _ (hw.setRow hi)

/-! ### calls -/
theorem call_run {ops' : Array Operand} {f : FuncId} {tys : Array TypeId} {args : Array Value} {ρ : Operand → Value} {ty : TypeId} (hc : ∀ (args : Array Value) (w : World), (callFunc f args).run P w = .ok (.enter f args) w) (ho : o.op = .call { callee := .value (.func f), args := ops', argTypes := tys })
    (hf : ρ (.func f) = .func (.func f) #[] #[]) (ha : ops'.map ρ = args) (w : World) : (execOp ρ o).run P w = .ok (.enter f args) w := by
  simp [execOp, ho, resolve, hf, Deferred.ofValue, ha, invoke, hc, Sem.run_pure, Sem.run_bind]

/-- a call that answers plain data and leaves the old world as it is -/
theorem q_call {as : Array Operand} {f : FuncId} {tys : Array TypeId} {args : Array Value} {v : Value} (hc : ∀ (args : Array Value) (w : World), (callFunc f args).run P w = .ok (.enter f args) w)
    (ho : o.op = .call { callee := .value (.func f), args := as, argTypes := tys }) (ha : as.map (ev σ) = args)
    (h : ∀ w, Cur S E X B L w → Calls P f args w fun e w' => e = .returned v ∧ Fr no w w') : QO P (CC S E X B L) σ o v := by
  intro w hw
  rw [call_run (ty := o.type) hc ho rfl ha w]
  exact ⟨rfl, (h w hw).mono fun e w' ⟨he, hf⟩ => ⟨he, hw.call hf⟩⟩

/-- a call, told by a contract: what comes behind is told at one world -/
theorem e_call {as : Array Operand} {f : FuncId} {tys : Array TypeId} {args : Array Value} {C : World → Prop} (hg : o.guard = none) (hd : okDst N o.dst = true) (hc : ∀ (args : Array Value) (w : World), (callFunc f args).run P w = .ok (.enter f args) w)
    (ho : o.op = .call { callee := .value (.func f), args := as, argTypes := tys }) (ha : as.map (ev σ) = args)
    (h : ∀ w, C w → Calls P f args w fun e w' => ∃ v, e = .returned v ∧ WRp P N ops Q rest (updo σ o.dst v) w') : WR P N ops C Q (o :: rest) σ :=
  WR.call hg hd (call_run (ty := o.type) hc ho rfl ha) h

/-! ### append -/
theorem Own.owns [Inhabited α] {w : World} {e : TypeId} {row : Rowb} {A : Option Addr} {c : Nat} {xs : List α} (h : Own T X B e row A c xs) (hr : ∀ p ∈ row, w.heap[p.1]? = some p.2) :
    ∃ css : List (List Value), w.ownsRow 0 e T.n (.slice A xs.length c) xs.length css.flatten ∧ css.length = xs.length ∧ ∀ i (h1 : i < css.length), T.rd X B css[i] (gt xs i) := by
  rcases h.is with ⟨rfl, rfl, rfl, rfl⟩ | ⟨g, cur, css, rfl, rfl, h3, h4, h5, h6, h7, h8⟩
  · exact ⟨[], World.ownsRow_nil w 0 e T.n, rfl, fun i h1 => by simp at h1⟩
  · have hall : ∀ cs ∈ css, cs.length = T.n := by
      intro cs hcs
      obtain ⟨k, hk, rfl⟩ := List.getElem_of_mem hcs
      exact T.len (h8 k hk)
    have hl : css.flatten.length = xs.length * T.n := by rw [flatten_len T.n css hall, h6]
    exact ⟨css, ⟨hl, .inr ⟨g, c, cur, rfl, Nat.zero_le _, hr (g, .cells cur e (0, 0)) (by simp), h3, h4, h5, h7⟩⟩, h6, h8⟩

theorem Own.of_owns [Inhabited α] {w : World} {e : TypeId} {A : Option Addr} {c : Nat} {xs : List α} {css : List (List Value)} (h : w.ownsRow 0 e T.n (.slice A xs.length c) xs.length css.flatten) (hn : css.length = xs.length) (hle : xs.length ≤ lim)
    (hrd : ∀ i (h1 : i < css.length), T.rd X B css[i] (gt xs i)) : ∃ row, Own T X B e row A c xs ∧ (∀ p ∈ row, w.heap[p.1]? = some p.2) ∧ (row.map (·.1)).Nodup ∧ ∀ p ∈ row, (Value.slice A xs.length c).ownBlock = some p.1 := by
  rcases h.2 with ⟨hv, h0⟩ | ⟨g, cap, cur, hv, _, hh, h3, h4, h5, h6⟩
  · injection hv with e1 e2 e3
    subst e1 e3
    exact ⟨[], ⟨hle, .inl ⟨rfl, List.eq_nil_of_length_eq_zero h0, rfl, rfl⟩⟩, by simp, by simp, by simp⟩
  · injection hv with e1 e2 e3
    subst e1 e3
    refine ⟨[(g, .cells cur e (0, 0))], ⟨hle, .inr ⟨g, cur, css, rfl, rfl, h3, h4, h5, hn, h6, hrd⟩⟩, ?_, by simp, ?_⟩
    · intro p hp; rw [List.mem_singleton.1 hp]; exact hh
    · intro p hp; rw [List.mem_singleton.1 hp]; rfl

theorem gt_append_left [Inhabited α] {xs ys : List α} {i : Nat} (h : i < xs.length) : gt (xs ++ ys) i = gt xs i := by simp [gt, List.getD, List.getElem?_append_left h]
theorem gt_append_right [Inhabited α] {xs ys : List α} {i : Nat} (h : xs.length ≤ i) : gt (xs ++ ys) i = gt ys (i - xs.length) := by simp [gt, List.getD, List.getElem?_append_right h]

/-- what is known of an element type for append -/
structure ElemOf (P : Program) (t e : TypeId) (T : Ty α) : Prop where
  sl : P.underlying t = some (.slice e)
  ex : ∃ ti, P.info? e = some ti ∧ ti.zero.map (fun z => z.cells.size) = some T.n ∧ ti.size = T.n ∧ ti.bytes ≤ 65536

/-- append: to a row of the call's own (place i of L), from whatever reads as a list -/
theorem e_append [Inhabited α] {t e : TypeId} {x y : Operand} {d i : Nat} {A : Option Addr} {c : Nat} {xs ys : List α} {row : Rowb} {A2 : Option Addr} {c2 : Nat} (hE : ElemOf P t e T) (hg : o.guard = none) (hdst : o.dst = some d) (hd : okDst N (some d) = true)
    (ho : o.op = .call { callee := .builtin .append, args := #[x, y], argTypes := #[t, t] })
    (hx : ev σ x = .slice A xs.length c) (hy : ev σ y = .slice A2 ys.length c2) (hL : L[i]? = some row) (hown : Own T X B e row A c xs) (hlen : xs.length + ys.length ≤ lim)
    (hsrc : ∀ w, Cur S E X B L w → (A2 = none ∧ ys = []) ∨ ∃ a2, A2 = some a2 ∧ ∃ css : List (List Value), css.length = ys.length ∧ (∀ k (h1 : k < css.length), T.rd X B css[k] (gt ys k)) ∧ ∀ j u, css.flatten[j]? = some u → w.cell? (a2.add j) = some u)
    (k : ∀ row' A' c', Own T X B e row' A' c' (xs ++ ys) → WR P N ops (CC S E X B (L.set i row')) Q rest (upd σ d (.slice A' (xs ++ ys).length c'))) : WR P N ops (CC S E X B L) Q (o :: rest) σ := by
  obtain ⟨ht, ti, hi, hzz, hsize, hby⟩ := hE
  obtain ⟨z, hz, hzs⟩ := Option.map_eq_some_iff.1 hzz
  refine WR.eff hg (by rw [hdst]; exact hd) fun w hw => ?_
  have hmem : row ∈ L := List.mem_of_getElem? hL
  obtain ⟨css, ho1, hcl, hrd⟩ := hown.owns (w := w) (hw.loc row hmem)
  rcases hsrc w hw with ⟨rfl, rfl⟩ | ⟨a2, rfl, css2, hc2, hrd2, hcell⟩
  · refine ⟨.slice A xs.length c, w, .inl ?_, ?_⟩
    · have hrun : (Builtin.append_ #[t, t] o.type #[.slice A xs.length c, .slice none 0 c2]).run P w = .ok (.slice A xs.length c) w := by
        have hnc := hown.capz
        rcases hown.is with ⟨rfl, rfl, rfl, _⟩ | ⟨g, cur, _, rfl, _⟩
        · simp [Builtin.append_, run_underlying ht, sizeOf, typeInfo, hi, Builtin.lenOf, Builtin.firstCells]
        · simp [Builtin.append_, run_underlying ht, sizeOf, typeInfo, hi, Builtin.lenOf, Builtin.firstCells, hnc, storeCells]
      simp only [List.length_nil] at hy
      simp [execOp, ho, resolve, invoke, builtin, hx, hy, hrun, Sem.run_pure, Sem.run_bind]
    · rw [hdst]
      have := k row A c (by rw [List.append_nil]; exact hown)
      rw [List.append_nil] at this
      refine this w ?_
      rw [show L.set i row = L from by
        apply List.ext_getElem?
        intro q
        rw [List.getElem?_set]
        split
        · rename_i hq; subst hq; split
          · exact hL.symm
          · rename_i hlt; rw [List.getElem?_eq_none (by omega)]
        · rfl]
      exact hw
  have hall : ∀ cs ∈ css2, cs.length = T.n := by
    intro cs hcs
    obtain ⟨q, hq, rfl⟩ := List.getElem_of_mem hcs
    exact T.len (hrd2 q hq)
  have hone : ∀ u ∈ css2.flatten, u.oneCell' = true := by
    intro u hu
    obtain ⟨cs, hcs, hu⟩ := List.mem_flatten.1 hu
    obtain ⟨q, hq, rfl⟩ := List.getElem_of_mem hcs
    exact T.one (hrd2 q hq) u hu
  have hl2 : css2.flatten.length = ys.length * T.n := by rw [flatten_len T.n css2 hall, hc2]
  have hbytes : (xs.length + ys.length) * ti.bytes ≤ 140737488355328 := by
    have h1 : (xs.length + ys.length) * ti.bytes ≤ 2147483648 * 65536 := Nat.mul_le_mul hlen hby
    omega
  have hmax : xs.length + ys.length ≤ maxLen := by have h1 := hlen; unfold lim at h1; unfold maxLen; omega
  obtain ⟨v', w', hrun, h2, h3, _, h5⟩ := run_append_own_at (P := P) w 0 t o.type e ti z T.n ti.bytes ht hi hz hsize rfl hzs T.pos (.slice A xs.length c) xs.length css.flatten ho1 a2 ys.length c2 css2.flatten hl2 hcell hone hmax hbytes (Nat.zero_le _)
  have hform : ∃ A' c', v' = .slice A' (xs ++ ys).length c' := by
    rw [List.length_append]
    rcases h2.2 with ⟨hv, h0⟩ | ⟨g, cap, cur, hv, _⟩
    · exact ⟨none, 0, by rw [hv, h0]⟩
    · exact ⟨_, _, hv⟩
  obtain ⟨A', c', rfl⟩ := hform
  rw [← List.flatten_append, ← List.length_append] at h2
  obtain ⟨row', hown', hrow', hnd', hob⟩ := Own.of_owns (T := T) (X := X) (B := B) (xs := xs ++ ys) h2 (by simp [hcl, hc2]) (by rw [List.length_append]; exact hlen) (fun q h1 => by
    by_cases hq : q < css.length
    · rw [List.getElem_append_left hq, gt_append_left (by omega)]
      exact hrd q hq
    · rw [List.getElem_append_right (by omega), gt_append_right (by omega)]
      simp only [hcl]
      exact hrd2 _ _)
  refine ⟨.slice A' (xs ++ ys).length c', w', .inl ?_, ?_⟩
  · simp only [execOp, ho, resolve, invoke, builtin, Sem.run_pure, Sem.run_bind, Result.andThen_ok, List.map_toArray, List.map_cons, List.map_nil, hx, hy, hrun]
  · rw [hdst]
    refine k row' A' c' hown' w' (hw.set hL ?_ hrow' ?_ hnd')
    · refine (Fr.of_grown h3).mono fun q hq => ?_
      rcases hown.is with ⟨rfl, _⟩ | ⟨g, cur, _, rfl, rfl, _⟩
      · simp [Value.ownBlock] at hq
      · simp [Value.ownBlock] at hq; exact ⟨_, List.mem_singleton.2 rfl, hq.symm⟩
    · intro p hp
      have := hob p hp
      rcases h5 with h5 | h5
      · rw [h5] at this
        rcases hown.is with ⟨rfl, _⟩ | ⟨g, cur, _, rfl, rfl, _⟩
        · simp [Value.ownBlock] at this
        · simp [Value.ownBlock] at this; exact .inl ⟨_, List.mem_singleton.2 rfl, this⟩
      · rw [h5] at this; injection this with this; exact .inr (by omega)

/-- the source of an append: data -/
theorem src_sl [Inhabited α] {A2 : Option Addr} {ys : List α} (h : Sl T X B A2 ys) {w : World} (hw : Cur S E X B L w) : (A2 = none ∧ ys = []) ∨ ∃ a2, A2 = some a2 ∧ ∃ css : List (List Value), css.length = ys.length ∧ (∀ k (h1 : k < css.length), T.rd X B css[k] (gt ys k)) ∧ ∀ j u, css.flatten[j]? = some u → w.cell? (a2.add j) = some u := by
  have hf : ∃ f : Nat → List Value, ∀ i, i < ys.length → T.rd X B (f i) (gt ys i) ∧ ∀ j (hj : j < (f i).length), Cell X B A2 (i * T.n + j) (f i)[j] := by
    refine ⟨fun i => if hi : i < ys.length then Classical.choose (h.get i hi) else [], fun i hi => ?_⟩
    simp only [hi, dif_pos]
    exact Classical.choose_spec (h.get i hi)
  obtain ⟨f, hf⟩ := hf
  cases A2 with
  | none =>
    left
    refine ⟨rfl, ?_⟩
    rcases Nat.eq_zero_or_pos ys.length with h0 | h0
    · exact List.eq_nil_of_length_eq_zero h0
    · have := h.some_ h0; cases this
  | some a2 =>
    right
    have hall : ∀ cs ∈ (List.range ys.length).map f, cs.length = T.n := by
      intro cs hcs
      obtain ⟨i, hi, rfl⟩ := List.mem_map.1 hcs
      exact T.len (hf i (List.mem_range.1 hi)).1
    refine ⟨a2, rfl, (List.range ys.length).map f, by simp, fun k hk => ?_, fun j u hu => ?_⟩
    · have hk' : k < ys.length := by simpa using hk
      simpa using (hf k hk').1
    · have hj : j < ys.length * T.n := by
        have := (List.getElem?_eq_some_iff.1 hu).1
        rwa [flatten_len T.n _ hall, List.length_map, List.length_range] at this
      have hn := T.pos
      have hq : j / T.n < ys.length := (Nat.div_lt_iff_lt_mul hn).2 hj
      have hr : j % T.n < T.n := Nat.mod_lt _ hn
      have hjj : j / T.n * T.n + j % T.n = j := by rw [Nat.mul_comm]; exact Nat.div_add_mod j T.n
      have h1 := flatten_get T.n ((List.range ys.length).map f) (j / T.n) (j % T.n) (by simpa using hq) hall hr
      rw [hjj, hu] at h1
      simp only [List.getElem_map, List.getElem_range] at h1
      obtain ⟨hlt, he⟩ := List.getElem?_eq_some_iff.1 h1.symm
      obtain ⟨b, o', hb, hc⟩ := ((hf _ hq).2 _ hlt).now hw
      cases hb
      rw [addr_add, ← hjj, hc, he]
/-- the source of an append: a block of the call's own that holds one element -/
theorem src_one [Inhabited α] {i g : Nat} {cs : Array Value} {e : TypeId} {y : α} (hi : L[i]? = some [(g, .cells cs e (0, 0))]) (hr : T.rd X B cs.toList y) {w : World} (hw : Cur S E X B L w) :
    (some (⟨g, 0, none⟩ : Addr) = none ∧ [y] = []) ∨ ∃ a2, some (⟨g, 0, none⟩ : Addr) = some a2 ∧ ∃ css : List (List Value), css.length = [y].length ∧ (∀ k (h1 : k < css.length), T.rd X B css[k] (gt [y] k)) ∧ ∀ j u, css.flatten[j]? = some u → w.cell? (a2.add j) = some u := by
  refine .inr ⟨_, rfl, [cs.toList], rfl, fun k h1 => ?_, fun j u hu => ?_⟩
  · have : k = 0 := by simpa using h1
    subst this
    exact hr
  · simp only [List.flatten_cons, List.flatten_nil, List.append_nil] at hu
    rw [addr_add, Nat.zero_add, hw.cell hi, ← Array.getElem?_toList, hu]
end
end Fw
end Go.Proofs.Ytlbdlkgboliikaa
