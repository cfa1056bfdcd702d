/- Rows of the call's own, read and written by place; make. No condition. -/
import Derived.Test.YtlbdlkgboliikaaL10
import Derived.Laws.MakeOwn
namespace Go.Proofs.Ytlbdlkgboliikaa
namespace Fw
set_option linter.unusedVariables false
set_option linter.unusedSimpArgs false
open Go.RowKit

section
variable {P : Program} {N : Nat} {Q : Exit → Env → World → Prop} {σ : Env} {o : Oper} {S X X' : Nat → Prop} {E B w w' : World} {L U U' R : List Rowb} {ops : Array Oper} {rest : List Oper} {α : Type} [Inhabited α] {T : Ty α} {row : Rowb} {e : TypeId} {A : Option Addr} {c : Nat} {xs : List α}

/-- a cell of a row of the call's own -/
def OCell (row : Rowb) (A : Option Addr) (j : Nat) (v : Value) : Prop := ∃ g arr e, A = some ⟨g, 0, none⟩ ∧ row = [(g, .cells arr e (0, 0))] ∧ arr[j]? = some v

theorem Own.some_ (h : Own T X w e row A c xs) {k : Nat} (hk : k < xs.length) : A.isSome = true := by
  rcases h.is with ⟨_, rfl, _⟩ | ⟨g, cur, css, rfl, _⟩
  · simp at hk
  · rfl

theorem Own.at (h : Own T X w e row A c xs) {i : Nat} (hi : i < xs.length) : ∃ cs, T.rd X w cs (gt xs i) ∧ ∀ j (hj : j < cs.length), OCell row A (i * T.n + j) cs[j] := by
  rcases h.is with ⟨_, rfl, _⟩ | ⟨g, cur, css, rfl, rfl, h3, h4, h5, h6, h7, h8⟩
  · simp at hi
  · have hic : i < css.length := by omega
    have hall : ∀ cs ∈ css, cs.length = T.n := by
      intro cs hcs
      obtain ⟨k, hk, rfl⟩ := List.getElem_of_mem hcs
      exact T.len (h8 k hk)
    refine ⟨css[i], h8 i hic, fun j hj => ⟨g, cur, e, rfl, rfl, ?_⟩⟩
    have hjn : j < T.n := by rw [hall _ (List.getElem_mem hic)] at hj; exact hj
    have h9 := flatten_get T.n css i j hic hall hjn
    rw [← h7, List.getElem?_take, if_pos (lt_mul hi hjn)] at h9
    rw [← Array.getElem?_toList, h9, List.getElem?_eq_getElem hj]

theorem Own.boolT_0 {xs : List Bool} (h : Own boolT X w e row A c xs) {i : Nat} (hi : i < xs.length) : OCell row A (i * 1 + 0) (.bool (gt xs i)) := by
  obtain ⟨cs, hr, h2⟩ := h.at hi
  have he : cs = _ := hr
  subst he
  exact h2 0 (by simp)
theorem Own.intT_0 {xs : List Int} (h : Own intT X w e row A c xs) {i : Nat} (hi : i < xs.length) : OCell row A (i * 1 + 0) (.int .i64 (gt xs i)) := by
  obtain ⟨cs, ⟨rfl, _⟩, h2⟩ := h.at hi
  exact h2 0 (by simp)
theorem Own.intT_fits {xs : List Int} (h : Own intT X w e row A c xs) {i : Nat} (hi : i < xs.length) : I64 (gt xs i) := by
  obtain ⟨cs, ⟨rfl, hr⟩, h2⟩ := h.at hi
  exact hr
theorem Own.slT_0 {xs : List (List α)} (h : Own (slT T) X w e row A c xs) (i : Nat) : ∃ A' c', i < xs.length → OCell row A (i * 1 + 0) (.slice A' (gt xs i).length c') ∧ (gt xs i).length ≤ c' ∧ Sl T X w A' (gt xs i) := by
  by_cases hi : i < xs.length
  · obtain ⟨cs, ⟨A', c', rfl, h3, h4⟩, h2⟩ := h.at hi
    exact ⟨A', c', fun _ => ⟨h2 0 (by simp), h3, h4⟩⟩
  · exact ⟨none, 0, fun h => absurd h hi⟩

theorem q_load_own {x : Operand} {t : TypeId} {j i : Nat} {v : Value} (ho : o.op = .load t x) (ht : ∀ w, (isAgg t).run P w = .ok false w) (hx : ev σ x = ptrAt A j) (hc : OCell row A j v) (hi : L[i]? = some row) : QV P (CC S E X B L) σ o v :=
  fun w hw => by
    obtain ⟨g, arr, e, rfl, rfl, h⟩ := hc
    simp only [execOp, ho, hx, ptrAt, Option.map_some, addr_add, Nat.zero_add, Sem.run_bind]
    rw [run_loadAt_cell ht ((hw.cell hi).trans h)]; rfl

theorem flatten_set {β : Type} {n : Nat} {cs : List β} : ∀ {css : List (List β)} {q : Nat}, (∀ c ∈ css, c.length = n) → q < css.length → (css.set q cs).flatten = css.flatten.take (q * n) ++ cs ++ css.flatten.drop (q * n + n)
  | [], q, _, h => by simp at h
  | c :: css, 0, hl, _ => by
    have h0 := hl c (by simp)
    simp [List.drop_append, h0]
  | c :: css, q + 1, hl, hq => by
    have h0 := hl c (by simp)
    have ih := flatten_set (cs := cs) (css := css) (q := q) (fun c hc => hl c (by simp [hc])) (by simpa using hq)
    simp only [List.set_cons_succ, List.flatten_cons, ih]
    rw [show (q + 1) * n = c.length + q * n by rw [Nat.add_mul]; omega, List.take_length_add_append, show c.length + q * n + n = c.length + (q * n + n) by omega, List.drop_length_add_append]
    simp [List.append_assoc]

theorem take_patch {β : Type} {f tl cs : List β} {j n m : Nat} (hf : f.length = m) (hj : j + n ≤ m) (hc : cs.length = n) : ((f ++ tl).take j ++ cs ++ (f ++ tl).drop (j + n)).take m = f.take j ++ cs ++ f.drop (j + n) := by
  have h1 : (f ++ tl).take j = f.take j := List.take_append_of_le_length (by omega)
  have h2 : (f ++ tl).drop (j + n) = f.drop (j + n) ++ tl := List.drop_append_of_le_length (by omega)
  rw [h1, h2, ← List.append_assoc]
  exact List.take_left' (by simp; omega)

/-- x[q] = v, of a row of the call's own -/
theorem e_store_own {t : TypeId} {ad x : Operand} {i q : Nat} {v : Value} {y : α} (hg : o.guard = none) (hdst : o.dst = none) (ho : o.op = .store t ad x) (ha : ev σ ad = ptrAt A (q * T.n)) (hx : ev σ x = v)
    (hz : ∀ w, (sizeOf t).run P w = .ok T.n w) (hrd : T.rd X B v.cells.toList y) (hi : L[i]? = some row) (hown : Own T X B e row A c xs) (hq : q < xs.length)
    (k : ∀ row', Own T X B e row' A c (xs.set q y) → WR P N ops (CC S E X B (L.set i row')) Q rest σ) : WR P N ops (CC S E X B L) Q (o :: rest) σ := by
  refine WR.eff hg (by rw [hdst]; rfl) fun w hw => ?_
  rcases hown.is with ⟨_, rfl, _⟩ | ⟨g, cur, css, rfl, rfl, h3, h4, h5, h6, h7, h8⟩
  · simp at hq
  have hall : ∀ cs ∈ css, cs.length = T.n := by
    intro cs hcs
    obtain ⟨k, hk, rfl⟩ := List.getElem_of_mem hcs
    exact T.len (h8 k hk)
  have hvl := T.len hrd
  have hcl : cur.toList.length = c * T.n := by simpa using h5
  have hfit : q * T.n + T.n ≤ xs.length * T.n := by
    have : (q + 1) * T.n ≤ xs.length * T.n := Nat.mul_le_mul_right _ hq
    rw [Nat.add_mul] at this; omega
  have hfit2 : xs.length * T.n ≤ c * T.n := Nat.mul_le_mul_right _ h3
  have hb := hw.at_ hi (p := (g, .cells cur e (0, 0))) (by simp)
  have hs := run_storeCells_at P g (q * T.n) e v.cells.toList 0 cur w hb (by rw [hvl]; omega) (fun u hu => T.one hrd u hu)
  simp only [Nat.add_zero] at hs
  refine ⟨undef, w.setRow g (cur.toList.take (q * T.n) ++ v.cells.toList ++ cur.toList.drop (q * T.n + v.cells.toList.length)).toArray, .inr ⟨?_, rfl⟩, ?_⟩
  rotate_left 1
  · rw [hdst]
    refine k [(g, .cells (cur.toList.take (q * T.n) ++ v.cells.toList ++ cur.toList.drop (q * T.n + v.cells.toList.length)).toArray e (0, 0))] ?_ _ (hw.setRow hi)
    have hfl : css.flatten.length = xs.length * T.n := by rw [flatten_len T.n css hall, h6]
    have hcur : cur.toList = css.flatten ++ cur.toList.drop (xs.length * T.n) := by rw [← h7, List.take_append_drop]
    refine ⟨by simpa using hown.le, .inr ⟨g, _, css.set q v.cells.toList, rfl, rfl, by simpa using h3, h4, ?_, by simp [h6], ?_, ?_⟩⟩
    · simp only [List.size_toArray, List.length_append, List.length_take, List.length_drop, hvl, hcl]
      omega
    · rw [flatten_set hall (by omega), hvl]
      simp only [List.length_set]
      have h9 := take_patch (tl := cur.toList.drop (xs.length * T.n)) (cs := v.cells.toList) hfl hfit hvl
      rw [← hcur] at h9
      exact h9
    · intro p hp
      have hp' : p < css.length := by simpa using hp
      by_cases he : q = p
      · subst he
        have : gt (xs.set q y) q = y := by rw [gt_eq (by simpa using hq)]; simp
        rw [this]; simpa using hrd
      · have : gt (xs.set q y) p = gt xs p := by
          rw [gt_eq (by simp; omega), gt_eq (by omega), List.getElem_set_ne he]
        rw [this]
        simpa [List.getElem_set_ne he] using h8 p hp'
  · have hsz : v.cells.size = T.n := by simpa using hvl
    simp [execOp, ho, ha, hx, ptrAt, addr_add, Instr.storeAt, Instr.sureAddr, storeVar, hz, hsz, hs, Sem.run_pure, Sem.run_bind]

theorem made_eq (z : Array Value) (n : Nat) : (madeCells z (n * z.size)).toList = (List.replicate n z.toList).flatten := by
  by_cases hz : z.size = 0
  · have : z = #[] := by simpa using hz
    subst this
    simp [madeCells]
  apply List.ext_getElem?
  intro i
  have hall : ∀ cs ∈ List.replicate n z.toList, cs.length = z.size := fun cs h => by rw [(List.mem_replicate.1 h).2]; simp
  have hfl := flatten_len z.size (List.replicate n z.toList) hall
  simp only [List.length_replicate] at hfl
  by_cases hi : i < n * z.size
  · have hq : i / z.size < n := (Nat.div_lt_iff_lt_mul (by omega)).2 hi
    have hr : i % z.size < z.size := Nat.mod_lt _ (by omega)
    have hjj : i / z.size * z.size + i % z.size = i := by rw [Nat.mul_comm]; exact Nat.div_add_mod i z.size
    have h1 := flatten_get z.size (List.replicate n z.toList) (i / z.size) (i % z.size) (by simpa using hq) hall hr
    rw [hjj] at h1
    rw [h1]
    simp [madeCells, hi, hr]
  · rw [List.getElem?_eq_none (by simp [madeCells]; omega), List.getElem?_eq_none (by omega)]

theorem e_makeSlice {t : TypeId} {lo lo' : Operand} {n d : Nat} {kl kc : IntKind} {ti : TypeInfo} {z : Value} {zx : α} (ht : P.underlying t = some (.slice e)) (hi : P.info? e = some ti) (hz : ti.zero = some z) (hsz : ti.size = T.n) (hrd : T.rd X B z.cells.toList zx) (hby : ti.bytes ≤ 65536) (hn : n ≤ lim)
    (hg : o.guard = none) (hdst : o.dst = some d) (hd : okDst N (some d) = true) (ho : o.op = .makeSlice t lo lo') (hl : ev σ lo = .int kl (n : Int)) (hl' : ev σ lo' = .int kc (n : Int))
    (k : ∀ g row, B.heap.size ≤ g → E.heap.size ≤ g → Own T X B e row (some ⟨g, 0, none⟩) n (List.replicate n zx) → WR P N ops (CC S E X B (row :: L)) Q rest (upd σ d (.slice (some ⟨g, 0, none⟩) n n))) : WR P N ops (CC S E X B L) Q (o :: rest) σ := by
  have hbytes : (ti.bytes : Int) * (n : Int) ≤ 281474976710656 := by
    have h1 : ti.bytes * n ≤ 65536 * 2147483648 := Nat.mul_le_mul hby hn
    have : ((ti.bytes * n : Nat) : Int) ≤ 140737488355328 := by omega
    rw [Int.natCast_mul] at this; omega
  have hnl : n ≤ 2147483648 := hn
  refine WR.new (mk := fun g => .slice (some ⟨g, 0, none⟩) n n) (obj := .cells (madeCells z.cells (n * T.n)) e) hg hdst hd (fun w _ => ?_) fun g h1 h2 => k g _ h1 h2 ?_
  · have := run_make (P := P) w t e ti z ht hi hz kl kc (n : Int) (n : Int) (by omega) (by omega) hbytes (by omega)
    simp only [Int.toNat_natCast, hsz] at this
    simp only [execOp, ho, hl, hl', Sem.run_bind, this, Result.andThen_ok, Sem.run_pure]
  · have hzl := T.len hrd
    have := Own.of_block (T := T) (X := X) (B := B) (e := e) (g := g) (cs := madeCells z.cells (n * T.n)) (ys := List.replicate n zx) (List.replicate n z.cells.toList)
      (by rw [← made_eq]; congr 2; rw [← hzl]; simp) (by simp) (by simpa using hn) (fun i h => by
        have hi' : i < n := by simpa using h
        have : gt (List.replicate n zx) i = zx := by rw [gt_eq (by simpa using hi')]; simp
        rw [this]; simpa using hrd)
    simpa using this

theorem q_len_map {κ : Type} [DecidableEq κ] {β : Type} {kt et t : TypeId} {K : KeyT P kt κ} {V : Tv β} {es : List (κ × β)} {g i : Nat} {x : Operand} (h : MapO K V X B row g es) (ho : o.op = .call { callee := .builtin .len, args := #[x], argTypes := #[t] }) (ht : P.underlying t = some (.map kt et)) (hx : ev σ x = .map (some g)) (hi : L[i]? = some row) :
    QV P (CC S E X B L) σ o (.int .i64 ((es.length : Nat) : Int)) :=
  fun w hw => by
    obtain ⟨arr, clock, rfl, hl⟩ := h.len
    have hb := hw.at_ hi (p := (g, .map arr clock)) (by simp)
    simp [execOp, ho, hx, resolve, invoke, builtin, Builtin.len_, run_underlying ht, getObj_m hb, goInt, Sem.run_pure, Sem.run_bind, hl]
end
end Fw
end Go.Proofs.Ytlbdlkgboliikaa
