/- Closures by the document; what the program tells of a dot. No condition. -/
import Derived.Test.YtldpanjodokefaaP5
namespace Go.Proofs.Ytldpanjodokefaa
namespace Fw
set_option linter.unusedVariables false
set_option linter.unusedSimpArgs false
set_option linter.unusedSectionVars false
open Go.RowKit
/-- how many written dots a set lacks -/
def nlk (l : Acts) (s : DS) : Nat := ((firsts l).filter fun p => !decide (p.1 ∈ kys s)).length
theorem nlk_le (l : Acts) (s : DS) : nlk l s ≤ l.length := by
  unfold nlk
  have h1 := List.length_filter_le (fun p => !decide (p.1 ∈ kys s)) (firsts l)
  have h2 := fsL_len (l := l) (i := 0) (m := [])
  simp only [List.length_nil, Nat.zero_add] at h2
  unfold firsts at h1 ⊢; omega
theorem filt_lt {α : Type} {p q : α → Bool} : ∀ {m : List α}, (∀ x ∈ m, p x = true → q x = true) → (m.filter p).length ≤ (m.filter q).length ∧ ((∃ x ∈ m, p x = false ∧ q x = true) → (m.filter p).length < (m.filter q).length)
  | [], _ => ⟨Nat.le_refl _, fun ⟨x, h, _⟩ => nomatch h⟩
  | y :: m, h => by
    obtain ⟨h1, h2⟩ := filt_lt (m := m) fun x hx => h x (List.mem_cons_of_mem _ hx)
    have hy := h y List.mem_cons_self
    simp only [List.filter_cons]
    constructor
    · cases hp : p y with
      | true => rw [hy hp]; simp; exact h1
      | false =>
        cases hq : q y with
        | true => simp; omega
        | false => simp; exact h1
    · rintro ⟨x, hx, hpx, hqx⟩
      rcases List.mem_cons.1 hx with e | e
      · subst e; rw [hpx, hqx]; simp; omega
      · have h3 := h2 ⟨x, e, hpx, hqx⟩
        cases hp : p y with
        | true => rw [hy hp]; simp; exact h3
        | false =>
          cases hq : q y with
          | true => simp; omega
          | false => simp; exact h3
theorem nlk_put {l : Acts} {s : DS} {x : Dot} {i : Nat} (hf : fst l x = some i) (hn : x ∉ kys s) : nlk l (sput kl x s) < nlk l s := by
  refine (filt_lt fun p _ h => ?_).2 ⟨(x, (i : Int)), mem_firsts.2 ⟨i, hf, rfl⟩, ?_, ?_⟩
  · simp only [Bool.not_eq_true', decide_eq_false_iff_not, mem_sput, not_or] at h ⊢; exact h.2
  · simp [mem_sput]
  · simp [hn]
theorem nlk_put_le {l : Acts} {s : DS} {x : Dot} : nlk l (sput kl x s) ≤ nlk l s := by
  refine (filt_lt fun p _ h => ?_).1
  simp only [Bool.not_eq_true', decide_eq_false_iff_not, mem_sput, not_or] at h ⊢; exact h.2
/-- what comes of some dots: they, and what is behind them -/
def Rch (l : Acts) (s : DS) (x : Dot) : Prop := x ∈ kys s ∨ ∃ e ∈ kys s, Bh l e x
structure Cst (l : Acts) (s0 o : DS) (todo : List Dot) (i : Nat) : Prop where
  cs : CS o
  il : i ≤ todo.length
  dn : ∀ x ∈ todo.take i, x ∈ kys o
  od : ∀ x ∈ kys o, x ∈ todo
  rch : ∀ x ∈ todo, Rch l s0 x
  st : ∀ x ∈ kys o, ∀ k, fst l x = some k → ∀ y ∈ stp l k, y ∈ todo
  s0 : ∀ x ∈ kys s0, x ∈ todo
theorem Cst.fin {l : Acts} {s0 o : DS} {todo : List Dot} {i : Nat} (h : Cst l s0 o todo i) (hi : todo.length ≤ i) {x : Dot} : x ∈ kys o ↔ Rch l s0 x := by
  have ht : todo.take i = todo := List.take_of_length_le hi
  have hto : ∀ x ∈ todo, x ∈ kys o := fun x hx => h.dn x (by rw [ht]; exact hx)
  have key : ∀ e x, Bh l e x → e ∈ kys o → x ∈ kys o := by
    intro e x hb
    induction hb with
    | @one d x k h1 h2 => exact fun hd => hto x (h.st d hd k h1 x h2)
    | @two d e x k h1 h2 _ ih => exact fun hd => ih (hto e (h.st d hd k h1 e h2))
  constructor
  · exact fun hx => h.rch x (h.od x hx)
  · rintro (hx | ⟨e, he, hb⟩)
    · exact hto x (h.s0 x hx)
    · exact key e x hb (hto e (h.s0 e he))
theorem Rch.step {l : Acts} {s0 : DS} {x y : Dot} {k : Nat} (h : Rch l s0 x) (hf : fst l x = some k) (hy : y ∈ stp l k) : Rch l s0 y := by
  rcases h with h | ⟨e, h1, h2⟩
  · exact .inr ⟨x, h, .one hf hy⟩
  · exact .inr ⟨e, h1, h2.trans (.one hf hy)⟩
theorem w64_nx {i : Nat} (h : i < lim) : w64 ((i : Int) + 1) = ((i + 1 : Nat) : Int) := by rw [lim_eq] at h; rw [w64_id (by omega) (by omega)]; omega
theorem i64b_n {i : Nat} (h : i < lim) : i64b (i : Int) = true := by rw [lim_eq] at h; simp only [i64b, Bool.and_eq_true, decide_eq_true_eq]; omega
theorem inb_nat {i n : Nat} (h : i < n) : inb (i : Int) n = true := by simp only [inb, Bool.and_eq_true, decide_eq_true_eq]; omega
theorem cn1 {x y T i m : Nat} (hm : x + (T - i) ≤ m + 1) (hy : y ≤ x) (hi : i < T) : y + (T - (i + 1)) ≤ m := by omega
theorem cn3 {T A A' B D s : Nat} (h : T + A ≤ B) (h2 : A' + D ≤ A) (h3 : s ≤ D) : T + s + A' ≤ B := by omega
theorem cn4 {C C' T i m D s : Nat} (h : C + (T - i) ≤ m + 1) (h2 : C' + (D + 1) ≤ C) (h3 : s ≤ D) (hi : i < T) : C' + (T + s - (i + 1)) ≤ m := by omega
theorem cn5 {A B T M i m : Nat} (h1 : T + A ≤ M) (h2 : M ≤ B) : T ≤ B := by omega
theorem cn6 {T s A B S0 L : Nat} (h : T + s + A ≤ S0 + L) (h2 : S0 + L + 1 ≤ B) : T + s ≤ B := by omega
set_option maxHeartbeats 1000000 in
theorem e_cloop {l : Acts} {s0 : DS} (hl : l.length ≤ lim) (hb : 2 * (dts l).length + 2 ≤ lim) (hT : s0.length + (l.length + 1) * ((dts l).length + 1) + 1 ≤ lim) : ∀ (m n : Nat) (o : DS) (todo : List Dot) (i : Nat), Cst l s0 o todo i →
    todo.length + nlk l o * (dts l).length ≤ s0.length + l.length * (dts l).length → nlk l o * ((dts l).length + 1) + (todo.length - i) ≤ m → m < n →
    ∃ c, loopN (m_firthref23_Closure_b4 (racts l)) n (kys o, todo, (i : Int)) = some (kys c) ∧ CS c ∧ ∀ x, x ∈ kys c ↔ Rch l s0 x
  | m, 0, _, _, _, _, _, _, hn => absurd hn (by omega)
  | m, n + 1, o, todo, i, h, hT2, hm, hn => by
    rw [loopN_s]
    have hbig : s0.length + l.length * (dts l).length + 1 ≤ lim := Nat.le_trans (Nat.succ_le_succ (Nat.add_le_add_left (Nat.mul_le_mul (Nat.le_succ _) (Nat.le_succ _)) _)) hT
    have htl : todo.length < lim := Nat.lt_of_le_of_lt (Nat.le_trans (Nat.le_add_right _ _) hT2) hbig
    by_cases hi : i < todo.length
    · cases m with
      | zero => exact absurd hm (by omega)
      | succ m =>
        have ih := fun o' todo' (h1 : Cst l s0 o' todo' (i + 1)) h2 h3 => e_cloop hl hb hT m n o' todo' (i + 1) h1 h2 h3 (Nat.lt_of_succ_lt_succ hn)
        generalize hG : loopN (m_firthref23_Closure_b4 (racts l)) n = G at ih
        unfold m_firthref23_Closure_b4
        have e1 : decide ((i : Int) < ((todo.length : Nat) : Int)) = true := decide_eq_true (Int.ofNat_lt.2 hi)
        have e2 : inb (i : Int) todo.length = true := inb_nat hi
        have hw : w64 ((i : Int) + 1) = ((i + 1 : Nat) : Int) := w64_nx (Nat.lt_trans hi htl)
        simp only [e1, e2, chk, cond_true, Int.toNat_natCast, e_has, Option.bind_some]
        unfold m_firthref23_Closure_j5
        rw [hw]
        have hxt : gt todo i ∈ todo := by rw [gt_eq hi]; exact List.getElem_mem hi
        have htk : todo.take (i + 1) = todo.take i ++ [gt todo i] := take_gt hi
        generalize hx : gt todo i = x at hxt htk
        cases hh : decide (x ∈ kys o) with
        | true =>
          have hxo := of_decide_eq_true hh
          simp only [cond_true]
          refine ih o todo ⟨h.cs, hi, fun y hy => ?_, h.od, h.rch, h.st, h.s0⟩ hT2 (cn1 hm (Nat.le_refl _) hi)
          rw [htk] at hy
          rcases List.mem_append.1 hy with q | q
          · exact h.dn y q
          · rw [List.mem_singleton.1 q]; exact hxo
        | false =>
          have hxo := of_decide_eq_false hh
          simp only [cond_false]
          have hol : o.length ≤ todo.length := by
            have := nodup_len (CL.nodup h.cs) h.od
            simpa [kys] using this
          rw [e_Put h.cs (Nat.lt_of_le_of_lt hol htl)]
          simp only [Option.bind_some, e_First]
          have hdn : ∀ y ∈ todo.take (i + 1), y ∈ kys (sput kl x o) := by
            intro y hy
            rw [htk] at hy
            rw [mem_sput]
            rcases List.mem_append.1 hy with q | q
            · exact .inr (h.dn y q)
            · exact .inl (List.mem_singleton.1 q)
          cases hf : fst l x with
          | none =>
            have e3 : decide (0 ≤ fstI l x) = false := by simp [fstI, hf]
            simp only [e3, cond_false]
            have hnl := nlk_put_le (l := l) (s := o) (x := x)
            have hm2 : nlk l (sput kl x o) * (dts l).length ≤ nlk l o * (dts l).length := Nat.mul_le_mul_right _ hnl
            have hm3 : nlk l (sput kl x o) * ((dts l).length + 1) ≤ nlk l o * ((dts l).length + 1) := Nat.mul_le_mul_right _ hnl
            refine ih (sput kl x o) todo ⟨sput_cs h.cs, hi, hdn, fun y hy => ?_, h.rch, fun y hy k hk z hz => ?_, h.s0⟩ (Nat.le_trans (Nat.add_le_add_left hm2 _) hT2) (cn1 hm hm3 hi)
            · rcases mem_sput.1 hy with q | q
              · rw [q]; exact hxt
              · exact h.od y q
            · rcases mem_sput.1 hy with q | q
              · rw [q, hf] at hk; cases hk
              · exact h.st y q k hk z hz
          | some k =>
            have hkl := (fst_some hf).1
            have e3 : decide (0 ≤ fstI l x) = true := by simp only [fstI, hf]; exact decide_eq_true (Int.natCast_nonneg _)
            have e4 : fstI l x = (k : Int) := by simp [fstI, hf]
            have e5 : i64b (k : Int) = true := by
              exact i64b_n (Nat.lt_of_lt_of_le hkl hl)
            simp only [e3, e4, e5, cond_true, e_Steps hkl hb, Option.bind_some]
            have hsl := stS_len (l := l) (i := k)
            have hkk : (kys (stS l k)).length = (stS l k).length := by simp [kys]
            have hnl := nlk_put hf hxo
            have hm2 : (nlk l (sput kl x o) + 1) * (dts l).length ≤ nlk l o * (dts l).length := Nat.mul_le_mul_right _ hnl
            have hm3 : (nlk l (sput kl x o) + 1) * ((dts l).length + 1) ≤ nlk l o * ((dts l).length + 1) := Nat.mul_le_mul_right _ hnl
            rw [Nat.add_mul, Nat.one_mul] at hm2 hm3
            have hT3 := cn3 hT2 hm2 hsl
            have e6 : decide (todo.length + (kys (stS l k)).length ≤ lim) = true := decide_eq_true (by rw [hkk]; exact cn6 hT3 hbig)
            simp only [e6, cond_true]
            have hx2 : ∀ y, y ∈ todo → y ∈ todo ++ kys (stS l k) := fun y hy => List.mem_append.2 (.inl hy)
            refine ih (sput kl x o) (todo ++ kys (stS l k)) ⟨sput_cs h.cs, by rw [List.length_append]; exact Nat.le_trans hi (Nat.le_add_right _ _), ?_, fun y hy => ?_, fun y hy => ?_, fun y hy k' hk z hz => ?_, fun y hy => hx2 y (h.s0 y hy)⟩ (by rw [List.length_append, hkk]; exact hT3) (by rw [List.length_append, hkk]; exact cn4 hm hm3 hsl hi)
            · rw [List.take_append_of_le_length hi]; exact hdn
            · rcases mem_sput.1 hy with q | q
              · rw [q]; exact hx2 _ hxt
              · exact hx2 _ (h.od y q)
            · rcases List.mem_append.1 hy with q | q
              · exact h.rch y q
              · exact (h.rch x hxt).step hf (mem_stS.1 q)
            · rcases mem_sput.1 hy with q | q
              · rw [q, hf] at hk
                injection hk with hk
                subst hk
                exact List.mem_append.2 (.inr (mem_stS.2 hz))
              · exact hx2 _ (h.st y q k' hk z hz)
    · generalize hG : loopN (m_firthref23_Closure_b4 (racts l)) n = G
      unfold m_firthref23_Closure_b4
      have e1 : decide ((i : Int) < ((todo.length : Nat) : Int)) = false := decide_eq_false (fun q => hi (Int.ofNat_lt.1 q))
      simp only [e1, cond_false]
      exact ⟨o, rfl, h.cs, fun x => h.fin (Nat.le_of_not_lt hi)⟩
/-- sizes that fit -/
structure okl (l : Acts) : Prop where
  fine : fine l
  n : l.length ≤ 62
  d : (dts l).length ≤ 2097152
theorem okl.b {l : Acts} (h : okl l) : 2 * (dts l).length + 2 ≤ lim := by have := h.d; rw [lim_eq]; omega
theorem okl.t {l : Acts} (h : okl l) {s0 : DS} (hs : s0.length ≤ (dts l).length) : s0.length + (l.length + 1) * ((dts l).length + 1) + 1 ≤ lim := by
  have h1 := h.d; have h2 := h.n
  have h3 : (l.length + 1) * ((dts l).length + 1) ≤ 63 * 2097153 := Nat.mul_le_mul (by omega) (by omega)
  rw [lim_eq]; omega
theorem okl.m {l : Acts} (h : okl l) : l.length * (dts l).length ≤ 9223372036854775808 := by
  have h1 := h.d; have h2 := h.n
  have h3 : l.length * (dts l).length ≤ 62 * 2097152 := Nat.mul_le_mul (by omega) (by omega)
  omega
/-- a set that closes another -/
def IsC (l : Acts) (s0 c : DS) : Prop := CS c ∧ ∀ x, x ∈ kys c ↔ Rch l s0 x
theorem e_Closure {l : Acts} (h : okl l) {s0 : DS} (hs : CS s0) (hd : ∀ x ∈ kys s0, x ∈ dts l) : ∃ c, m_firthref23_Closure (racts l) (kys s0) = some (kys c) ∧ IsC l s0 c := by
  have hsl : s0.length ≤ (dts l).length := by
    have := nodup_len (CL.nodup hs) hd
    simpa [kys] using this
  unfold m_firthref23_Closure
  have e1 : decide (0 + (kys s0).length ≤ lim) = true := decide_eq_true (by have := h.b; simp [kys]; omega)
  simp only [e1, chk, cond_true]
  have hn := nlk_le l ([] : DS)
  have h1 : nlk l ([] : DS) * (dts l).length ≤ l.length * (dts l).length := Nat.mul_le_mul_right _ hn
  have h2 : nlk l ([] : DS) * ((dts l).length + 1) ≤ l.length * ((dts l).length + 1) := Nat.mul_le_mul_right _ hn
  have h3 : l.length * ((dts l).length + 1) ≤ (l.length + 1) * ((dts l).length + 1) := Nat.mul_le_mul_right _ (by omega)
  have h4 := h.t hsl
  rw [lim_eq] at h4
  have := e_cloop (s0 := s0) h.fine.1 h.b (h.t hsl) (lim) FU [] (kys s0) 0 ⟨cs_nil, Nat.zero_le _, by simp, by simp [kys], fun x hx => .inl hx, by simp [kys], fun x hx => hx⟩ (by simp only [kys, List.length_map] at *; omega) (by rw [lim_eq]; simp only [kys, List.length_map] at *; omega) (by rw [lim_eq]; unfold FU; omega)
  exact this
theorem stS_dts {l : Acts} {i : Nat} : ∀ x ∈ kys (stS l i), x ∈ dts l := fun x hx => stp_dts (mem_stS.1 hx)
theorem isC_bh {l : Acts} {d : Dot} {k : Nat} {c : DS} (hf : fst l d = some k) (h : IsC l (stS l k) c) : c = bhS l d := by
  refine CS.ext h.1 (bhS_cs l d) fun x => ?_
  rw [h.2, mem_bhS]
  constructor
  · rintro (q | ⟨e, h1, h2⟩)
    · exact .one hf (mem_stS.1 q)
    · exact .two hf (mem_stS.1 h1) h2
  · intro q
    cases q with
    | one h1 h2 => rw [hf] at h1; injection h1 with h1; subst h1; exact .inl (mem_stS.2 h2)
    | two h1 h2 h3 => rw [hf] at h1; injection h1 with h1; subst h1; exact .inr ⟨_, mem_stS.2 h2, h3⟩
theorem bhS_none {l : Acts} {d : Dot} (h : fst l d = none) : bhS l d = [] := by
  refine CS.ext (bhS_cs l d) cs_nil fun x => ?_
  rw [mem_bhS]
  constructor
  · intro q; obtain ⟨i, hi⟩ := q.fst; rw [h] at hi; cases hi
  · intro q; simp [kys] at q
/-- what is behind a dot, by the document -/
theorem e_rBehind {l : Acts} (h : okl l) {d : Dot} : m_firthref23_Behind (racts l) d = some (kys (bhS l d)) := by
  unfold m_firthref23_Behind
  rw [e_First]
  simp only [Option.bind_some]
  cases hf : fst l d with
  | none =>
    have e1 : decide (fstI l d < 0) = true := by simp [fstI, hf]
    simp only [e1, cond_true]
    rw [bhS_none hf]; rfl
  | some k =>
    have hkl := (fst_some hf).1
    have e4 : fstI l d = (k : Int) := by simp [fstI, hf]
    have e1 : decide ((k : Int) < 0) = false := decide_eq_false (by omega)
    have e5 : i64b (k : Int) = true := by
      have := h.n
      simp only [i64b, Bool.and_eq_true, decide_eq_true_eq]; omega
    obtain ⟨c, h1, h2⟩ := e_Closure h (stS_cs l k) stS_dts
    simp only [e4, e1, cond_false, e5, chk, cond_true, e_Steps hkl h.b, Option.bind_some, h1]
    rw [isC_bh hf h2]
/-- what a session has seen ahead of an act -/
noncomputable def swS (l : Acts) (i : Nat) : DS := sawS (trl l (bhS l)) i
theorem mem_swS {l : Acts} {i : Nat} {x : Dot} : x ∈ kys (swS l i) ↔ Rch l (stS l i) x := by
  unfold swS
  rw [mem_sawS]
  constructor
  · rintro ⟨e, h1, h2⟩
    rcases h2 with h2 | h2
    · exact .inl (mem_stS.2 (by rw [h2]; exact h1))
    · rw [bhd_trl] at h2
      split at h2
      · exact .inr ⟨e, mem_stS.2 h1, mem_bhS.1 h2⟩
      · simp [kys] at h2
  · rintro (h | ⟨e, h1, h2⟩)
    · exact ⟨x, mem_stS.1 h, .inl rfl⟩
    · refine ⟨e, mem_stS.1 h1, .inr ?_⟩
      obtain ⟨k, hk⟩ := h2.fst
      rw [bhd_trl, hk]; exact mem_bhS.2 h2
theorem e_rSaw {l : Acts} (h : okl l) {i : Nat} (hi : i < l.length) : m_firthref23_Saw (racts l) (i : Int) = some (kys (swS l i)) := by
  unfold m_firthref23_Saw
  have e1 : (decide ((i : Int) < 0) || decide ((((racts l).length : Nat) : Int) ≤ (i : Int))) = false := by
    simp only [racts, List.length_map, Bool.or_eq_false_iff, decide_eq_false_iff_not]; omega
  obtain ⟨c, h1, h2⟩ := e_Closure h (stS_cs l i) stS_dts
  simp only [e1, cond_false, e_Steps hi h.b, Option.bind_some, h1]
  rw [show c = swS l i from CS.ext h2.1 (sawS_cs _ _) fun x => by rw [h2.2, mem_swS]]
/-! ### what the program tells -/
theorem e_cmp (a b : Dot) : m_judge_dots_sorted_1 a b = some (if kl a b then -1 else if kl b a then 1 else 0) := by
  have c1 : ∀ x y : Int, m_cmp_Compare_int x y = some (if x < y then -1 else if y < x then 1 else 0) := by
    intro x y
    unfold m_cmp_Compare_int m_cmp_isNaN_int
    by_cases h : x < y
    · simp [h]
    · by_cases h2 : y < x <;> simp [h, h2]
  have c2 : ∀ x y : Int, m_cmp_Compare_int64 x y = some (if x < y then -1 else if y < x then 1 else 0) := by
    intro x y
    unfold m_cmp_Compare_int64 m_cmp_isNaN_int64
    by_cases h : x < y
    · simp [h]
    · by_cases h2 : y < x <;> simp [h, h2]
  unfold m_judge_dots_sorted_1
  rw [c1, c2]
  simp only [Option.bind_some]
  have b1 : ∀ x y : Int, i64b (if x < y then -1 else if y < x then 1 else 0) = true := by
    intro x y; split
    · decide
    · split <;> decide
  rw [b1, b1]
  simp only [chk, cond_true]
  unfold m_cmp_Or_int
  simp only [forI, m_cmp_Or_int_b1]
  simp only [kl, kl27]
  by_cases h1 : a.s < b.s
  · have : ¬ b.s < a.s := by omega
    have h3 : ¬ a.s = b.s := by omega
    simp [h1]
  · by_cases h2 : b.s < a.s
    · have h3 : ¬ a.s = b.s := by omega
      simp [h1, h2, h3]
    · have h3 : a.s = b.s := by omega
      by_cases h4 : a.n < b.n
      · simp [h1, h2, h3, h4]
      · by_cases h5 : b.n < a.n
        · simp [h1, h2, h3, h4, h5]
        · simp [h1, h2, h3, h4, h5]
end Fw
end Go.Proofs.Ytldpanjodokefaa
