/- Sets of keys, maps that may be nil and are read alone, maps of maps; loops over a map's entries in whatever order. No condition. -/
import Derived.Test.YtldpanjodokefaaK17
import Derived.Test.YtldpanjodokefaaK20
import Derived.Test.YtldpanjodokefaaK27
namespace Go.Proofs.Ytldpanjodokefaa
namespace Fw
set_option linter.unusedVariables false
set_option linter.unusedSimpArgs false
set_option linter.unusedSectionVars false
open Go.RowKit Go.MapKept

/-- what a set's map holds at each of its keys -/
def trueV : Tv Unit := ⟨fun _ v _ => v = .bool true, fun h _ => h⟩
/-- a key laid into a set that rises -/
def sins {κ : Type} (lt : κ → κ → Bool) (x : κ) : List (κ × Unit) → List (κ × Unit)
  | [] => [(x, ())]
  | p :: l => if lt x p.1 then (x, ()) :: p :: l else p :: sins lt x l
def sput {κ : Type} [DecidableEq κ] (lt : κ → κ → Bool) (x : κ) (l : List (κ × Unit)) : List (κ × Unit) := if (mget x l).isSome then l else sins lt x l
theorem sins_perm {κ : Type} (lt : κ → κ → Bool) (x : κ) : ∀ l : List (κ × Unit), (sins lt x l).Perm ((x, ()) :: l)
  | [] => List.Perm.refl _
  | p :: l => by
    unfold sins
    split
    · exact List.Perm.refl _
    · exact ((sins_perm lt x l).cons p).trans (List.Perm.swap _ _ _)
theorem sput_perm {κ : Type} [DecidableEq κ] (lt : κ → κ → Bool) (x : κ) (l : List (κ × Unit)) : (mput x () l).Perm (sput lt x l) := by
  unfold sput
  cases h : mget x l with
  | none =>
    rw [mput_new h]
    simp only [Option.isSome_none, Bool.false_eq_true, if_false]
    exact (List.perm_append_comm (l₁ := l) (l₂ := [(x, ())])).trans (sins_perm lt x l).symm
  | some u =>
    simp only [Option.isSome_some, if_true]
    refine List.Perm.of_eq ?_
    have key : ∀ {l : List (κ × Unit)}, mget x l = some u → mput x () l = l := by
      intro l
      induction l with
      | nil => intro h; cases h
      | cons p l ih =>
        intro h
        unfold mget at h
        unfold mput
        split at h
        · rename_i he; simp [he]
        · rename_i he; simp [he, ih h]
    exact key h

/-! ### steps in whatever order, some of which leave -/
def runX {β S R : Type} (step : S → β → Option (S ⊕ Option R)) (K : S → Option R) : List β → S → Option R
  | [], s => K s
  | e :: l, s => (step s e).bind fun o => match o with
    | .inl s' => runX step K l s'
    | .inr x => x
open Classical in
/-- what comes of it, where that does not hang on the order -/
noncomputable def anyX {β S R : Type} (step : S → β → Option (S ⊕ Option R)) (K : S → Option R) (es : List β) (s : S) : Option R :=
  if h : ∃ r, ∀ l : List β, l.Perm es → runX step K l s = some r then some h.choose else none
theorem anyX_all {β S R : Type} {step : S → β → Option (S ⊕ Option R)} {K : S → Option R} {es : List β} {s : S} {r : R} (h : anyX step K es s = some r) : ∀ l : List β, l.Perm es → runX step K l s = some r := by
  unfold anyX at h
  split at h
  · rename_i hx; injection h with h; rw [← h]; exact hx.choose_spec
  · cases h
theorem anyX_of {β S R : Type} {step : S → β → Option (S ⊕ Option R)} {K : S → Option R} {es : List β} {s : S} {r : R} (h : ∀ l : List β, l.Perm es → runX step K l s = some r) : anyX step K es s = some r := by
  unfold anyX
  have hx : ∃ r, ∀ l : List β, l.Perm es → runX step K l s = some r := ⟨r, h⟩
  rw [dif_pos hx]
  have h1 := hx.choose_spec es (List.Perm.refl _)
  rw [h es (List.Perm.refl _)] at h1
  exact h1.symm
section
variable {P : Program} {N : FN} {C : World → Prop} {σ : Env} {Q : Exit → Env → World → Prop} {S R β : Type}
def XGo (G : List β → S → Prop) (r : R) (l : List β) : S ⊕ Option R → Prop
  | .inl s => G l s
  | .inr x => x = some r
theorem WC.anyX {body : Code} {step : S → β → Option (S ⊕ Option R)} {K : S → Option R} {es : List β} {s0 : S} {r : R} (h : anyX step K es s0 = some r) (I : List β → S → Env → World → Prop) (h0 : ∀ w, C w → I es s0 σ w)
    (round : ∀ (G : List β → S → Prop) l s σ w, (∀ e l', l.Perm (e :: l') → l'.length < l.length ∧ ∃ o, step s e = some o ∧ XGo G r l' o) → (l = [] → K s = some r) → I l s σ w → Wpt P N body (lpE I G l.length Q) σ w) : WC P N C (.loop body) Q σ := by
  have hall := anyX_all h
  refine WC.loop (fun m σ w => ∃ l s, m = l.length ∧ (∀ l' : List β, l'.Perm l → runX step K l' s = some r) ∧ I l s σ w) (fun w hw => ⟨_, es, s0, rfl, hall, h0 w hw⟩) ?_
  rintro m σ w ⟨l, s, rfl, hG, hI⟩ a ha
  refine wp_mono (round (fun l s => ∀ l' : List β, l'.Perm l → runX step K l' s = some r) l s σ w (fun e l' hp => ⟨by rw [hp.length_eq]; simp, ?_⟩) (fun hl => ?_) hI a ha) ?_
  · have h1 := hG (e :: l') hp.symm
    unfold runX at h1
    obtain ⟨o, h2, h3⟩ := Option.bind_eq_some_iff.1 h1
    refine ⟨o, h2, ?_⟩
    cases o with
    | inr x => exact h3
    | inl s' =>
      intro l2 hp2
      have h4 := hG (e :: l2) ((hp2.cons e).trans hp.symm)
      unfold runX at h4
      rw [h2] at h4
      exact h4
  · subst hl; exact hG [] (List.Perm.refl _)
  rintro e a' w' ⟨σ', ha', hq⟩
  refine ⟨σ', ha', ?_⟩
  cases e with
  | normal =>
    obtain ⟨l', s', h1, h2, h3⟩ := hq
    exact ⟨l'.length, h1, l', s', rfl, h2, h3⟩
  | _ => exact hq
end

theorem w64_of {x z : Int} (h : w64 x = z) : I64 z := h ▸ w64_r x
theorem qv_eqj {P : Program} {C : World → Prop} {σ : Env} {o : Oper} {k : IntKind} {a b : Int} {v : Value} (hv : QV P C σ o v) (hw : v = .int k a) (h : a = b) : QV P C σ o (.int k b) := by subst hw; exact h ▸ hv
theorem qv_eqi {P : Program} {C : World → Prop} {σ : Env} {o : Oper} {k : IntKind} {a b : Int} (h : a = b) (hv : QV P C σ o (.int k a)) : QV P C σ o (.int k b) := h ▸ hv
/-! ### maps that are lent, or nil -/
section
variable {P : Program} {k : TypeId} {κ α : Type} [DecidableEq κ]
structure ZM (K : KeyT P k κ) (V : Tv α) (B : Gh) (v : Value) (es : List (κ × α)) : Prop where
  is : (v = .map none ∧ es = []) ∨ ∃ g row, v = .map (some g) ∧ MapO K V B row g es ∧ ∀ p ∈ row, B p.1 = some p.2
variable {K : KeyT P k κ} {V : Tv α} {B B' : Gh} {v : Value} {es : List (κ × α)}
theorem ZM.mono (h : ZM K V B v es) (hs : B.le B') : ZM K V B' v es := by
  rcases h.is with h | ⟨g, row, h1, h2, h3⟩
  · exact ⟨.inl h⟩
  · exact ⟨.inr ⟨g, row, h1, h2.mono hs, fun p hp => hs _ _ (h3 p hp)⟩⟩
theorem ZM.nil (K : KeyT P k κ) (V : Tv α) (B : Gh) : ZM K V B (.map none) ([] : List (κ × α)) := ⟨.inl ⟨rfl, rfl⟩⟩
theorem ZM.of {g : Nat} {row : Rowb} (h : MapO K V B row g es) (hr : ∀ p ∈ row, B p.1 = some p.2) : ZM K V B (.map (some g)) es := ⟨.inr ⟨g, row, rfl, h, hr⟩⟩
theorem ZM.ks (h : ZM K V B v es) : ∀ p ∈ es, K.ok p.1 := by
  rcases h.is with ⟨_, rfl⟩ | ⟨g, row, h1, h2, h3⟩
  · simp
  · exact h2.ks
theorem ZM.nodup (h : ZM K V B v es) : (es.map (·.1)).Nodup := by
  rcases h.is with ⟨_, rfl⟩ | ⟨g, row, h1, h2, h3⟩
  · simp
  · exact h2.nodup
/-- an iterator over such a map -/
structure ItZ (K : KeyT P k κ) (V : Tv α) (B : Gh) (row : Rowb) (g : Nat) (v : Value) (es l : List (κ × α)) : Prop where
  is : (v = .map none ∧ row = [(g, .mapIter none 0 #[] 0)] ∧ es = [] ∧ l = []) ∨ ∃ mg mrow, v = .map (some mg) ∧ (∀ p ∈ mrow, B p.1 = some p.2) ∧ ItO K V B row g mg mrow es l
def ItZE (row : Rowb) (g : Nat) (B : Gh) (kv vv : Value) : Prop := ∃ mg mrow, (∀ p ∈ mrow, B p.1 = some p.2) ∧ ItE row g mg mrow kv vv
theorem ItZ.mono {row : Rowb} {g : Nat} {l : List (κ × α)} (h : ItZ K V B row g v es l) (hs : B.le B') : ItZ K V B' row g v es l := by
  rcases h.is with h | ⟨mg, mrow, h1, h2, h3⟩
  · exact ⟨.inl h⟩
  · exact ⟨.inr ⟨mg, mrow, h1, fun p hp => hs _ _ (h2 p hp), h3.mono hs⟩⟩
end
section
variable {P : Program} {N : FN} {F : Fm} {Γ B : Gh} {L : List Rowb} {σ : Env} {o : Oper} {Q : Exit → Env → World → Prop} {rest : List Oper} {ops : Array Oper} {κ α : Type} [DecidableEq κ] {k t e : TypeId} {K : KeyT P k κ} {V : Tv α} {row : Rowb} {g : Nat} {v : Value} {es l : List (κ × α)}
theorem e_rangeZ {x : Operand} (hz : ZM K V B v es) (hS : ∀ w, Cur F Γ L w → Sat B w) (hg : o.guard = none) (hd : okDst N o.dst = true) (ho : o.op = .range t x) (ht : P.underlying t = some (.map k e)) (hx : ev σ x = v)
    (k' : ∀ g row, ItZ K V B row g v es es → WR P N ops (CC F Γ (row :: L)) Q rest (updo σ o.dst (.pointer (some ⟨g, 0, none⟩)))) : WR P N ops (CC F Γ L) Q (o :: rest) σ := by
  rcases hz.is with ⟨rfl, rfl⟩ | ⟨mg, mrow, rfl, h2, h3⟩
  · exact e_rangen hg hd ho ht hx fun g => k' g _ ⟨.inl ⟨rfl, rfl, rfl, rfl⟩⟩
  · refine WR.eff hg hd fun w hw => ?_
    obtain ⟨es', hpm, hm⟩ := h2
    obtain ⟨arr, clock, ps, hr, h4, h5⟩ := hm.is
    have hst : Stamped arr clock := by
      obtain ⟨arr', clock', h6, h7⟩ := hm.st
      rw [hr] at h6
      simp only [List.cons.injEq, Prod.mk.injEq, Obj.map.injEq, and_true, true_and] at h6
      rw [h6.1, h6.2]; exact h7
    have hbm := hS w hw mg (.map arr clock) (h3 (mg, .map arr clock) (by rw [hr]; exact List.mem_cons_self))
    refine ⟨.pointer (some ⟨w.heap.size, 0, none⟩), w.alloc (.mapIter (some mg) clock #[] clock), .inl ?_, k' w.heap.size _ ⟨.inr ⟨mg, mrow, rfl, h3, ⟨arr, clock, ps, #[], es', rfl, hr, h4, h5, hpm, hst, ?_⟩⟩⟩ _ (hw.new _)⟩
    · simp only [execOp, ho, hx, Sem.run_bind, run_range_map w t k e mg arr clock ht hbm, Result.andThen_ok, Sem.run_pure]
    · have hlen : arr.toList.length = es'.length := by
        have := congrArg List.length h4
        simp only [List.length_map] at this
        rw [this, mrd_len h5]
      have : (arr.toList.zip es').filter (fun p => !(#[] : Array Nat).contains p.1.born) = arr.toList.zip es' := List.filter_eq_self.2 fun p _ => by simp
      rw [this, List.map_snd_zip (by omega)]; exact hpm.symm
theorem e_nextZ {x : Operand} {i : Nat} (hi : L[i]? = some row) (hks : ∀ p ∈ es, K.ok p.1) (hit : ItZ K V B row g v es l) (hS : ∀ w, Cur F Γ L w → Sat B w) (hg : o.guard = none) (hd : okDst N o.dst = true) (ho : o.op = .next x false) (hx : ev σ x = .pointer (some ⟨g, 0, none⟩))
    (k0 : l = [] → WR P N ops (CC F Γ L) Q rest (updo σ o.dst (.tuple #[.bool false])))
    (k1 : ∀ en l' vv row', l.Perm (en :: l') → K.ok en.1 → V.rv B vv en.2 → ItZ K V B row' g v es l' → ItZE row' g B (K.val en.1) vv → WR P N ops (CC F Γ (L.set i row')) Q rest (updo σ o.dst (.tuple #[.bool true, K.val en.1, vv]))) : WR P N ops (CC F Γ L) Q (o :: rest) σ := by
  rcases hit.is with ⟨rfl, rfl, rfl, rfl⟩ | ⟨mg, mrow, rfl, h3, hio⟩
  · exact e_nextn hi hg hd ho hx (k0 rfl)
  · refine WR.eff hg hd fun w hw => ?_
    obtain ⟨arr, clock, ps, seen, es', rfl, hr, h2, h3', hpm, hst, hl⟩ := hio.is
    have hst' := (stamped_iff arr clock).1 hst
    have hbm := hS w hw mg (.map arr clock) (h3 (mg, .map arr clock) (by rw [hr]; exact List.mem_cons_self))
    have hbr := hw.at_ hi (p := (g, .mapIter (some mg) clock seen clock)) (by simp)
    have hlen : arr.toList.length = es'.length := by
      have := congrArg List.length h2
      simp only [List.length_map] at this
      rw [this, mrd_len h3']
    rcases run_next_at (P := P) w o.type g mg clock clock seen arr clock hbr hbm hst'.1 (Nat.le_refl _) with ⟨h0, hrun⟩ | ⟨en, hen, w1, hw1, hrun⟩
    · refine ⟨.tuple #[.bool false], w, .inl ?_, k0 ?_ w hw⟩
      · simp only [execOp, ho, hx, Sem.run_bind, hrun, Result.andThen_ok, Sem.run_pure]
      · have : (arr.toList.zip es').filter (fun p => !seen.contains p.1.born) = [] := by
          rw [List.filter_eq_nil_iff]
          intro p hp hc
          have h4 : p.1 ∈ leftOf arr seen := by
            unfold leftOf
            rw [Array.mem_filter]
            exact ⟨Array.mem_toList_iff.1 (List.of_mem_zip hp).1, hc⟩
          rw [Array.size_eq_zero_iff.1 h0] at h4
          simp at h4
        rw [this, List.map_nil] at hl
        exact hl.eq_nil
    · have hmem := mem_left hen
      obtain ⟨j, hj, hje⟩ := List.getElem_of_mem hmem.1
      have hjs : j < ps.length := by
        have := congrArg List.length h2
        simp only [List.length_map] at this
        omega
      have hp2 : (en.key, en.val) = (K.val ps[j].1, ps[j].2) := by
        have h4 := congrArg (fun l => l[j]?) h2
        simp only [List.getElem?_map, List.getElem?_eq_getElem hj, List.getElem?_eq_getElem hjs, Option.map_some, Option.some.injEq] at h4
        rw [hje] at h4; exact h4
      obtain ⟨e1, he1, hk1, hv1⟩ := mrd_get j h3' (List.getElem?_eq_getElem hjs)
      obtain ⟨hjl, hee⟩ := List.getElem?_eq_some_iff.1 he1
      simp only [Prod.mk.injEq] at hp2
      have hz : (en, e1) ∈ arr.toList.zip es' := by
        rw [List.mem_iff_getElem]
        exact ⟨j, by rw [List.length_zip]; omega, by rw [List.getElem_zip, hje, hee]⟩
      have hnd : ((arr.toList.zip es').map (·.1.born)).Nodup := by
        have h5 : (arr.toList.zip es').map (fun p => p.1.born) = arr.toList.map (·.born) := by
          rw [show (fun p : MapEntry × (κ × α) => p.1.born) = ((·.born) ∘ Prod.fst) from rfl, ← List.map_map, List.map_fst_zip (by omega)]
        rw [h5]; exact hst'.2.1
      have hperm := filt_perm hnd hz hmem.2
      refine ⟨.tuple #[.bool true, en.key, en.val], ChangeMaps.setBlock w1 g (.mapIter (some mg) clock (seen.push en.born) clock), .inl ?_, ?_⟩
      · simp only [execOp, ho, hx, Sem.run_bind, hrun, Result.andThen_ok, Sem.run_pure]
      · have hcur : Cur F Γ L w1 := by
          rcases hw1 with rfl | rfl
          · exact hw
          · exact hw.drawn 1
        have hbr1 := hcur.at_ hi (p := (g, .mapIter (some mg) clock seen clock)) (by simp)
        have hcur2 : Cur F Γ (L.set i [(g, .mapIter (some mg) clock (seen.push en.born) clock)]) (ChangeMaps.setBlock w1 g (.mapIter (some mg) clock (seen.push en.born) clock)) :=
          hcur.set hi ((iterset_fr _ hbr1).1.mono fun k hk => ⟨(g, .mapIter (some mg) clock seen clock), by simp, hk⟩) (fun p hp => by rw [List.mem_singleton.1 hp]; exact (iterset_fr _ hbr1).2)
            (fun p hp => .inl ⟨(g, .mapIter (some mg) clock seen clock), by simp, by rw [List.mem_singleton.1 hp]⟩) (by simp)
        rw [hp2.1, hp2.2, hk1]
        refine k1 e1 ((((arr.toList.zip es').filter (fun p => !(seen.push en.born).contains p.1.born)).map (·.2))) ps[j].2 _ ?_ (hks e1 (hpm.mem_iff.1 (by rw [← hee]; exact List.getElem_mem hjl))) hv1 ⟨.inr ⟨mg, mrow, rfl, h3, ⟨arr, clock, ps, _, es', rfl, hr, h2, h3', hpm, hst, List.Perm.refl _⟩⟩⟩ ⟨mg, mrow, h3, arr, clock, seen, en, rfl, hr, hmem.1, hst'.2.1, by rw [hp2.1, hk1], hp2.2⟩ _ hcur2
        exact hl.trans (hperm.map (·.2))
theorem q_entryZ {x : Operand} {i : Nat} {kv v : Value} (hi : L[i]? = some row) (hit : ItZE row g B kv v) (hS : ∀ w, Cur F Γ L w → Sat B w) (ho : o.op = .entry x) (hx : ev σ x = .pointer (some ⟨g, 0, none⟩)) : QV P (CC F Γ L) σ o (.tuple #[kv, v]) := by
  obtain ⟨mg, mrow, h1, h2⟩ := hit
  exact q_entry hi h2 (fun w hw p hp => hS w hw _ _ (h1 p hp)) ho hx
theorem q_lenZ {x : Operand} (hS : ∀ w, Cur F Γ L w → Sat B w) (h : ZM K V B v es) (ho : o.op = .call { callee := .builtin .len, args := #[x], argTypes := #[t] }) (ht : P.underlying t = some (.map k e)) (hx : ev σ x = v) :
    QV P (CC F Γ L) σ o (.int .i64 ((es.length : Nat) : Int)) := by
  rcases h.is with ⟨rfl, rfl⟩ | ⟨mg, mrow, rfl, h2, h3⟩
  · intro w hw
    simp [execOp, ho, hx, resolve, invoke, builtin, Builtin.len_, run_underlying ht, goInt, Sem.run_pure, Sem.run_bind]
  · obtain ⟨es', h4, h5⟩ := h2
    rw [← h4.length_eq]
    intro w hw
    obtain ⟨arr, clock, rfl, hl⟩ := h5.len
    have hb := hS w hw _ _ (h3 (mg, .map arr clock) (by simp))
    simp [execOp, ho, hx, resolve, invoke, builtin, Builtin.len_, run_underlying ht, getObj_m hb, goInt, Sem.run_pure, Sem.run_bind, hl]
end
section
variable {P : Program} {F : Fm} {Γ B : Gh} {L : List Rowb} {σ : Env} {o : Oper} {κ : Type} [DecidableEq κ] {k t e : TypeId} {K : KeyT P k κ} {row : Rowb} {g : Nat} {v : Value} {es : List (κ × Unit)}
theorem MapO.slook (h : MapO K trueV Γ row g es) (x : κ) : MAt K row g x (.bool false) (.bool (mget x es).isSome) (mget x es).isSome := by
  rcases h.look2 x (.bool false) with ⟨v, a, h1, h2, h3⟩ | ⟨h1, h2⟩
  · rw [h1]; rw [show v = .bool true from h2] at h3; exact h3
  · rw [h1]; exact h2
theorem run_lookup_nil {x : κ} {z : Value} {ok : Bool} {w : World} (ht : P.underlying t = some (.map k e)) (hz : ∀ w, (zeroValue e).run P w = .ok z w) : (Instr.lookup t (.map none) (K.val x) ok).run P w = .ok (if ok then .tuple #[z, .bool false] else z) w := by
  have hf := K.find w x [] [] rfl
  cases ok <;> simp [Instr.lookup, run_underlying ht, K.check, hf, fnd, hz, Sem.run_bind, Sem.run_pure, Result.andThen]
theorem q_lookup1Z {mo xo : Operand} {x : κ} (hS : ∀ w, Cur F Γ L w → Sat B w) (h : ZM K trueV B v es) (ho : o.op = .lookup t mo xo false) (ht : P.underlying t = some (.map k e)) (hz : ∀ w, (zeroValue e).run P w = .ok (.bool false) w)
    (hm : ev σ mo = v) (hx : ev σ xo = K.val x) : QV P (CC F Γ L) σ o (.bool (mget x es).isSome) := by
  rcases h.is with ⟨rfl, rfl⟩ | ⟨mg, mrow, rfl, h2, h3⟩
  · intro w hw
    simp only [execOp, ho, hm, hx, Sem.run_bind, run_lookup_nil (ok := false) ht hz, Bool.false_eq_true, if_false, Result.andThen_ok, Sem.run_pure, mget, Option.isSome_none]
  · exact q_lookup1r (fun w hw p hp => hS w hw _ _ (h3 p hp)) (h2.slook x) ho ht hz hm hx
theorem q_lookup2Z {mo xo : Operand} {x : κ} (hS : ∀ w, Cur F Γ L w → Sat B w) (h : ZM K trueV B v es) (ho : o.op = .lookup t mo xo true) (ht : P.underlying t = some (.map k e)) (hz : ∀ w, (zeroValue e).run P w = .ok (.bool false) w)
    (hm : ev σ mo = v) (hx : ev σ xo = K.val x) : QV P (CC F Γ L) σ o (.tuple #[.bool (mget x es).isSome, .bool (mget x es).isSome]) := by
  rcases h.is with ⟨rfl, rfl⟩ | ⟨mg, mrow, rfl, h2, h3⟩
  · intro w hw
    simp only [execOp, ho, hm, hx, Sem.run_bind, run_lookup_nil (ok := true) ht hz, if_true, Result.andThen_ok, Sem.run_pure, mget, Option.isSome_none]
  · intro w hw
    have := run_lookup (ok := true) ht hz (h2.slook x) (fun p hp => hS w hw _ _ (h3 p hp))
    simp only [execOp, ho, hm, hx, Sem.run_bind, this, if_true, Result.andThen_ok, Sem.run_pure]
end
end Fw
end Go.Proofs.Ytldpanjodokefaa
