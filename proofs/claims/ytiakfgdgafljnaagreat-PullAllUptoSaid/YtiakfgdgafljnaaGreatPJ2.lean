/- The plain side: what the models come to. No condition. -/
import Derived.Test.YtiakfgdgafljnaaGreatPJ1
import Derived.Test.YtiakfgdgafljnaaGreatM
namespace Go.Proofs.YtiakfgdgafljnaaGreat
namespace Fw
set_option linter.unusedVariables false
set_option linter.unusedSimpArgs false
set_option linter.unusedSectionVars false

theorem cmp_go {B : (Unit → Option Bool) → Nat → Int → Unit → Option Bool} {b : List Int} (hB : ∀ f i x, i < b.length → B f i x () = bif x != gt b i then some false else f ()) : ∀ (l : List Int) (i : Nat), i + l.length = b.length → forI B (fun _ => some true) i l () = some (decide (l = b.drop i))
  | [], i, h => by
    rw [List.drop_of_length_le (by simpa using Nat.le_of_eq h.symm)]; rfl
  | x :: l, i, h => by
    have hi : i < b.length := by simp at h; omega
    show B (forI B (fun _ => some true) (i + 1) l) i x () = _
    rw [hB _ _ _ hi, cmp_go hB l (i + 1) (by simp at h; omega), drop_gt hi]
    by_cases hx : x = gt b i
    · rw [show (x != gt b i) = false by simpa using hx, cond_false]
      congr 1; rw [Bool.eq_iff_iff]; simp [hx]
    · rw [show (x != gt b i) = true by simpa using hx, cond_true]
      congr 1; symm; exact decide_eq_false (by simp [hx])
theorem e_EqualI (a b : List Int) : m_slices_Equal_int_int a b = some (decide (a = b)) := by
  unfold m_slices_Equal_int_int
  by_cases hl : a.length = b.length
  · rw [nat_f hl, cond_false, cmp_go (b := b) (fun f i x hi => by unfold m_slices_Equal_int_int_b1; rw [chk_t (decide_eq_true hi)]) a 0 (by omega), List.drop_zero]
  · rw [nat_t hl, cond_true]
    congr 1; symm; exact decide_eq_false (fun e => hl (by rw [e]))
/-- is a record beneath a way? -/
def ben (x : Wy) (r : Rec) : Bool := rr r && decide ([((pa r.key : Nat) : Int), ((pb r.key : Nat) : Int)] = x.path)
def odd (x : Wy) (l : List Rec) : Bool := match x with
  | .one _ => false
  | .two _ _ => l.any (fun r => !ben x r)
theorem e_beneath (x : Wy) {r : Rec} (h : RecOk r) : m_pull_way_beneath x.way r = some (ben x r) := by
  unfold m_pull_way_beneath ben
  rw [e_cRec h, Option.bind_some]
  cases rr r with
  | false => rfl
  | true => rw [cond_true, e_Place, Option.bind_some, e_wpath, Option.bind_some, e_EqualI, gcall_s, Option.bind_some, cond_true, Bool.true_and]
theorem e_strange (d e : Nat) {l : List Rec} (h : ∀ r ∈ l, RecOk r) : m_slices_ContainsFunc_api_Rec_api_Rec l ((d : Nat) : Int) ((e : Nat) : Int) = some (l.any (fun r => !ben (.two d e) r)) := by
  unfold m_slices_ContainsFunc_api_Rec_api_Rec m_slices_IndexFunc_api_Rec_api_Rec
  obtain ⟨r, h1, h2⟩ := forI_find (B := m_slices_IndexFunc_api_Rec_api_Rec_b1 ((d : Nat) : Int) ((e : Nat) : Int)) (p := fun r => !ben (.two d e) r) l 0 (fun f i x hx => by
    unfold m_slices_IndexFunc_api_Rec_api_Rec_b1 m_pull_Pull_Tell_2
    have : m_pull_way_beneath (⟨((d : Nat) : Int), ((e : Nat) : Int)⟩ : Dpull_way) x = some (ben (.two d e) x) := e_beneath (.two d e) (h x hx)
    rw [this, Option.bind_some, Option.bind_some])
  rw [h1, Option.bind_some, h2]

/-- a pull that has these records, wants these ways, holds these -/
structure PS (p : Opull_Pull) (own S : List Rec) (W : List Wy) : Prop where
  ol : own.length ≤ 4194304
  wants : p.wants = W.map Wy.way
  own : Good p.own own
  st : Good p.staged S
def laidS (x : Wy) (l S : List Rec) : List Rec := match x with
  | .one _ => S
  | .two _ _ => l.foldl withr S

theorem tell_eq (p : Opull_Pull) (path hashes : List Int) (list : List Rec) : m_pull_Pull_Tell p path hashes list =
    (Option.bind (gcall (!(decide (2 < ((path.length : Nat) : Int)))) (m_slices_ContainsFunc_int_int_s1 path)) fun z4 => (bif ((decide (2 < ((path.length : Nat) : Int))) || z4) then
      (some (p, false))
      else
      (Option.bind (m_slices_Index_pull_way_pull_way p.wants (wayOf path)) fun z12 => (bif (decide (z12 < 0)) then
      (some (p, false))
      else
      (bif (decide ((wayOf path).a1 < 0)) then
      (chk (i64b z12) (Option.bind (m_slices_Delete_pull_way_pull_way p.wants z12 (w64 (z12 + 1))) fun z18 => (Option.bind (m_tree_Tree_Kids m_tree_Tree_Hash p.own [(wayOf path).a0]) fun z36 => (Option.bind (m_tree_Differ z36.2 hashes) fun z54 => (forI (m_pull_Pull_Tell_b1 path) (fun o65 =>
      (some (o65, true))) 0 z54 (⟨p.id, z36.1, p.begun, p.vec, z18, p.staged⟩ : Opull_Pull))))))
      else
      (Option.bind (m_slices_ContainsFunc_api_Rec_api_Rec list (wayOf path).a0 (wayOf path).a1) fun z87 => (bif z87 then
      (some (p, false))
      else
      (chk (i64b z12) (Option.bind (m_slices_Delete_pull_way_pull_way p.wants z12 (w64 (z12 + 1))) fun z96 => (forI (m_pull_Pull_Tell_b2) (fun o109 =>
      (some (o109, true))) 0 list (⟨p.id, p.own, p.begun, p.vec, z96, p.staged⟩ : Opull_Pull))))))))))) := rfl
theorem i64_nat {n : Nat} (h : n ≤ 1000) : i64b ((n : Nat) : Int) = true := by unfold i64b; simp; omega
theorem tell_begin {p : Opull_Pull} {own S : List Rec} {W : List Wy} (h : PS p own S W) (hW : WI W) {x : Wy} (hx : x ∈ W) (hashes : List Int) (list : List Rec) :
    ∃ j, j < W.length ∧ gt W j = x ∧ m_pull_Pull_Tell p x.path hashes list = (bif (decide (x.way.a1 < 0)) then
      (chk (i64b ((j : Nat) : Int)) (Option.bind (m_slices_Delete_pull_way_pull_way (W.map Wy.way) ((j : Nat) : Int) (w64 (((j : Nat) : Int) + 1))) fun z18 => (Option.bind (m_tree_Tree_Kids m_tree_Tree_Hash p.own [x.way.a0]) fun z36 => (Option.bind (m_tree_Differ z36.2 hashes) fun z54 => (forI (m_pull_Pull_Tell_b1 x.path) (fun o65 =>
      (some (o65, true))) 0 z54 (⟨p.id, z36.1, p.begun, p.vec, z18, p.staged⟩ : Opull_Pull))))))
      else
      (Option.bind (m_slices_ContainsFunc_api_Rec_api_Rec list x.way.a0 x.way.a1) fun z87 => (bif z87 then
      (some (p, false))
      else
      (chk (i64b ((j : Nat) : Int)) (Option.bind (m_slices_Delete_pull_way_pull_way (W.map Wy.way) ((j : Nat) : Int) (w64 (((j : Nat) : Int) + 1))) fun z96 => (forI (m_pull_Pull_Tell_b2) (fun o109 =>
      (some (o109, true))) 0 list (⟨p.id, p.own, p.begun, p.vec, z96, p.staged⟩ : Opull_Pull))))))) := by
  obtain ⟨j, h1, h2, h3⟩ := e_Index_yes hx
  refine ⟨j, h1, h2, ?_⟩
  have hl : x.path.length ≤ 2 := by rcases path_len x with e | e <;> omega
  rw [tell_eq, decide_eq_false (show ¬ (2 : Int) < ((x.path.length : Nat) : Int) by omega), Bool.not_false, e_neg, gcall_s, Option.bind_some, cond_true, Bool.false_or,
    show x.path.any (fun d => decide (d < 0)) = false from List.any_eq_false.2 (fun d hd => by have := path_nn x d hd; simpa using this), cond_false, way_of, h.wants, h3, Option.bind_some,
    decide_eq_false (show ¬ ((j : Nat) : Int) < 0 by omega), cond_false]
theorem map_rest (l : List Wy) (d : Nat) (D : List Nat) : (l ++ D.map (Wy.two d)).map Wy.way = l.map Wy.way ++ D.map (fun e => (⟨((d : Nat) : Int), ((e : Nat) : Int)⟩ : Dpull_way)) := by
  rw [List.map_append, List.map_map]; rfl
theorem tell_yes {p : Opull_Pull} {own S : List Rec} {W : List Wy} (h : PS p own S W) (hW : WI W) {x : Wy} (hx : x ∈ W) (hashes : List Int) {list : List Rec} (hok : ∀ r ∈ list, RecOk r) (ho : odd x list = false) :
    ∃ p', m_pull_Pull_Tell p x.path hashes list = some (p', true) ∧ PS p' own (laidS x list S) (W.erase x ++ rest own hashes x) ∧ p'.id = p.id ∧ p'.begun = p.begun ∧ p'.vec = p.vec := by
  obtain ⟨j, h1, h2, h3⟩ := tell_begin h hW hx hashes list
  have hWl := hW.len
  rw [h3, e_Delete hW.nd h1 (by omega), chk_t (i64_nat (by omega)), Option.bind_some, h2]
  cases x with
  | one d =>
    rw [show decide ((Wy.one d).way.a1 < 0) = true from rfl, cond_true]
    obtain ⟨r, e1, v1, g1⟩ := e_TKids h.ol h.own [(Wy.one d).way.a0]
    rw [e1, Option.bind_some, v1, e_Differ, Option.bind_some]
    have hdl : (difN (kidsV own [((d : Nat) : Int)]) hashes).length ≤ 16 := by have := dif_len16 (kidsV own [((d : Nat) : Int)]) hashes; unfold dif at this; rwa [List.length_map] at this
    show ∃ p', forI (m_pull_Pull_Tell_b1 (Wy.one d).path) _ 0 ((difN (kidsV own [((d : Nat) : Int)]) hashes).map (fun i : Nat => ((i : Nat) : Int))) _ = _ ∧ _
    have hrest : rest own hashes (.one d) = (difN (kidsV own [((d : Nat) : Int)]) hashes).map (Wy.two d) := rfl
    rw [hrest]
    generalize difN (kidsV own [((d : Nat) : Int)]) hashes = D at hdl ⊢
    have hel : (W.erase (.one d)).length ≤ 272 := Nat.le_trans (List.length_erase_le) hWl
    generalize W.erase (.one d) = W2 at hel ⊢
    refine ⟨⟨p.id, r.1, p.begun, p.vec, (W2 ++ D.map (Wy.two d)).map Wy.way, p.staged⟩, ?_, ⟨h.ol, rfl, g1, h.st⟩, rfl, rfl, rfl⟩
    refine forI_run (fun i (o : Opull_Pull) => o = ⟨p.id, r.1, p.begun, p.vec, (W2 ++ (D.take i).map (Wy.two d)).map Wy.way, p.staged⟩) (fun o hI => ?_) (fun f i o hi hI hf => ?_) (by rw [List.take_zero, List.map_nil, List.append_nil])
    · rw [List.length_map, List.take_length] at hI
      rw [hI]
    · rw [List.length_map] at hi
      unfold m_pull_Pull_Tell_b1
      rw [hI]
      simp only
      rw [chk_t (decide_eq_true (by rw [lim_v]; simp only [List.length_map, List.length_append, List.length_take]; omega))]
      refine hf _ ?_
      congr 1
      rw [map_rest, map_rest, take_gt hi, List.map_append, List.append_assoc, gt_map (fun i : Nat => ((i : Nat) : Int)) hi]
      rfl
  | two d e =>
    rw [decide_eq_false (show ¬ (Wy.two d e).way.a1 < 0 by show ¬ ((e : Nat) : Int) < 0; omega), cond_false]
    have hs : m_slices_ContainsFunc_api_Rec_api_Rec list (Wy.two d e).way.a0 (Wy.two d e).way.a1 = some false := by
      rw [← ho]; exact e_strange d e hok
    rw [hs, Option.bind_some, cond_false, chk_t (i64_nat (by omega)), Option.bind_some]
    have hr : ∀ r ∈ list, rr r = true := fun r hr => by
      have h9 := List.any_eq_false.1 (show list.any (fun r => !ben (.two d e) r) = false from ho) r hr
      have h8 : ben (.two d e) r = true := by simpa using h9
      unfold ben at h8
      exact (Bool.and_eq_true_iff.1 h8).1
    show ∃ p', _ ∧ PS p' own (list.foldl withr S) (W.erase (.two d e) ++ []) ∧ _
    rw [List.append_nil]
    obtain ⟨q, e1, e2, e3, e4⟩ := forI_ex (body := m_pull_Pull_Tell_b2) (k := fun o109 => some (o109, true)) (l := list) (s := (⟨p.id, p.own, p.begun, p.vec, (W.erase (.two d e)).map Wy.way, p.staged⟩ : Opull_Pull))
      (fun i o => Good o.staged ((list.take i).foldl withr S) ∧ o.id = p.id ∧ o.own = p.own ∧ o.begun = p.begun ∧ o.vec = p.vec ∧ o.wants = (W.erase (.two d e)).map Wy.way)
      (fun (q : Opull_Pull × Bool) => q.2 = true ∧ PS q.1 own (list.foldl withr S) (W.erase (.two d e)) ∧ q.1.id = p.id ∧ q.1.begun = p.begun ∧ q.1.vec = p.vec)
      (fun o hI => ⟨_, rfl, rfl, ⟨h.ol, hI.2.2.2.2.2, hI.2.2.1 ▸ h.own, by have := hI.1; rwa [List.take_length] at this⟩, hI.2.1, hI.2.2.2.1, hI.2.2.2.2.1⟩)
      (fun f i o hi hI hf => by
        have hm := gt_mem hi
        unfold m_pull_Pull_Tell_b2
        rw [e_Set hI.1.len (hok _ hm), hr _ hm, cond_true, Option.bind_some]
        refine hf _ ⟨?_, hI.2.1, hI.2.2.1, hI.2.2.2.1, hI.2.2.2.2.1, hI.2.2.2.2.2⟩
        rw [take_gt hi, List.foldl_append]
        exact hI.1.set (hok _ hm) (hr _ hm)) ⟨h.st, rfl, rfl, rfl, rfl, rfl⟩
    obtain ⟨q1, q2⟩ := q
    simp only at e2 e3 e4
    subst e2
    exact ⟨q1, e1, e3, e4⟩

/-! ### the others -/
theorem e_Wants {p : Opull_Pull} {W : List Wy} (h : p.wants = W.map Wy.way) (hl : W.length ≤ 272) : m_pull_Pull_Wants p = some (W.map Wy.path) := by
  unfold m_pull_Pull_Wants
  rw [h]
  refine forI_run (fun i s => s = (W.take i).map Wy.path) (fun s hI => ?_) (fun f i s hi hI hf => ?_) rfl
  · rw [List.length_map, List.take_length] at hI; rw [hI]
  · rw [List.length_map] at hi
    unfold m_pull_Pull_Wants_b1
    rw [gt_map Wy.way hi, e_wpath, Option.bind_some, e_cloneI (by rcases path_len (gt W i) with e | e <;> rw [lim_v] <;> omega), Option.bind_some,
      chk_t (decide_eq_true (by rw [hI, lim_v]; simp only [List.length_map, List.length_take]; omega))]
    exact hf _ (by rw [take_gt hi, List.map_append, hI]; rfl)
theorem e_clone64 {l : List Int} (h : l.length ≤ lim) : m_slices_Clone_int64_int64 l = some l := by
  first
    | exact e_cloneI h
    | (unfold m_slices_Clone_int64_int64; simp only [List.nil_append]; split <;> first | rfl | skip)
def vRight (v : List Int) : Bool := decide (1 ≤ v.length) && decide (v.length ≤ 16) && v.all (fun x => !(decide (x < 0) || decide (4611686018427387904 < x)))
theorem vR_go {B : (Unit → Option Bool) → Nat → Int → Unit → Option Bool} {e : Bool} (hB : ∀ f i x, B f i x () = bif (decide (x < 0) || decide (4611686018427387904 < x)) then some false else f ()) : ∀ (l : List Int) (i : Nat), forI B (fun _ => some e) i l () = some (e && l.all (fun x => !(decide (x < 0) || decide (4611686018427387904 < x))))
  | [], i => by simp [forI]
  | x :: l, i => by
    show B (forI B (fun _ => some e) (i + 1) l) i x () = _
    rw [hB, vR_go hB l (i + 1), List.all_cons]
    cases (decide (x < 0) || decide (4611686018427387904 < x)) <;> cases e <;> simp
theorem nle1 (n : Nat) : decide ((1 : Int) ≤ ((n : Nat) : Int)) = decide (1 ≤ n) := by rw [Bool.eq_iff_iff]; simp; omega
theorem nle16 (n : Nat) : decide (((n : Nat) : Int) ≤ 16) = decide (n ≤ 16) := by rw [Bool.eq_iff_iff]; simp; omega
theorem e_vRight (v : List Int) : m_vect_Right v = some (vRight v) := by
  unfold m_vect_Right vRight
  rw [vR_go (e := decide ((1 : Int) ≤ ((v.length : Nat) : Int)) && decide (((v.length : Nat) : Int) ≤ 16)) (fun f i x => by unfold m_vect_Right_b1; rfl), nle1, nle16]
theorem vR_len {v : List Int} (h : vRight v = true) : v.length ≤ 16 := by
  unfold vRight at h
  rw [Bool.and_eq_true_iff, Bool.and_eq_true_iff] at h
  exact of_decide_eq_true h.1.2
/-- what is wanted at first -/
def firstW (own : List Rec) (hashes : List Int) : List Wy := (difN (kidsV own []) hashes).map Wy.one
theorem WI.first (own : List Rec) (hashes : List Int) : WI (firstW own hashes) := by
  refine ⟨nodup_map (fun a b (hab : Wy.one a = Wy.one b) => by injection hab) (difN_nodup _ _), fun x hx => ?_, fun d e h => ?_⟩
  · obtain ⟨d, hd, rfl⟩ := List.mem_map.1 hx
    exact (difN_mem hd).1
  · obtain ⟨d2, hd, h2⟩ := List.mem_map.1 h
    cases h2
theorem e_Begin {p : Opull_Pull} {own S : List Rec} (h : PS p own S []) {vec : List Int} (hashes : List Int) (hb : p.begun = false) (hv : vRight vec = true) :
    ∃ p', m_pull_Pull_Begin p vec hashes = some (p', true) ∧ PS p' own S (firstW own hashes) ∧ p'.id = p.id ∧ p'.begun = true ∧ p'.vec = vec := by
  unfold m_pull_Pull_Begin
  rw [e_vRight, gcall_s, Option.bind_some, hb, Bool.not_false, cond_true, hv, Bool.not_true, Bool.or_self, cond_false, e_clone64 (by have := vR_len hv; rw [lim_v]; omega), Option.bind_some]
  obtain ⟨r, e1, v1, g1⟩ := e_TKids h.ol h.own []
  rw [e1, Option.bind_some, v1, e_Differ, Option.bind_some, h.wants, List.map_nil]
  have hdl : (difN (kidsV own []) hashes).length ≤ 16 := by have := dif_len16 (kidsV own []) hashes; unfold dif at this; rwa [List.length_map] at this
  unfold firstW
  show ∃ p', forI _ _ 0 ((difN (kidsV own []) hashes).map (fun i : Nat => ((i : Nat) : Int))) _ = _ ∧ _
  generalize difN (kidsV own []) hashes = D at hdl ⊢
  refine ⟨⟨p.id, r.1, true, vec, (D.map Wy.one).map Wy.way, p.staged⟩, ?_, ⟨h.ol, rfl, g1, h.st⟩, rfl, rfl, rfl⟩
  refine forI_run (fun i (o : Opull_Pull) => o = ⟨p.id, r.1, true, vec, ((D.take i).map Wy.one).map Wy.way, p.staged⟩) (fun o hI => ?_) (fun f i o hi hI hf => ?_) rfl
  · rw [List.length_map, List.take_length] at hI
    rw [hI]
  · rw [List.length_map] at hi
    unfold m_pull_Pull_Begin_b1
    rw [hI]
    simp only
    rw [chk_t (decide_eq_true (by rw [lim_v]; simp only [List.length_map, List.length_take]; omega))]
    refine hf _ ?_
    congr 1
    rw [take_gt hi, List.map_append, List.map_append, gt_map (fun i : Nat => ((i : Nat) : Int)) hi]
    rfl
theorem e_NewPull_w (id : Int) {own : List Rec} (hok : ∀ r ∈ own, RecOk r) (hl : own.length ≤ 4194304) (hr : ∀ r ∈ own, rr r = true) : ∃ p, m_pull_NewPull id own = some (some p, 0) ∧ PS p (addL own) [] [] ∧ p.id = id ∧ p.begun = false ∧ p.vec = [] := by
  unfold m_pull_NewPull
  obtain ⟨o, h1, h2⟩ := e_New_t hok hr
  have := addL_len own
  rw [h1, Option.bind_some, show (((0 : Int)) != 0) = false from rfl, cond_false, e_New0, Option.bind_some, Option.bind_some, Option.bind_some]
  exact ⟨_, rfl, ⟨by omega, rfl, h2, good0⟩, rfl, rfl, rfl⟩
theorem e_NewPull_t (id : Int) {own : List Rec} (hok : ∀ r ∈ own, RecOk r) (hl : own.length ≤ 1048576) (hr : ∀ r ∈ own, rr r = true) : ∃ p, m_pull_NewPull id own = some (some p, 0) ∧ PS p (addL own) [] [] ∧ p.id = id ∧ p.begun = false ∧ p.vec = [] := e_NewPull_w id hok (by omega) hr
/-- a cut of these records -/
structure CS (c : Opull_Cut) (id : Int) (vec : List Int) (all : List Rec) : Prop where
  vl : vec.length ≤ 16
  al : all.length ≤ 4194304
  id : c.id = id
  vec : c.vec = vec
  tree : Good c.tree all
theorem e_NewCut_w (id : Int) {vec : List Int} {list : List Rec} (hok : ∀ r ∈ list, RecOk r) (hl : list.length ≤ 4194304) (hr : ∀ r ∈ list, rr r = true) (hv : vRight vec = true) : ∃ c, m_pull_NewCut id vec list = some (some c, 0) ∧ CS c id vec (addL list) := by
  unfold m_pull_NewCut
  obtain ⟨o, h1, h2⟩ := e_New_t hok hr
  have := addL_len list
  have hvl := vR_len hv
  rw [h1, Option.bind_some, e_vRight, gcall_s, Option.bind_some]
  simp only
  rw [show (!(((0 : Int)) != 0)) = true from rfl, cond_true, hv, show (((0 : Int)) != 0) = false from rfl, Bool.not_true, Bool.or_self, cond_false, e_clone64 (by rw [lim_v]; omega), Option.bind_some, Option.bind_some]
  exact ⟨_, rfl, hvl, by omega, rfl, rfl, h2⟩
theorem e_NewCut_t (id : Int) {vec : List Int} {list : List Rec} (hok : ∀ r ∈ list, RecOk r) (hl : list.length ≤ 1048576) (hr : ∀ r ∈ list, rr r = true) (hv : vRight vec = true) : ∃ c, m_pull_NewCut id vec list = some (some c, 0) ∧ CS c id vec (addL list) := e_NewCut_w id hok (by omega) hr hv
theorem e_CVec {c : Opull_Cut} {id : Int} {vec : List Int} {all : List Rec} (h : CS c id vec all) : m_pull_Cut_Vec c = some vec := by
  unfold m_pull_Cut_Vec
  have := h.vl
  rw [h.vec, e_clone64 (by rw [lim_v]; omega), Option.bind_some]
theorem e_COpen {c : Opull_Cut} {id : Int} {vec : List Int} {all : List Rec} (h : CS c id vec all) : ∃ c', m_pull_Cut_Open c = some (c', kidsV all []) ∧ CS c' id vec all := by
  unfold m_pull_Cut_Open
  have := h.al
  obtain ⟨r, e1, v1, g1⟩ := e_TKids (by omega) h.tree []
  rw [e1, Option.bind_some, v1]
  exact ⟨_, rfl, h.vl, h.al, h.id, h.vec, g1⟩
theorem out_ok {path : List Int} (hl : path.length ≤ 2) : path.any (fun d => decide (d < 0) || decide (15 < d)) = !okP path := by
  unfold okP
  rw [decide_eq_true hl, Bool.true_and, List.not_all_eq_any_not]
  congr 1
  funext d
  rw [Bool.eq_iff_iff]; simp
/-- what a cut answers -/
def wantV (all : List Rec) (path : List Int) : List Int × List Rec × Bool := bif okP path && decide (1 ≤ path.length) then (bif decide (path.length = 1) then (kidsV all path, [], true) else ([], rcV all path, true)) else ([], [], false)
theorem e_CWant {c : Opull_Cut} {id : Int} {vec : List Int} {all : List Rec} (h : CS c id vec all) (path : List Int) : ∃ c', m_pull_Cut_Want c path = some (c', wantV all path) ∧ CS c' id vec all := by
  unfold m_pull_Cut_Want
  have hal := h.al
  rw [e_out, Option.bind_some]
  by_cases hl : path.length ≤ 2
  · rw [out_ok hl]
    unfold wantV
    cases ho : okP path with
    | false => exact ⟨c, rfl, h⟩
    | true =>
      rw [Bool.not_true, cond_false, Bool.true_and]
      match path, hl with
      | [], _ => exact ⟨c, rfl, h⟩
      | [a], _ =>
        obtain ⟨r, e1, v1, g1⟩ := e_TKids (by omega) h.tree [a]
        show ∃ c', (Option.bind (m_tree_Tree_Kids m_tree_Tree_Hash c.tree [a]) _) = _ ∧ _
        rw [e1, Option.bind_some, v1]
        exact ⟨_, rfl, h.vl, h.al, h.id, h.vec, g1⟩
      | [a, b], _ =>
        show ∃ c', (Option.bind (m_tree_Tree_Recs c.tree [a, b]) _) = _ ∧ _
        rw [e_RecsV h.tree (by omega), Option.bind_some]
        exact ⟨_, rfl, h⟩
  · have ho : okP path = false := by
      unfold okP; rw [decide_eq_false hl]; rfl
    have e1 : ((((path.length : Nat) : Int)) == 1) = false := by rw [beq_eq_false_iff_ne]; omega
    have e2 : ((((path.length : Nat) : Int)) == 2) = false := by rw [beq_eq_false_iff_ne]; omega
    unfold wantV
    rw [ho, e1, e2]
    cases path.any (fun d => decide (d < 0) || decide (15 < d)) <;> exact ⟨c, rfl, h⟩
theorem e_Staged {p : Opull_Pull} {own S : List Rec} {W : List Wy} (h : PS p own S W) (hl : S.length ≤ 4194304) : m_pull_Pull_Staged p = some S := by
  unfold m_pull_Pull_Staged
  rw [e_RecsV h.st hl, Option.bind_some]
  unfold rcV
  rw [show okP [] = true from rfl, cond_true, all_i]
theorem e_Done (p : Opull_Pull) : m_pull_Pull_Done p = some (p.begun && p.wants.isEmpty) := by
  unfold m_pull_Pull_Done
  congr 2
  cases p.wants with
  | nil => rfl
  | cons x l => rw [List.isEmpty_cons, beq_eq_false_iff_ne]; simp only [List.length_cons]; omega
end Fw
end Go.Proofs.YtiakfgdgafljnaaGreat

namespace Go.Proofs.YtiakfgdgafljnaaGreat
namespace Fw
set_option linter.unusedVariables false
set_option linter.unusedSimpArgs false
set_option linter.unusedSectionVars false

structure QS (q : Ofirthref19_Pull) (own S : List Rec) (W : List Wy) : Prop where
  rcs : Rcs own
  paths : q.paths = W.map Wy.path
  st : q.in_ = S
  own : q.own = own
theorem nat_lt {a b : Nat} : decide (((a : Nat) : Int) < ((b : Nat) : Int)) = decide (a < b) := by rw [Bool.eq_iff_iff]; simp
theorem addL_rcs2 {l : List Rec} (hok : ∀ r ∈ l, RecOk r) (hr : ∀ r ∈ l, rr r = true) (hl : l.length ≤ 1048576) : Rcs (addL l) := by
  obtain ⟨o, _, h2⟩ := e_New_t hok hr
  exact addL_rcs hl h2
end Fw
end Go.Proofs.YtiakfgdgafljnaaGreat

namespace Go.Proofs.YtiakfgdgafljnaaGreat
namespace Fw
theorem awake19 : m_firthlaw19_awake = some true := by decide +kernel
end Fw
end Go.Proofs.YtiakfgdgafljnaaGreat

namespace Go.Proofs.YtiakfgdgafljnaaGreat
namespace Fw
set_option linter.unusedVariables false
set_option linter.unusedSimpArgs false
set_option linter.unusedSectionVars false

end Fw
end Go.Proofs.YtiakfgdgafljnaaGreat

namespace Go.Proofs.YtiakfgdgafljnaaGreat
namespace Fw
set_option linter.unusedVariables false
set_option linter.unusedSimpArgs false
set_option linter.unusedSectionVars false

theorem forU_exs {S R : Type} {body : (S → Option R) → Nat → S → Option R} {k : S → Option R} {n : Nat} (I : Nat → S → Prop) (Q : R → Prop) (hend : ∀ s, I n s → ∃ r, k s = some r ∧ Q r)
    (hstep : ∀ f i s, i < n → I i s → (∀ s', I (i + 1) s' → ∃ r, f s' = some r ∧ Q r) → ∃ r, body f i s = some r ∧ Q r) {s : S} (h0 : I 0 s) : ∃ r, forU body k n 0 s = some r ∧ Q r := by
  have key : ∀ m i s, i + m = n → I i s → ∃ r, forU body k m i s = some r ∧ Q r := by
    intro m
    induction m with
    | zero =>
      intro i s hi hI
      have : i = n := by omega
      subst this
      exact hend s hI
    | succ m ih => intro i s hi hI; exact hstep _ i s (by omega) hI fun s' h' => ih (i + 1) s' (by omega) h'
  exact key n 0 s (by omega) h0
/-- is this leaf to be told? -/
def lf (own all : List Rec) (d e : Nat) : Bool := decide (d ∈ difN (kidsV own []) (kidsV all [])) && decide (e ∈ difN (kidsV own [((d : Nat) : Int)]) (kidsV all [((d : Nat) : Int)]))
def pend (W : List Wy) (d e : Nat) : Prop := Wy.one d ∈ W ∨ Wy.two d e ∈ W
structure TI (own all : List Rec) (W : List Wy) (S : List Rec) : Prop where
  wi : WI W
  one : ∀ d, Wy.one d ∈ W → d ∈ difN (kidsV own []) (kidsV all [])
  two : ∀ d e, Wy.two d e ∈ W → lf own all d e = true
  st : ∀ r, r ∈ S ↔ (r ∈ all ∧ lf own all (pa r.key) (pb r.key) = true ∧ ¬ pend W (pa r.key) (pb r.key))
theorem lf_1 {own all : List Rec} {d e : Nat} (h : lf own all d e = true) : d ∈ difN (kidsV own []) (kidsV all []) := of_decide_eq_true (Bool.and_eq_true_iff.1 h).1
theorem lf_2 {own all : List Rec} {d e : Nat} (h : lf own all d e = true) : e ∈ difN (kidsV own [((d : Nat) : Int)]) (kidsV all [((d : Nat) : Int)]) := of_decide_eq_true (Bool.and_eq_true_iff.1 h).2
theorem TI.first (own all : List Rec) : TI own all (firstW own (kidsV all [])) [] := by
  refine ⟨WI.first _ _, fun d h => ?_, fun d e h => ?_, fun r => ⟨fun h => absurd h List.not_mem_nil, fun h => ?_⟩⟩
  · obtain ⟨d2, hd, h2⟩ := List.mem_map.1 h
    injection h2 with h2; subst h2; exact hd
  · obtain ⟨d2, hd, h2⟩ := List.mem_map.1 h
    cases h2
  · exact absurd (.inl (List.mem_map.2 ⟨_, lf_1 h.2.1, rfl⟩)) h.2.2
theorem foldl_sub {all : List Rec} (hs : SR all) (hv : ∀ r ∈ all, r.vers ≠ []) : ∀ {l S : List Rec}, (∀ r ∈ l, r ∈ all) → (∀ r ∈ S, r ∈ all) → ∀ r, r ∈ l.foldl withr S ↔ (r ∈ l ∨ r ∈ S)
  | [], S, _, _, r => by simp
  | a :: l, S, hl, hS, r => by
    have ha := hl a (by simp)
    have hS2 : ∀ r, r ∈ withr S a ↔ (r = a ∨ r ∈ S) := fun r => by
      rw [mem_withr]
      constructor
      · rintro (⟨h, _⟩ | ⟨h, _⟩)
        · exact .inl h
        · exact .inr h
      · rintro (h | h)
        · exact .inl ⟨h, hv a ha⟩
        · by_cases e : r.key = a.key
          · exact .inl ⟨sr_key hs (hS r h) ha e, hv a ha⟩
          · exact .inr ⟨h, e⟩
    rw [List.foldl_cons, foldl_sub hs hv (fun r h => hl r (List.mem_cons_of_mem _ h)) (fun r h => by
      rcases (hS2 r).1 h with rfl | h
      · exact ha
      · exact hS r h) r, hS2, List.mem_cons]
    constructor
    · rintro (h | h | h)
      · exact .inl (.inr h)
      · exact .inl (.inl h)
      · exact .inr h
    · rintro ((h | h) | h)
      · exact .inr (.inl h)
      · exact .inl h
      · exact .inr (.inr h)
theorem want_one (all : List Rec) {d : Nat} (hd : d < 16) : wantV all (Wy.one d).path = (kidsV all [((d : Nat) : Int)], [], true) := by
  unfold wantV
  show (bif okP [((d : Nat) : Int)] && decide (1 ≤ 1) then _ else _) = _
  rw [ok1 hd]; rfl
theorem want_two (all : List Rec) {d e : Nat} (hd : d < 16) (he : e < 16) : wantV all (Wy.two d e).path = ([], rcV all [((d : Nat) : Int), ((e : Nat) : Int)], true) := by
  unfold wantV
  show (bif okP [((d : Nat) : Int), ((e : Nat) : Int)] && decide (1 ≤ 2) then _ else _) = _
  rw [ok2 hd he]; rfl
theorem mem_rc {all : List Rec} {d e : Nat} (hd : d < 16) (he : e < 16) {r : Rec} : r ∈ rcV all [((d : Nat) : Int), ((e : Nat) : Int)] ↔ (r ∈ all ∧ pa r.key = d ∧ pb r.key = e) := by
  unfold rcV
  rw [ok2 hd he, cond_true, List.mem_filter, inK_eq, inK2, Bool.and_eq_true_iff, decide_eq_true_eq, decide_eq_true_eq]
/-- one answer that a cut gives -/
theorem told_step {own all S : List Rec} {W : List Wy} (hI : TI own all W S) (hA : Rcs all) (hs : SR all) (hv : ∀ r ∈ all, r.vers ≠ []) {x : Wy} (hx : x ∈ W) :
    (wantV all x.path).2.2 = true ∧ odd x (wantV all x.path).2.1 = false ∧ (∀ r ∈ (wantV all x.path).2.1, RecOk r) ∧ TI own all (W.erase x ++ rest own (wantV all x.path).1 x) (laidS x (wantV all x.path).2.1 S) := by
  have hok := hI.wi.ok x hx
  have hmE : ∀ y, y ∈ W.erase x ↔ (y ∈ W ∧ y ≠ x) := fun y => by rw [hI.wi.nd.mem_erase_iff, and_comm]
  cases x with
  | one d =>
    rw [want_one all hok]
    refine ⟨rfl, rfl, fun r h => absurd h List.not_mem_nil, hI.wi.told hx own _, fun d2 h => ?_, fun d2 e2 h => ?_, fun r => ?_⟩
    · rcases List.mem_append.1 h with h | h
      · exact hI.one d2 ((hmE _).1 h).1
      · obtain ⟨e, _, h2⟩ := List.mem_map.1 (show Wy.one d2 ∈ List.map (Wy.two d) _ from h)
        cases h2
    · rcases List.mem_append.1 h with h | h
      · exact hI.two d2 e2 ((hmE _).1 h).1
      · obtain ⟨e, he, h2⟩ := List.mem_map.1 (show Wy.two d2 e2 ∈ List.map (Wy.two d) _ from h)
        injection h2 with h3 h4
        subst h3 h4
        unfold lf
        rw [decide_eq_true (hI.one _ hx), decide_eq_true he]; rfl
    · show r ∈ S ↔ _
      rw [hI.st r]
      constructor
      · rintro ⟨h1, h2, h3⟩
        refine ⟨h1, h2, fun h4 => h3 ?_⟩
        rcases h4 with h4 | h4
        · rcases List.mem_append.1 h4 with h4 | h4
          · exact .inl ((hmE _).1 h4).1
          · obtain ⟨e, _, h5⟩ := List.mem_map.1 (show Wy.one _ ∈ List.map (Wy.two d) _ from h4)
            cases h5
        · rcases List.mem_append.1 h4 with h4 | h4
          · exact .inr ((hmE _).1 h4).1
          · obtain ⟨e, _, h5⟩ := List.mem_map.1 (show Wy.two _ _ ∈ List.map (Wy.two d) _ from h4)
            injection h5 with h6 h7
            rw [← h6]; exact .inl hx
      · rintro ⟨h1, h2, h3⟩
        refine ⟨h1, h2, fun h4 => h3 ?_⟩
        rcases h4 with h4 | h4
        · by_cases e : pa r.key = d
          · refine .inr (List.mem_append_right _ ?_)
            have := lf_2 h2
            rw [e] at this ⊢
            exact List.mem_map.2 ⟨_, this, rfl⟩
          · exact .inl (List.mem_append_left _ ((hmE _).2 ⟨h4, fun h => e (by injection h)⟩))
        · exact .inr (List.mem_append_left _ ((hmE _).2 ⟨h4, fun h => by cases h⟩))
  | two d e =>
    rw [want_two all hok.1 hok.2]
    have hno : Wy.one d ∉ W := hI.wi.no d e hx
    have hsub : ∀ r ∈ rcV all [((d : Nat) : Int), ((e : Nat) : Int)], r ∈ all := fun r h => rcV_sub h
    refine ⟨rfl, ?_, fun r h => (hA.ok r (hsub r h)).1, hI.wi.told hx own _, fun d2 h => ?_, fun d2 e2 h => ?_, fun r => ?_⟩
    · show List.any _ _ = false
      rw [List.any_eq_false]
      intro r hr
      obtain ⟨h1, h2, h3⟩ := (mem_rc hok.1 hok.2).1 hr
      have : ben (.two d e) r = true := by
        unfold ben
        rw [(hA.ok r h1).2, h2, h3, Bool.true_and]
        exact decide_eq_true rfl
      simp [this]
    · have h : Wy.one d2 ∈ W.erase (.two d e) ++ [] := h
      rw [List.append_nil] at h
      exact hI.one d2 ((hmE _).1 h).1
    · have h : Wy.two d2 e2 ∈ W.erase (.two d e) ++ [] := h
      rw [List.append_nil] at h
      exact hI.two d2 e2 ((hmE _).1 h).1
    · show r ∈ List.foldl withr S (rcV all [((d : Nat) : Int), ((e : Nat) : Int)]) ↔ (_ ∧ _ ∧ ¬ pend (W.erase (.two d e) ++ []) _ _)
      rw [List.append_nil, foldl_sub hs hv hsub (fun r h => ((hI.st r).1 h).1), hI.st r, mem_rc hok.1 hok.2]
      constructor
      · rintro (⟨h1, h2, h3⟩ | ⟨h1, h2, h3⟩)
        · refine ⟨h1, by rw [h2, h3]; exact hI.two d e hx, fun h4 => ?_⟩
          rw [h2, h3] at h4
          rcases h4 with h4 | h4
          · exact hno ((hmE _).1 h4).1
          · exact ((hmE _).1 h4).2 rfl
        · refine ⟨h1, h2, fun h4 => h3 ?_⟩
          rcases h4 with h4 | h4
          · exact .inl ((hmE _).1 h4).1
          · exact .inr ((hmE _).1 h4).1
      · rintro ⟨h1, h2, h3⟩
        by_cases hde : pa r.key = d ∧ pb r.key = e
        · exact .inl ⟨h1, hde.1, hde.2⟩
        · refine .inr ⟨h1, h2, fun h4 => h3 ?_⟩
          rcases h4 with h4 | h4
          · exact .inl ((hmE _).2 ⟨h4, fun h => by cases h⟩)
          · exact .inr ((hmE _).2 ⟨h4, fun h => hde (by injection h with h5 h6; exact ⟨h5, h6⟩)⟩)
/-! ### how long it takes -/
theorem sum_erase {w : Wy → Nat} : ∀ {W : List Wy} {x : Wy}, x ∈ W → ((W.erase x).map w).sum + w x = (W.map w).sum
  | y :: W, x, h => by
    by_cases e : y = x
    · subst e; rw [List.erase_cons_head, List.map_cons, List.sum_cons]; omega
    · rw [List.erase_cons_tail (by simpa using e), List.map_cons, List.sum_cons, List.map_cons, List.sum_cons]
      have := sum_erase (w := w) (W := W) (x := x) (by
        rcases List.mem_cons.1 h with h | h
        · exact absurd h.symm e
        · exact h)
      omega
def mw : Wy → Nat
  | .one _ => 17
  | .two _ _ => 1
def mu (W : List Wy) : Nat := (W.map mw).sum
theorem sum_const {α : Type} (k : Nat) : ∀ (l : List α), (l.map (fun _ => k)).sum = l.length * k
  | [] => by simp
  | _ :: l => by rw [List.map_cons, List.sum_cons, sum_const k l, List.length_cons, Nat.add_mul]; omega
theorem difN_len (a b : List Int) : (difN a b).length ≤ 16 := by have := dif_len16 a b; unfold dif at this; rwa [List.length_map] at this
theorem mu_step {W : List Wy} {x : Wy} (hx : x ∈ W) (own : List Rec) (hashes : List Int) : mu (W.erase x ++ rest own hashes x) + 1 ≤ mu W := by
  have h1 := sum_erase (w := mw) hx
  unfold mu
  rw [List.map_append, List.sum_append]
  cases x with
  | one d =>
    have h2 : ((rest own hashes (.one d)).map mw).sum = (difN (kidsV own [((d : Nat) : Int)]) hashes).length * 1 := by
      show (((difN (kidsV own [((d : Nat) : Int)]) hashes).map (Wy.two d)).map mw).sum = _
      rw [List.map_map]
      exact sum_const 1 _
    have h3 := difN_len (kidsV own [((d : Nat) : Int)]) hashes
    have h4 : mw (.one d) = 17 := rfl
    omega
  | two d e =>
    have h2 : ((rest own hashes (.two d e)).map mw).sum = 0 := rfl
    have h4 : mw (.two d e) = 1 := rfl
    omega
theorem mu_first (own : List Rec) (hashes : List Int) : mu (firstW own hashes) ≤ 272 := by
  unfold mu firstW
  rw [List.map_map]
  have h2 : (List.map (mw ∘ Wy.one) (difN (kidsV own []) hashes)).sum = (difN (kidsV own []) hashes).length * 17 := sum_const 17 _
  have h3 := difN_len (kidsV own []) hashes
  omega
/-- what is staged in the end -/
def FS (own all : List Rec) : List Rec := all.filter (fun r => lf own all (pa r.key) (pb r.key))
theorem TI.done {own all S : List Rec} (h : TI own all [] S) (hS : SR S) (hs : SR all) : S = FS own all :=
  sr_ext hS (sr_filter _ hs) fun r => by
    rw [h.st r]
    unfold FS
    rw [List.mem_filter]
    constructor
    · rintro ⟨h1, h2, _⟩; exact ⟨h1, h2⟩
    · rintro ⟨h1, h2⟩
      refine ⟨h1, h2, fun h3 => ?_⟩
      rcases h3 with h3 | h3 <;> cases h3
/-- one round -/
theorem round_ {own all S : List Rec} {W : List Wy} {p : Opull_Pull} {c : Opull_Cut} {id : Int} {vec : List Int} (hp : PS p own S W) (hc : CS c id vec all) (hI : TI own all W S) (hA : Rcs all) (hs : SR all) (hv : ∀ r ∈ all, r.vers ≠ []) {x : Wy} (hx : x ∈ W) :
    ∃ c' p' S', m_pull_Cut_Want c x.path = some (c', wantV all x.path) ∧ (wantV all x.path).2.2 = true ∧ m_pull_Pull_Tell p x.path (wantV all x.path).1 (wantV all x.path).2.1 = some (p', true) ∧ CS c' id vec all ∧ PS p' own S' (W.erase x ++ rest own (wantV all x.path).1 x) ∧ TI own all (W.erase x ++ rest own (wantV all x.path).1 x) S' ∧ p'.begun = p.begun := by
  obtain ⟨h1, h2, h3, h4⟩ := told_step hI hA hs hv hx
  obtain ⟨c', e1, g1⟩ := e_CWant hc x.path
  obtain ⟨p', e2, g2, g3, g4, g5⟩ := tell_yes hp hI.wi hx (wantV all x.path).1 h3 h2
  exact ⟨c', p', _, e1, h1, e2, g1, g2, h4, g4⟩
theorem tmod_at {x : Int} {n : Nat} (hn : 0 < n) (hl : n ≤ 1000) : ∃ k : Nat, k < n ∧ w64 ((wu64 x).tmod (wu64 ((n : Nat) : Int))) = ((k : Nat) : Int) := by
  have h1 : wu64 ((n : Nat) : Int) = ((n : Nat) : Int) := wu64_i (by unfold U64; omega)
  have h2 := wu64_r x
  rw [h1]
  have h3 : (wu64 x).tmod ((n : Nat) : Int) = (wu64 x) % ((n : Nat) : Int) := Int.tmod_eq_emod_of_nonneg h2.1
  have h4 := Int.emod_nonneg (wu64 x) (show ((n : Nat) : Int) ≠ 0 by omega)
  have h5 := Int.emod_lt_of_pos (wu64 x) (show (0 : Int) < ((n : Nat) : Int) by omega)
  refine ⟨((wu64 x) % ((n : Nat) : Int)).toNat, by omega, ?_⟩
  rw [h3, w64_i (by unfold I64; omega)]; omega
theorem told_all {own all : List Rec} {p : Opull_Pull} {c : Opull_Cut} {id : Int} {vec : List Int} (hp : PS p own [] (firstW own (kidsV all []))) (hc : CS c id vec all) (hA : Rcs all) (hs : SR all) (hv : ∀ r ∈ all, r.vers ≠ []) (order : List Int) :
    ∃ c' p', m_firthlaw19_told c p order = some (c', p', true) ∧ CS c' id vec all ∧ PS p' own (FS own all) [] ∧ p'.begun = p.begun := by
  unfold m_firthlaw19_told
  obtain ⟨⟨c', p', b⟩, e1, h1, h2, h3, h4⟩ := forU_exs (body := m_firthlaw19_told_b4 order) (k := fun x => match x with | (o3, o6) => some (o3, o6, false)) (n := 300) (s := (c, p))
    (fun i s => ∃ W S, PS s.2 own S W ∧ CS s.1 id vec all ∧ TI own all W S ∧ mu W + i ≤ 272 ∧ s.2.begun = p.begun)
    (fun (r : Opull_Cut × Opull_Pull × Bool) => r.2.2 = true ∧ CS r.1 id vec all ∧ PS r.2.1 own (FS own all) [] ∧ r.2.1.begun = p.begun)
    (fun s hI => by obtain ⟨W, S, _, _, _, h, _⟩ := hI; omega)
    (fun f i s hi hI hf => by
      obtain ⟨c1, p1⟩ := s
      obtain ⟨W, S, g1, g2, g3, g4, g5⟩ := hI
      simp only at g1 g2 g5
      unfold m_firthlaw19_told_b4
      simp only
      rw [e_Wants g1.wants g3.wi.len, Option.bind_some, List.length_map]
      by_cases h0 : W = []
      · subst h0
        have := g3.done g1.st.srt hs
        subst this
        exact ⟨(c1, p1, true), rfl, rfl, g2, g1, g5⟩
      · have hpos : 0 < W.length := List.length_pos_iff.2 h0
        have hWl := g3.wi.len
        rw [show ((((W.length : Nat) : Int)) == 0) = false by rw [beq_eq_false_iff_ne]; omega, cond_false]
        have hj : ∀ k : Nat, k < W.length → ∃ r, m_firthlaw19_told_j5 c1 p1 f (W.map Wy.path) ((k : Nat) : Int) = some r ∧ (r.2.2 = true ∧ CS r.1 id vec all ∧ PS r.2.1 own (FS own all) [] ∧ r.2.1.begun = p.begun) := fun k hk => by
          unfold m_firthlaw19_told_j5
          obtain ⟨c2, p2, S2, e1, e2, e3, k1, k2, k3, k4⟩ := round_ g1 g2 g3 hA hs hv (gt_mem hk)
          have hmu := mu_step (gt_mem hk) own (wantV all (gt W k).path).1
          rw [List.length_map, chk_t (inb_nat hk), Int.toNat_natCast, gt_map Wy.path hk, e1, Option.bind_some]
          simp only
          rw [e2, e3, Option.bind_some]
          exact hf (c2, p2) ⟨_, S2, k2, k1, k3, by omega, by rw [k4]; exact g5⟩
        rw [nat_lt]
        cases hc1 : decide (i < order.length) with
        | true =>
          rw [cond_true, chk_t rfl]
          obtain ⟨k, hk, e⟩ := tmod_at (x := gt order i) hpos (by omega)
          have h9 : (wu64 ((W.length : Nat) : Int) != 0) = true := by
            rw [wu64_i (by unfold U64; omega), bne_iff_ne]; omega
          rw [chk_t h9, e]
          exact hj k hk
        | false => rw [cond_false]; exact hj 0 hpos)
    ⟨_, [], hp, hc, TI.first own all, by have := mu_first own (kidsV all []); omega, rfl⟩
  simp only at h1 h2 h3 h4
  subst h1
  exact ⟨c', p', e1, h2, h3, h4⟩
theorem fs_sub {own all : List Rec} {r : Rec} (h : r ∈ FS own all) : r ∈ all := (List.mem_filter.1 h).1
theorem fs_len (own all : List Rec) : (FS own all).length ≤ all.length := List.length_filter_le _ _
end Fw
end Go.Proofs.YtiakfgdgafljnaaGreat

namespace Go.Proofs.YtiakfgdgafljnaaGreat
namespace Fw
set_option linter.unusedVariables false
set_option linter.unusedSimpArgs false
set_option linter.unusedSectionVars false

/-- a leaf that isn't told is alike -/
theorem not_lf {a b : List Rec} (ha : SR a) (hb : SR b) (h1 : ∀ i, i < 16 → Hs a [((i : Nat) : Int)] = Hs b [((i : Nat) : Int)] → rcV a [((i : Nat) : Int)] = rcV b [((i : Nat) : Int)]) (h2 : ∀ i j, i < 16 → j < 16 → Hs a [((i : Nat) : Int), ((j : Nat) : Int)] = Hs b [((i : Nat) : Int), ((j : Nat) : Int)] → rcV a [((i : Nat) : Int), ((j : Nat) : Int)] = rcV b [((i : Nat) : Int), ((j : Nat) : Int)]) {k : ByteArray} (h : lf a b (pa k) (pb k) = false) : gvR a k = gvR b k := by
  unfold lf at h
  rw [Bool.and_eq_false_iff] at h
  rcases h with h | h
  · have h := of_decide_eq_false h
    have e1 := kids_gt (all := a) (path := []) rfl (pa_lt k)
    have e2 := kids_gt (all := b) (path := []) rfl (pa_lt k)
    simp only [List.nil_append] at e1 e2
    have hH : Hs a [((pa k : Nat) : Int)] = Hs b [((pa k : Nat) : Int)] := by
      rw [← e1, ← e2]
      exact Classical.byContradiction fun e => h (difN_of (pa_lt k) e)
    exact gv_of_rc ha hb (ok1 (pa_lt k)) (h1 _ (pa_lt k) hH) (by rw [inK1, decide_eq_true rfl])
  · have h := of_decide_eq_false h
    have hk : (okP [((pa k : Nat) : Int)] && decide ([((pa k : Nat) : Int)].length ≤ 1)) = true := by rw [ok1 (pa_lt k)]; rfl
    have e1 := kids_gt (all := a) hk (pb_lt k)
    have e2 := kids_gt (all := b) hk (pb_lt k)
    have hH : Hs a [((pa k : Nat) : Int), ((pb k : Nat) : Int)] = Hs b [((pa k : Nat) : Int), ((pb k : Nat) : Int)] := by
      have e1 : gt (kidsV a [((pa k : Nat) : Int)]) (pb k) = Hs a [((pa k : Nat) : Int), ((pb k : Nat) : Int)] := e1
      have e2 : gt (kidsV b [((pa k : Nat) : Int)]) (pb k) = Hs b [((pa k : Nat) : Int), ((pb k : Nat) : Int)] := e2
      rw [← e1, ← e2]
      exact Classical.byContradiction fun e => h (difN_of (pb_lt k) e)
    exact gv_of_rc ha hb (ok2 (pa_lt k) (pb_lt k)) (h2 _ _ (pa_lt k) (pb_lt k) hH) (by rw [inK2, decide_eq_true rfl, decide_eq_true rfl]; rfl)
theorem all_law {own cut : List Rec} (order : List Int) (hok : ∀ r ∈ own, RecOk r) (hl : own.length ≤ 1048576) (hokc : ∀ r ∈ cut, RecOk r) (hlc : cut.length ≤ 1048576) : m_firthlaw19_PullAll own cut order = some true := by
  unfold m_firthlaw19_PullAll
  rw [awake19, Option.bind_some, Bool.not_true, cond_false]
  rcases all_or own with hr | hr
  · rcases all_or cut with hrc | hrc
    · rw [e_Held_t hok (by rw [lim_v]; omega) hr, Option.bind_some, e_Held_t hokc (by rw [lim_v]; omega) hrc, Option.bind_some]
      obtain ⟨p, e1, p1, p2, p3, p4⟩ := e_NewPull_t 1 hok hl hr
      obtain ⟨c, e2, c1⟩ := e_NewCut_t 1 (vec := [5]) hokc hlc hrc rfl
      have hA := addL_rcs2 hok hr hl
      have hB := addL_rcs2 hokc hrc hlc
      have hla := addL_len own
      have hlb := addL_len cut
      have hsA := addL_sr own
      have hsB := addL_sr cut
      have hvA := addL_vers own
      have hvB := addL_vers cut
      generalize addL own = A at *
      generalize addL cut = B at *
      simp only [Bool.not_true, Bool.or_self, Bool.not_false, Bool.false_or]
      obtain ⟨pD, eD, hDb⟩ := e_Doubt (fun r h => (hA.ok r h).1) (by omega) (fun r h => (hA.ok r h).2) (addL_self hsA hvA) (fun r h => (hB.ok r h).1) (by omega) (fun r h => (hB.ok r h).2) (addL_self hsB hvB)
      rw [eD, gcall_s, Option.bind_some, cond_true]
      cases hpd : pD with
      | true => rfl
      | false =>
        obtain ⟨hd1, hd2⟩ := hDb hpd
        obtain ⟨c2, e3, c3⟩ := e_COpen c1
        obtain ⟨p5, e4, p6, p7, p8, p9⟩ := e_Begin p1 (vec := [5]) (kidsV B []) p3 rfl
        obtain ⟨c4, p10, e5, c5, p11, p12⟩ := told_all p6 c3 hB hsB hvB order
        rw [cond_false, e2, Option.bind_some, e1, Option.bind_some]
        simp only [Option.isNone_some, Bool.or_self, bne_self_eq_false, Bool.not_false, cond_true, Option.bind_some]
        rw [e_CVec c1, Option.bind_some, e3, Option.bind_some]
        simp only
        rw [e4, Option.bind_some]
        simp only [Bool.not_true, Bool.not_false, cond_true]
        rw [e5, Option.bind_some]
        simp only [Bool.not_true, Bool.not_false]
        rw [e_Done, gcall_s, Option.bind_some, p12, p8, p11.wants]
        simp only [List.map_nil, List.isEmpty_nil, Bool.and_self, cond_true, Bool.not_true, Bool.or_self, cond_false]
        rw [e_Staged p11 (by have := fs_len A B; omega), Option.bind_some]
        have hsF : SR (FS A B) := sr_filter _ hsB
        refine forI_run (fun _ _ => True) (fun _ _ => ?_) (fun f i s hi _ hf => ?_) trivial
        · refine forI_run (fun _ _ => True) (fun _ _ => rfl) (fun f i s hi _ hf => ?_) trivial
          have hm := gt_mem hi
          unfold m_firthlaw19_PullAll_b2
          simp only
          rw [e_Get, Option.bind_some, gvR_mem hsB (fs_sub hm), e_r5Same, Option.bind_some, r5Same_iff.2 rfl, Bool.not_true, cond_false]
          exact hf () trivial
        · have hm := gt_mem hi
          unfold m_firthlaw19_PullAll_b1
          simp only
          rw [e_Get, Option.bind_some, e_Get, Option.bind_some, e_r5Same, Option.bind_some, e_r5Same, gcall_s, Option.bind_some]
          cases hlf : lf A B (pa (gt B i).key) (pb (gt B i).key) with
          | true =>
            have hF : gt B i ∈ FS A B := List.mem_filter.2 ⟨hm, hlf⟩
            rw [gvR_mem hsF hF, r5Same_iff.2 rfl]
            exact hf () trivial
          | false =>
            have hnone : gvR (FS A B) (gt B i).key = [] := gvR_none fun x hx he => by
              have h9 := (List.mem_filter.1 hx).2
              rw [sr_key hsB (fs_sub hx) hm he, hlf] at h9; cases h9
            have hmine : gvR A (gt B i).key = (gt B i).vers := by rw [not_lf hsA hsB hd1 hd2 hlf]; exact gvR_mem hsB hm
            rw [hnone, hmine, r5Same_iff.2 rfl]
            cases r5Same [] (gt B i).vers <;> exact hf () trivial
    · rw [e_Held_t hok (by rw [lim_v]; omega) hr, Option.bind_some, e_Held_f hokc (by rw [lim_v]; omega) hrc, Option.bind_some]; rfl
  · rw [e_Held_f hok (by rw [lim_v]; omega) hr, Option.bind_some]
    rcases all_or cut with hrc | hrc
    · rw [e_Held_t hokc (by rw [lim_v]; omega) hrc, Option.bind_some]; rfl
    · rw [e_Held_f hokc (by rw [lim_v]; omega) hrc, Option.bind_some]; rfl
theorem p_firthlaw19_PullAll {Γ : Gh} {A : Option Addr} {c : Nat} {own : List Rec} (hs : Sl recT Γ A own) (hc : own.length ≤ c) {A2 : Option Addr} {c2 : Nat} {cut : List Rec} (hs2 : Sl recT Γ A2 cut) (hc2 : cut.length ≤ c2) {A3 : Option Addr} {c3 : Nat} {order : List Int} (hs3 : Sl intT Γ A3 order) (hc3 : order.length ≤ c3) (m1 : bkL Rec.bk own ≤ 1048576) (m2 : bkL Rec.bk cut ≤ 1048576) (m3 : bkL bkOne order ≤ 1048576) :
    m_firthlaw19_PullAll own cut order = some true := all_law order (sl_recOk hs) (recs_len m1) (sl_recOk hs2) (recs_len m2)
/-- how many leaves are to be told yet -/
def lw (own all : List Rec) : Wy → Nat
  | .one d => (difN (kidsV own [((d : Nat) : Int)]) (kidsV all [((d : Nat) : Int)])).length
  | .two _ _ => 1
def pl (own all : List Rec) (W : List Wy) : Nat := (W.map (lw own all)).sum
end Fw
end Go.Proofs.YtiakfgdgafljnaaGreat
