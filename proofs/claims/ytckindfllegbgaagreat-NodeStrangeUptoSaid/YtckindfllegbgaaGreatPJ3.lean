/- The plain side: what the models come to. No condition. -/
import Derived.Test.YtckindfllegbgaaGreatH1
namespace Go.Proofs.YtckindfllegbgaaGreat
namespace Fw
set_option linter.unusedVariables false
set_option linter.unusedSimpArgs false
set_option linter.unusedSectionVars false
theorem e_partK (key : ByteArray) : ∃ v, m_ring_Part key = some v ∧ m_firthref12_Part key = some v := ⟨_, e_Part key, e_rPart key⟩
def partOf (key : ByteArray) : Int := (m_ring_Part key).getD 0
theorem e_pt (key : ByteArray) : m_ring_Part key = some (partOf key) ∧ m_firthref12_Part key = some (partOf key) := by
 obtain ⟨v, h1, h2⟩ := e_partK key
 unfold partOf
 rw [h1, h2]; exact ⟨rfl, rfl⟩
theorem e_at (n : Int) : m_firthlaw15_at n = some ⟨1, n⟩ := rfl
theorem e_putM {t : Int} (ht : 0 ≤ t ∧ t ≤ 8) (l : List Rec) : m_firthlaw15_put t l = some ⟨1, ⟨1, 0⟩, ⟨1, t⟩, 5, 0, 0, 0, ByteArray.empty, l, [], [], [], []⟩ := by
 unfold m_firthlaw15_put
 have h1 : i64b t = true := by unfold i64b; rw [decide_eq_true (show -9223372036854775808 ≤ t by omega), decide_eq_true (show t ≤ 9223372036854775807 by omega)]; rfl
 have h2 : i64b 1 = true := by decide
 have h3 : i64b 0 = true := by decide
 rw [e_at, Option.bind_some, e_at, Option.bind_some]
 simp only
 rw [h1, h2, h3]; rfl
section
variable {L : List Rec} (hrt : ∀ r ∈ L, Rt r)
include hrt
end
section
variable {size life : Int} {R N self : Nat} {e : Dk} {Lo : List Rec} {Lh : Nat → List Rec}
def recsP (l : List Rec) (p : Int) : List Rec := l.filter fun r => decide (p < 0) || (partOf r.key == p)
theorem recs_loopP (p : Int) : ∀ (l : List Rec) (i : Nat) (out : List Rec), out.length + l.length ≤ lim → forI (m_node_Node_Recs_b4 p) (fun out_13 => some out_13) i l out = some (out ++ recsP l p)
 | [], i, out, _ => by show some out = _; unfold recsP; rw [List.filter_nil, List.append_nil]
 | r :: l, i, out, hl => by
  rw [List.length_cons] at hl
  have ih := fun o (h : o.length + l.length ≤ lim) => recs_loopP p l (i + 1) o h
  show m_node_Node_Recs_b4 p (forI (m_node_Node_Recs_b4 p) (fun out_13 => some out_13) (i + 1) l) i r out = _
  generalize forI (m_node_Node_Recs_b4 p) (fun out_13 => some out_13) (i + 1) l = f at ih ⊢
  unfold m_node_Node_Recs_b4 m_node_Node_Recs_j5
  rw [(e_pt r.key).1]
  unfold recsP
  rw [List.filter_cons]
  cases hp : decide (p < 0) with
  | true =>
   show chk (decide (out.length + 1 ≤ lim)) (f (out ++ [r])) = _
   rw [chk_t (decide_eq_true (by omega)), ih _ (by rw [List.length_append, List.length_singleton]; omega)]
   unfold recsP
   rw [hp]
   simp
  | false =>
   show (bif (false || (partOf r.key == p)) then chk (decide (out.length + 1 ≤ lim)) (f (out ++ [r])) else f out) = _
   cases hq : partOf r.key == p with
   | true =>
    rw [bif_t (show (false || true) = true from rfl), chk_t (decide_eq_true (by omega)), ih _ (by rw [List.length_append, List.length_singleton]; omega)]
    unfold recsP
    rw [hp]
    simp
   | false =>
    rw [bif_f (show (false || false) = false from rfl), ih _ (by omega)]
    unfold recsP
    rw [hp]
    simp
theorem e_NRecs (hrt : ∀ r ∈ Lo, Rt r) (hn : Lo.length ≤ lim) (p : Int) : m_node_Node_Recs (nd life self size Lo Lh) p = some (recsP (recsOf (keysOf Lo)) p) := by
 unfold m_node_Node_Recs
 rw [show (nd life self size Lo Lh).own = st dN size Lo from rfl, e_RecsS hrt dN size hn, Option.bind_some, recs_loopP p _ 0 [] (by have := keysOf_len Lo; rw [List.length_nil, recs_len]; omega)]; rfl
theorem H_bad {m : Dapi_Msg} {b : Bool} (hb : m_code_RightMsg m = some b) (hbad : b = false ∨ m.to_ ≠ ⟨1, (self : Int)⟩ ∨ m.from_.site ≠ 1) : m_node_Node_Handle (nd life self size Lo Lh) m e = some (nd life self size Lo Lh, e, []) := by
 unfold m_node_Node_Handle
 rw [hb, Option.bind_some]
 have : (((!b) || (m.to_ != (⟨(nd life self size Lo Lh).self_site, (nd life self size Lo Lh).self_node⟩ : Adr))) || (m.from_.site != (nd life self size Lo Lh).self_site)) = true := by
  show (((!b) || (m.to_ != (⟨1, (self : Int)⟩ : Adr))) || (m.from_.site != 1)) = true
  rcases hbad with h | h | h
  ·rw [h]; rfl
  ·rw [show (m.to_ != (⟨1, (self : Int)⟩ : Adr)) = true by simp [h]]; cases b <;> rfl
  ·rw [show (m.from_.site != 1) = true by simp [h]]; cases b <;> cases (m.to_ != (⟨1, (self : Int)⟩ : Adr)) <;> rfl
 rw [bif_t this]
theorem H_good {m : Dapi_Msg} (hb : m_code_RightMsg m = some true) (ht : m.to_ = ⟨1, (self : Int)⟩) (hf : m.from_.site = 1) : (((!true) || (m.to_ != (⟨(nd life self size Lo Lh).self_site, (nd life self size Lo Lh).self_node⟩ : Adr))) || (m.from_.site != (nd life self size Lo Lh).self_site)) = false := by
 show (((!true) || (m.to_ != (⟨1, (self : Int)⟩ : Adr))) || (m.from_.site != 1)) = false
 rw [ht, hf]; simp
theorem H_1 (a : Dapi_Msg) (n : Onode_Node) (m : Dapi_Msg) : m_node_Node_Handle_1 a n m [] = some [⟨a.kind, ⟨n.self_site, n.self_node⟩, ⟨m.from_.site, m.from_.node⟩, m.id, a.n, a.for_, a.code, a.key, a.recs, a.vec, a.path, a.hashes, a.route⟩] := by
 unfold m_node_Node_Handle_1
 rw [chk_t (by rw [lim_eq]; decide)]; rfl
variable {f id n : Int} {key : ByteArray}
theorem H_put (h : NdI size R N e (tab Lo Lh)) (hR : R ≤ MX) (hs0 : 0 ≤ size) (hs1 : size ≤ 9223372036854775807) (hs : self ≤ 8) {l : List Rec} (hl : ∀ r ∈ l, Mg.VersOk r.vers) (hN : N + l.length ≤ lim) (hll : l.length ≤ lim) :
  ∃ Lo' e' a, m_node_Node_Handle (nd life self size Lo Lh) ⟨1, ⟨1, 0⟩, ⟨1, (self : Int)⟩, 5, 0, 0, 0, ByteArray.empty, l, [], [], [], []⟩ e = some (nd life self size Lo' Lh, e', a) ∧ NdI size R (N + l.length) e' (tab Lo' Lh) ∧ mget okF e'.seen = mget okF e.seen := by
 obtain ⟨b, hb, _⟩ := e_RM (m := ⟨1, ⟨1, 0⟩, ⟨1, (self : Int)⟩, 5, 0, 0, 0, ByteArray.empty, l, [], [], [], []⟩) (fun r hr => (hl r hr).1)
 cases b with
 | false => exact ⟨Lo, e, [], H_bad hb (.inl rfl), h.mono (by omega), rfl⟩
 | true =>
  obtain ⟨Lo', e', c, q1, q2, q3⟩ := e_nlay hR hs0 hs1 l 0 N e (tab Lo Lh) Lo h tab_d hl hN
  rw [upd_d] at q2
  have hlay : m_node_lay (st dN size Lo) l e = some (st dN size Lo', e', c) := q1
  refine ⟨Lo', e', ?_⟩
  unfold m_node_Node_Handle
  rw [hb, Option.bind_some, bif_f (H_good hb rfl rfl)]
  show ∃ a, (Option.bind (m_node_Node_put (nd life self size Lo Lh) _ ⟨1, ⟨1, 0⟩, ⟨1, (self : Int)⟩, 5, 0, 0, 0, ByteArray.empty, l, [], [], [], []⟩ [] e) fun z80 => m_node_Node_Handle_j1 z80.2.1 z80.1 z80.2.2) = _ ∧ _
  unfold m_node_Node_put
  simp only
  rw [bif_f (show (((0 : Int) != 0) && ((0 : Int) != (nd life self size Lo Lh).self_node)) = false from rfl), show (nd life self size Lo Lh).own = st dN size Lo from rfl, hlay, Option.bind_some]
  simp only
  cases hc : (c != 0) with
  | true => rw [bif_t rfl, H_1, Option.bind_some]; exact ⟨_, rfl, q2, q3⟩
  | false =>
   have hown : m_node_own l = some l := by
    unfold m_node_own
    have := forI_inv (body := m_node_own_b4) (k := fun out_3 => some out_3) (l := l) (fun i s => some (s ++ l.drop i)) (fun i s => s = l.take i) (fun s hs => by rw [List.drop_of_length_le (Nat.le_refl _), List.append_nil]) (fun f i s hi hs hf => by
     unfold m_node_own_b4
     have hv := hl (gt l i) (by rw [gt_eq hi]; exact List.getElem_mem hi)
     refine (forI_inv (body := m_node_own_b5) (l := (gt l i).vers) (fun j t => f (s ++ [⟨(gt l i).key, t ++ (gt l i).vers.drop j⟩])) (fun j t => t = (gt l i).vers.take j) (fun t ht => ?_) (fun g j t hj ht hg => ?_) (s := []) rfl).trans ?_
     ·rw [chk_t (decide_eq_true (by rw [hs, List.length_take]; omega)), List.drop_of_length_le (Nat.le_refl _), List.append_nil]
     ·unfold m_node_own_b5
      have hvj := hv.2 (gt (gt l i).vers j) (by rw [gt_eq hj]; exact List.getElem_mem hj)
      have hl1 := hv.1
      rw [chk_t (decide_eq_true (by have := hvj.len; omega)), chk_t (decide_eq_true (by rw [ht, List.length_take]; omega)), hg _ (by rw [ht, take_gt hj]), List.append_assoc, drop_gt hj]; rfl
     ·rw [List.nil_append, List.drop_zero, hf _ (by rw [hs, take_gt hi]), List.append_assoc, drop_gt hi]; rfl) (s := []) rfl
    rw [this]; rfl
   rw [bif_f rfl, hown, Option.bind_some, H_1, Option.bind_some]
   exact ⟨_, rfl, q2, q3⟩
end
end Fw
end Go.Proofs.YtckindfllegbgaaGreat
namespace Go.Proofs.YtckindfllegbgaaGreat
namespace Fw
set_option linter.unusedVariables false
set_option linter.unusedSimpArgs false
set_option linter.unusedSectionVars false
theorem sl_versOk5 {Γ : Gh} {A : Option Addr} {l : List Ver} (h : Sl verT Γ A l) : Mg.VersOk l := by
 refine ⟨h.le, fun v hv => ?_⟩
 obtain ⟨j, hj, rfl⟩ := List.getElem_of_mem hv
 rw [← gt_eq hj]
 obtain ⟨A2, c2, h2⟩ := h.verT_at j
 obtain ⟨a1, a2, a3, a4⟩ := (h2 hj).1
 refine ⟨⟨a1, a2⟩, a3.2.le, fun x hx => ?_, a4⟩
 obtain ⟨k, hk, rfl⟩ := List.getElem_of_mem hx
 rw [← gt_eq hk]
 exact (a3.2.spanT_at hk).1.2.1
theorem sl_recOk5 {Γ : Gh} {A : Option Addr} {l : List Rec} (h : Sl recT Γ A l) : ∀ r ∈ l, Mg.VersOk r.vers := fun r hr => by
 obtain ⟨j, hj, rfl⟩ := List.getElem_of_mem hr
 rw [← gt_eq hj]
 obtain ⟨A2, c2, h2⟩ := h.recT_at j
 exact sl_versOk5 (h2 hj).1.2.2
theorem rec_len5 {l : List Rec} (hb : bkL Rec.bk l ≤ 1048576) : l.length ≤ 1048576 := Nat.le_trans (bkL_len (fun r => by unfold Rec.bk; omega) l) hb
theorem forI_any {α : Type} {body : (Unit → Option Bool) → Nat → α → Unit → Option Bool} {bad : α → Bool} {K : Unit → Option Bool} : ∀ {l : List α} (i : Nat), (∀ f i x, x ∈ l → body f i x () = bif bad x then some false else f ()) → forI body K i l () = bif l.any bad then some false else K ()
 | [], i, _ => rfl
 | x :: l, i, h => by
  have ih := forI_any (K := K) (l := l) (i + 1) fun f j y hy => h f j y (List.mem_cons_of_mem _ hy)
  show body (forI body K (i + 1) l) i x () = _
  rw [h _ _ _ List.mem_cons_self, List.any_cons, ih]
  cases bad x <;> rfl
theorem any_eq {α : Type} {l : List α} {f g : α → Bool} (h : ∀ x, f x = g x) : l.any f = l.any g := by rw [funext h]
theorem bad_eq (lo up x : Int) : (!(decide (lo ≤ x) && decide (x ≤ up))) = (decide (x < lo) || decide (up < x)) := by
 by_cases h1 : lo ≤ x <;> by_cases h2 : x ≤ up
 ·rw [decide_eq_true h1, decide_eq_true h2, decide_eq_false (by omega), decide_eq_false (by omega)]; rfl
 ·rw [decide_eq_true h1, decide_eq_false h2, decide_eq_false (by omega), decide_eq_true (by omega)]; rfl
 ·rw [decide_eq_false h1, decide_eq_true h2, decide_eq_true (by omega), decide_eq_false (by omega)]; rfl
 ·rw [decide_eq_false h1, decide_eq_false h2, decide_eq_true (by omega), decide_eq_true (by omega)]; rfl
def badI (lo up x : Int) : Bool := decide (x < lo) || decide (up < x)
theorem all_64 (lo up : Int) (l : List Int) (most : Int) : m_code_all_int64 l most lo up = bif l.any (badI lo up) then some false else some (decide (((l.length : Nat) : Int) ≤ most)) := by
 unfold m_code_all_int64
 refine (forI_any (bad := fun x => !(decide (lo ≤ x) && decide (x ≤ up))) 0 fun f i x _ => rfl).trans ?_
 rw [any_eq (bad_eq lo up)]; rfl
theorem all_i (lo up : Int) (l : List Int) (most : Int) : m_code_all_int l most lo up = bif l.any (badI lo up) then some false else some (decide (((l.length : Nat) : Int) ≤ most)) := by
 unfold m_code_all_int
 refine (forI_any (bad := fun x => !(decide (lo ≤ x) && decide (x ≤ up))) 0 fun f i x _ => rfl).trans ?_
 rw [any_eq (bad_eq lo up)]; rfl
def rrB (r : Rec) : Bool := ((decide (1 ≤ ((r.key.size : Nat) : Int))) && (decide (((r.key.size : Nat) : Int) ≤ 32))) && Mg.r5Right r.vers
theorem rr_c {r : Rec} (hv : Mg.VersOk r.vers) : m_code_RightRec r = some (rrB r) := by
 unfold m_code_RightRec rrB
 rw [Mg.e_Right5 hv.1, gcall_s, Option.bind_some, Mg.right_eq]
 cases ((decide (1 ≤ ((r.key.size : Nat) : Int))) && (decide (((r.key.size : Nat) : Int) ≤ 32))) <;> rfl
theorem rr_r {r : Rec} (hv : Mg.VersOk r.vers) : m_firthref06_RightRec r = some (rrB r) := by
 unfold m_firthref06_RightRec rrB
 have hk : (r.key != ByteArray.empty) = decide (1 ≤ ((r.key.size : Nat) : Int)) := by
  by_cases h : r.key = ByteArray.empty
  ·rw [h]; decide
  ·have : r.key.size ≠ 0 := fun e => h (by
    have e2 : r.key.data.size = 0 := e
    have e3 := Array.eq_empty_of_size_eq_zero e2
    cases hr : r.key with | mk d => rw [hr] at e3; simp only at e3; rw [e3]; rfl)
   rw [decide_eq_true (by omega)]
   exact bne_iff_ne.2 h
 rw [Mg.e_r5Right hv, gcall_s, Option.bind_some, hk]
 cases ((decide (1 ≤ ((r.key.size : Nat) : Int))) && (decide (((r.key.size : Nat) : Int) ≤ 32))) <;> rfl
def badR (r : Rec) : Bool := !rrB r
theorem all_r {l : List Rec} (hv : ∀ r ∈ l, Mg.VersOk r.vers) : m_code_all_api_Rec l ((l.length : Nat) : Int) = some (!l.any badR) := by
 unfold m_code_all_api_Rec
 refine (forI_any (bad := badR) 0 fun f i x hx => ?_).trans ?_
 ·unfold m_code_all_api_Rec_b1 badR
  rw [rr_c (hv x hx)]; rfl
 ·rw [decide_eq_true (Int.le_refl _)]
  cases l.any badR <;> rfl
theorem vec_r (l : List Int) : m_firthref04_Right l = bif (((((l.length : Nat) : Int) == 0) || (decide (16 < ((l.length : Nat) : Int)))) || l.any (badI 0 4611686018427387904)) then some false else some true := by
 unfold m_firthref04_Right
 cases ((((l.length : Nat) : Int) == 0) || (decide (16 < ((l.length : Nat) : Int)))) with
 | true => rfl
 | false => exact forI_any (bad := badI 0 4611686018427387904) 0 fun f i x _ => rfl
theorem msg_right {m : Dapi_Msg} (hv : ∀ r ∈ m.recs, Mg.VersOk r.vers) : ∃ b, m_firthref06_RightMsg m = some b ∧ (m_code_RightMsg m = some true → b = true) := by
 have l1 : (forI (m_firthref06_RightMsg_b3) (fun _ => (some true)) 0 m.route ()) = bif m.route.any (badI 1 16) then some false else some true := forI_any (bad := badI 1 16) 0 fun f i x _ => rfl
 have l2 : (forI (m_firthref06_RightMsg_b2) (fun _ => (forI (m_firthref06_RightMsg_b3) (fun _ => (some true)) 0 m.route ())) 0 m.path ()) = bif m.path.any (badI 0 15) then some false else (bif m.route.any (badI 1 16) then some false else some true) := (forI_any (bad := badI 0 15) 0 fun f i x _ => rfl).trans (by rw [l1])
 have l3 : (forI (m_firthref06_RightMsg_b1) (fun _ => (forI (m_firthref06_RightMsg_b2) (fun _ => (forI (m_firthref06_RightMsg_b3) (fun _ => (some true)) 0 m.route ())) 0 m.path ())) 0 m.recs ()) = bif m.recs.any badR then some false else bif m.path.any (badI 0 15) then some false else (bif m.route.any (badI 1 16) then some false else some true) := (forI_any (bad := badR) 0 fun f i x hx => by
  unfold m_firthref06_RightMsg_b1 badR
  rw [rr_r (hv x hx)]; rfl).trans (by rw [l2])
 unfold m_firthref06_RightMsg m_code_RightMsg m_code_between_int64 m_code_between_int
 simp only [Option.bind_some]
 rw [l3, all_64, all_i, all_i, all_r hv, vec_r]
 clear l1 l2 l3
 unfold m_firthref06_place m_code_place
 simp only [gcall_s, Option.bind_some]
 generalize m.recs.any badR = R
 generalize m.path.any (badI 0 15) = pa
 generalize m.route.any (badI 1 16) = ro
 generalize m.vec.any (badI 0 4611686018427387904) = ve
 have neg : ∀ a b : Int, decide (a < b) = !decide (b ≤ a) := fun a b => by
  by_cases h : b ≤ a
  ·rw [decide_eq_true h, decide_eq_false (by omega)]; rfl
  ·rw [decide_eq_false h, decide_eq_true (by omega)]; rfl
 have hvz : (((m.vec.length : Nat) : Int) == 0) = !(decide (0 < ((m.vec.length : Nat) : Int))) := by
  by_cases h : m.vec.length = 0
  ·rw [h]; rfl
  ·rw [decide_eq_true (by omega)]
   exact beq_eq_false_iff_ne.2 (by omega)
 have hv0 : decide (0 < ((m.vec.length : Nat) : Int)) = false → ve = false ∨ True := fun _ => .inr trivial
 rw [hvz, neg m.kind 1, neg 17 m.kind, neg m.id 0, neg m.n 0, neg m.for_ 0, neg 8 m.for_, neg m.code 0, neg 999 m.code, neg 32, neg 2, neg 16 ((m.hashes.length : Nat) : Int), neg 16 ((m.route.length : Nat) : Int), neg 16 ((m.vec.length : Nat) : Int)]
 generalize decide (1 ≤ m.kind) = a1
 generalize decide (m.kind ≤ 17) = a2
 generalize decide (0 ≤ m.id) = a3
 generalize decide (0 ≤ m.n) = a4
 generalize decide (0 ≤ m.for_) = a5
 generalize decide (m.for_ ≤ 8) = a6
 generalize decide (0 ≤ m.code) = a7
 generalize decide (m.code ≤ 999) = a8
 generalize decide (((m.key.size : Nat) : Int) ≤ 32) = a9
 generalize decide (((m.path.length : Nat) : Int) ≤ 2) = b1
 generalize decide (((m.hashes.length : Nat) : Int) ≤ 16) = b2
 generalize decide (((m.route.length : Nat) : Int) ≤ 16) = b3
 generalize decide (((m.vec.length : Nat) : Int) ≤ 16) = b4
 generalize decide (0 < ((m.vec.length : Nat) : Int)) = b5
 generalize (((decide (1 ≤ m.from_.site) && decide (m.from_.site ≤ 16)) && decide (0 ≤ m.from_.node)) && decide (m.from_.node ≤ 8)) = p1
 generalize (((decide (1 ≤ m.to_.site) && decide (m.to_.site ≤ 16)) && decide (0 ≤ m.to_.node)) && decide (m.to_.node ≤ 8)) = p2
 clear hvz neg hv0 hv
 cases a1 with
 | false => exact ⟨false, rfl, fun h => by cases h⟩
 | true => cases a2 with
 | false => exact ⟨false, rfl, fun h => by cases h⟩
 | true => cases p1 with
 | false => exact ⟨false, rfl, fun h => by cases h⟩
 | true => cases p2 with
 | false => exact ⟨false, rfl, fun h => by cases h⟩
 | true => cases a3 with
 | false => exact ⟨false, rfl, fun h => by cases h⟩
 | true => cases a4 with
 | false => exact ⟨false, rfl, fun h => by cases h⟩
 | true => cases a5 with
 | false => exact ⟨false, rfl, fun h => by cases h⟩
 | true => cases a6 with
 | false => exact ⟨false, rfl, fun h => by cases h⟩
 | true => cases a7 with
 | false => exact ⟨false, rfl, fun h => by cases h⟩
 | true => cases a8 with
 | false => exact ⟨false, rfl, fun h => by cases h⟩
 | true => cases a9 with
 | false => exact ⟨false, rfl, fun h => by cases h⟩
 | true =>
  cases R <;> cases pa <;> cases ro <;> cases ve <;> cases b1 <;> cases b2 <;> cases b3 <;> cases b4 <;> cases b5 <;> exact ⟨_, rfl, fun h => by first | rfl | cases h⟩
section
variable {size life : Int} {self : Nat} {Lo : List Rec}
theorem tick_loop (h1 : 1 ≤ self) (h8 : self ≤ 8) : ∀ (k f F : Nat), f + k = 9 → 1 ≤ f → loopN (m_node_Node_Tick_b3 (nd life self size Lo fun _ => [])) (F + k + 1) ([], (f : Int)) = some []
 | 0, f, F, hf, h => by
  rw [loopN_s]
  generalize loopN (m_node_Node_Tick_b3 (nd life self size Lo fun _ => [])) (F + 0) = g
  unfold m_node_Node_Tick_b3
  simp only
  rw [bif_f (decide_eq_false (by omega))]
 | k + 1, f, F, hf, h => by
  have ih := tick_loop h1 h8 k (f + 1) F (by omega) (by omega)
  rw [show F + (k + 1) + 1 = (F + k + 1) + 1 by omega, loopN_s]
  generalize loopN (m_node_Node_Tick_b3 (nd life self size Lo fun _ => [])) (F + k + 1) = g at ih ⊢
  have hw : w64 ((f : Int) + 1) = ((f + 1 : Nat) : Int) := by rw [w64_i (by unfold I64; omega)]; omega
  have hh : m_node_Node_Hints (nd life self size Lo fun _ => []) (f : Int) = some [] := by
   unfold m_node_Node_Hints
   rw [show (nd life self size Lo fun _ => []).hints = hin size (fun _ => []) (hl self) from rfl, mget_hin]
   by_cases hm : f ∈ hl self
   ·rw [if_pos hm]
    show Option.bind (m_store_Store_Recs (st (hn f) size [])) (fun z18 => some z18) = some []
    rw [e_RecsS (L := []) (fun r hr => by cases hr) (hn f) size (Nat.zero_le _), show recsOf (keysOf []) = [] from List.length_eq_zero_iff.1 (by rw [recs_len]; rfl)]; rfl
   ·rw [if_neg hm]; rfl
  unfold m_node_Node_Tick_b3
  simp only
  rw [bif_t (decide_eq_true (by omega)), hh, Option.bind_some]
  show g ([], w64 ((f : Int) + 1)) = some []
  rw [hw]; exact ih
theorem e_Tick0 (h1 : 1 ≤ self) (h8 : self ≤ 8) : m_node_Node_Tick (nd life self size Lo fun _ => []) = some [] := by
 unfold m_node_Node_Tick
 obtain ⟨F, hF⟩ : ∃ F, FU = F + 8 + 1 := ⟨FU - 9, by unfold FU; omega⟩
 rw [hF]
 exact tick_loop h1 h8 8 1 F rfl (Nat.le_refl _)
theorem strange_j1 {e : Dk} {a : List Dapi_Msg} {x : Dapi_Msg} {b : Bool} (hrt : ∀ r ∈ Lo, Rt r) (hn : Lo.length ≤ lim) (hx : m_code_RightMsg x = some b) (hbad : b = false ∨ x.to_ ≠ ⟨1, 1⟩ ∨ x.from_.site ≠ 1) : m_firthlaw15_NodeStrange_j1 (nd life 1 size Lo fun _ => [], e, a) x = some true := by
 unfold m_firthlaw15_NodeStrange_j1
 have hH := H_bad (self := 1) (life := life) (size := size) (Lo := Lo) (Lh := fun _ => []) (e := e) hx hbad
 simp only
 rw [e_NRecs hrt hn, Option.bind_some, hH, Option.bind_some]
 simp only
 rw [bif_t (by rfl), e_NRecs hrt hn, Option.bind_some, e_same, Option.bind_some, bif_t rfl, e_Tick0 (by decide) (by decide)]; rfl
end
theorem p_firthlaw15_NodeStrange {Γ : Gh} {Alist : Option Addr} {clist : Nat} {list : List Rec} (hlist : Sl recT Γ Alist list) (hlistc : list.length ≤ clist) {Am10 : Option Addr} {cm10 : Nat} {Am11 : Option Addr} {cm11 : Nat} {Am12 : Option Addr} {cm12 : Nat} {Am13 : Option Addr} {cm13 : Nat} {Am14 : Option Addr} {cm14 : Nat} (m : Dapi_Msg) (hm : Dapi_Msg.fits Γ Am10 cm10 Am11 cm11 Am12 cm12 Am13 cm13 Am14 cm14 m) (hb : bkL Rec.bk list ≤ 1048576) (hb2 : Dapi_Msg.bk m ≤ 1048576) : m_firthlaw15_NodeStrange list m = some true := by
 have l := lim_eq
 have hll := rec_len5 hb
 have hv := sl_recOk5 hlist
 have hvm := sl_recOk5 hm.2.2.2.2.2.2.2.2.2.2.1.2
 unfold m_firthlaw15_NodeStrange
 rw [e_awake, Option.bind_some, bif_f (show (!true) = false from rfl), e_New, Option.bind_some]
 simp only [e_at, Option.bind_some]
 have i1 : i64b 1 = true := by decide
 have hop := e_NOpen (sz := 500) (self := 1) (life := 3) (nd0 (size := max 500 16) (room := 16777216)) (rm_le 16777216) (by rw [lim_eq]; omega) rfl (by decide) (by decide) (by decide)
 rw [show (((1 : Nat) : Int)) = 1 from rfl] at hop
 rw [i1, chk_t rfl, chk_t rfl, hop, Option.bind_some]
 have hsz : max (500 : Int) 16 = 500 := by decide
 rw [hsz]
 have h0 := nd0 (size := 500) (room := 16777216)
 have hR := rm_le 16777216
 generalize d0 16777216 = e at h0 ⊢
 generalize rm 16777216 = R at h0 hR
 simp only
 rw [bif_f (show (Option.isNone (some (nd 3 1 500 [] fun _ => [])) || ((0 : Int) != 0)) = false from rfl), Option.bind_some, e_putM (by decide), Option.bind_some]
 obtain ⟨Lo, e1, a1, q1, h1, _⟩ := H_put (self := 1) (life := 3) h0 hR (by decide) (by decide) (by decide) hv (by omega) (by omega)
 rw [show (((1 : Nat) : Int)) = 1 from rfl] at q1
 rw [q1, Option.bind_some]
 have hg := h1.g dN Lo tab_d
 have hln := hg.ln
 obtain ⟨rb, hrb, hrc⟩ := msg_right hvm
 rw [hrb, Option.bind_some, gcall_s, Option.bind_some]
 cases hc : (rb && (m.to_ == (bif rb then (⟨1, 1⟩ : Adr) else default))) && (m.from_.site == 1) with
 | true =>
  rw [bif_t rfl]
  obtain ⟨b, hb1, _⟩ := e_RM (m := ⟨m.kind, ⟨2, m.from_.node⟩, ⟨m.to_.site, m.to_.node⟩, m.id, m.n, m.for_, m.code, m.key, m.recs, m.vec, m.path, m.hashes, m.route⟩) (fun r hr => (hvm r hr).1)
  exact strange_j1 hg.rt (by omega) hb1 (.inr (.inr (show (2 : Int) ≠ 1 by decide)))
 | false =>
  rw [bif_f rfl]
  obtain ⟨b, hb1, _⟩ := e_RM (m := m) (fun r hr => (hvm r hr).1)
  refine strange_j1 hg.rt (by omega) hb1 ?_
  cases b with
  | false => exact .inl rfl
  | true =>
   have hrt := hrc hb1
   subst hrt
   by_cases ht : m.to_ = ⟨1, 1⟩
   ·refine .inr (.inr fun hf => ?_)
    rw [ht, hf] at hc
    exact absurd hc (by decide)
   ·exact .inr (.inl ht)
end Fw
end Go.Proofs.YtckindfllegbgaaGreat
