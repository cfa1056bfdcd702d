/- Sessions that only write. No condition. -/
import Derived.Test.YtldpanjodokefaaP9
namespace Go.Proofs.Ytldpanjodokefaa
namespace Fw
set_option linter.unusedVariables false
set_option linter.unusedSimpArgs false
set_option linter.unusedSectionVars false
open Go.RowKit
/-- how many acts a session has -/
def cnt (l : Acts) (s : Int) : Nat := (l.filter fun a => decide (a.sess = s)).length
theorem cnt_app {l m : Acts} {s : Int} : cnt (l ++ m) s = cnt l s + cnt m s := by unfold cnt; rw [List.filter_append, List.length_append]
theorem cnt_one {a : Djudge_Act} {s : Int} : cnt [a] s = if a.sess = s then 1 else 0 := by
  unfold cnt; by_cases h : a.sess = s <;> simp [h]
theorem cnt_le {l : Acts} {s : Int} : cnt l s ≤ l.length := List.length_filter_le _ _
theorem cnt_take {l : Acts} {i j : Nat} {s : Int} (h : i ≤ j) : cnt (l.take i) s ≤ cnt (l.take j) s := by
  have : l.take j = l.take i ++ (l.take j).drop i := by
    conv => lhs; rw [← List.take_append_drop i (l.take j)]
    rw [List.take_take, Nat.min_eq_left h]
  rw [this, cnt_app]; omega
theorem cnt_succ {l : Acts} {i : Nat} {s : Int} (h : i < l.length) : cnt (l.take (i + 1)) s = cnt (l.take i) s + if (gt l i).sess = s then 1 else 0 := by
  rw [take_gt h, cnt_app, cnt_one]
/-- the list that is made -/
structure TI (l : Acts) : Prop where
  pl : ∀ i, i < l.length → (gt l i).read = false ∧ (gt l i).oK = true ∧ (gt l i).reads = [] ∧ (gt l i).seen = [] ∧ 0 ≤ (gt l i).sess ∧ (gt l i).sess < 4
  dt : ∀ i, i < l.length → (gt l i).dot = ⟨(gt l i).sess + 1, ((cnt (l.take (i + 1)) (gt l i).sess : Nat) : Int)⟩
theorem TI.pos {l : Acts} (h : TI l) {i : Nat} (hi : i < l.length) : 0 < (gt l i).dot.n := by
  rw [h.dt i hi, cnt_succ hi, if_pos rfl]
  show (0 : Int) < ((_ + 1 : Nat) : Int)
  omega
theorem TI.iw {l : Acts} (h : TI l) {i : Nat} (hi : i < l.length) : isw (gt l i) = true := by
  have := h.pos hi
  simp [Fw.isw, (h.pl i hi).1, this]
theorem TI.lt {l : Acts} (h : TI l) {i j : Nat} (hij : i < j) (hj : j < l.length) (hs : (gt l i).sess = (gt l j).sess) : (gt l i).dot.n < (gt l j).dot.n := by
  rw [h.dt i (by omega), h.dt j hj]
  have h1 := cnt_take (l := l) (s := (gt l j).sess) (show i + 1 ≤ j by omega)
  have h2 := cnt_succ (s := (gt l j).sess) hj
  rw [if_pos rfl] at h2
  show ((cnt (l.take (i + 1)) (gt l i).sess : Nat) : Int) < ((cnt (l.take (j + 1)) (gt l j).sess : Nat) : Int)
  rw [hs]; omega
theorem TI.ft {l : Acts} (h : TI l) {i : Nat} (hi : i < l.length) : fst l (gt l i).dot = some i := by
  refine fst_eq hi (h.iw hi) rfl fun j hj _ he => ?_
  have hs : (gt l j).sess = (gt l i).sess := by
    have := congrArg Dot.s he
    rw [h.dt j (by omega), h.dt i hi] at this
    simp only at this; omega
  have := h.lt hj hi hs
  rw [he] at this; omega
theorem TI.sess {l : Acts} (h : TI l) {i j : Nat} (hi : i < l.length) (hj : j < l.length) : (gt l i).dot.s = (gt l j).dot.s ↔ (gt l i).sess = (gt l j).sess := by
  rw [h.dt i hi, h.dt j hj]; simp
/-- some act has each number below -/
theorem cnt_at {l : Acts} {s : Int} : ∀ {i k : Nat}, i ≤ l.length → 1 ≤ k → k ≤ cnt (l.take i) s → ∃ j, j < i ∧ (gt l j).sess = s ∧ cnt (l.take (j + 1)) s = k
  | 0, k, _, h1, h2 => by simp [cnt] at h2; omega
  | i + 1, k, hi, h1, h2 => by
    have h3 := cnt_succ (l := l) (i := i) (s := s) (by omega)
    by_cases h : k ≤ cnt (l.take i) s
    · obtain ⟨j, h4, h5, h6⟩ := cnt_at (i := i) (by omega) h1 h
      exact ⟨j, by omega, h5, h6⟩
    · by_cases hs : (gt l i).sess = s
      · rw [if_pos hs] at h3
        exact ⟨i, by omega, hs, by omega⟩
      · rw [if_neg hs] at h3; omega
theorem TI.ms {l : Acts} (h : TI l) {i : Nat} (hi : i < l.length) {x : Dot} : x ∈ stp l i ↔ x.s = (gt l i).dot.s ∧ 1 ≤ x.n ∧ x.n < (gt l i).dot.n := by
  rw [mem_stp]
  constructor
  · rintro ⟨j, h1, h2, h3, _, h5⟩
    rcases mem_tells.1 h5 with ⟨q, _⟩ | ⟨_, q, e⟩
    · rw [(h.pl j h2).1] at q; cases q
    · subst e
      exact ⟨(h.sess h2 hi).2 h3, by omega, h.lt h1 hi h3⟩
  · rintro ⟨h1, h2, h3⟩
    have hd := h.dt i hi
    rw [hd] at h3 h1
    simp only at h1 h3
    have h4 := cnt_succ (l := l) (i := i) (s := (gt l i).sess) hi
    rw [if_pos rfl] at h4
    obtain ⟨j, h5, h6, h7⟩ := cnt_at (l := l) (s := (gt l i).sess) (i := i) (k := x.n.toNat) (by omega) (by omega) (by omega)
    refine ⟨j, h5, by omega, h6, (h.pl j (by omega)).2.1, mem_tells.2 (.inr ⟨(h.pl j (by omega)).1, h.pos (by omega), ?_⟩)⟩
    rw [h.dt j (by omega), h6, h7]
    exact dot_ext h1 (by simp only; omega)
theorem TI.mb {l : Acts} (h : TI l) {i : Nat} (hi : i < l.length) {x : Dot} : Bh l (gt l i).dot x ↔ x ∈ stp l i := by
  constructor
  · intro hb
    generalize hd : (gt l i).dot = d at hb
    induction hb generalizing i with
    | @one d x k h1 h2 => rw [← hd, h.ft hi] at h1; injection h1 with h1; subst h1; exact h2
    | @two d e x k h1 h2 h3 ih =>
      rw [← hd, h.ft hi] at h1; injection h1 with h1; subst h1
      obtain ⟨k', hk⟩ := h3.fst
      obtain ⟨g1, _, _, g4, _⟩ := fst_some hk
      have h4 := ih g1 g4
      rw [h.ms hi] at h2 ⊢
      rw [h.ms g1, g4] at h4
      omega
  · exact fun hx => .one (h.ft hi) hx
/-- so many dots of a site -/
def ups (s : Int) (n : Nat) : List Dot := (List.range n).map fun k => ⟨s, ((k + 1 : Nat) : Int)⟩
theorem ups_cl (s : Int) (n : Nat) : CL (ups s n) := by
  unfold ups CL
  rw [List.pairwise_map]
  refine List.Pairwise.imp ?_ List.pairwise_lt_range
  intro a b hab
  show (decide (s < s) || decide (s = s) && decide (((a + 1 : Nat) : Int) < ((b + 1 : Nat) : Int))) = true
  rw [decide_eq_true (show ((a + 1 : Nat) : Int) < ((b + 1 : Nat) : Int) by omega), decide_eq_true (rfl : s = s)]
  simp
theorem mem_ups {s : Int} {n : Nat} {x : Dot} : x ∈ ups s n ↔ x.s = s ∧ 1 ≤ x.n ∧ x.n ≤ n := by
  unfold ups
  rw [List.mem_map]
  constructor
  · rintro ⟨k, hk, rfl⟩
    have := List.mem_range.1 hk
    exact ⟨rfl, by simp only; omega, by simp only; omega⟩
  · rintro ⟨h1, h2, h3⟩
    exact ⟨(x.n - 1).toNat, List.mem_range.2 (by omega), dot_ext h1.symm (by simp only; omega)⟩
theorem TI.kys {l : Acts} (h : TI l) {i : Nat} (hi : i < l.length) : kys (bhS l (gt l i).dot) = ups (gt l i).dot.s ((gt l i).dot.n - 1).toNat := by
  refine CL.ext (bhS_cs _ _) (ups_cl _ _) fun x => ?_
  rw [mem_bhS, h.mb hi, h.ms hi, mem_ups]
  have := h.pos hi
  omega
theorem TI.ok {l : Acts} (h : TI l) (hn : l.length ≤ 60) : okj l := by
  have hr : ∀ a ∈ l, a.reads = [] ∧ a.seen = [] ∧ (tells a).length ≤ 1 := by
    intro a ha
    obtain ⟨i, hi, rfl⟩ := List.getElem_of_mem ha
    rw [← gt_eq hi]
    have := h.pl i hi
    refine ⟨this.2.2.1, this.2.2.2.1, ?_⟩
    unfold tells
    rw [this.1]
    cases decide (0 < (gt l i).dot.n) <;> simp
  refine ⟨⟨⟨by rw [lim_eq]; omega, fun a ha => by rw [(hr a ha).1]; decide⟩, by omega, ?_⟩, fun a ha => by rw [(hr a ha).2.1]; decide⟩
  have key : ∀ m : Acts, (∀ a ∈ m, (tells a).length ≤ 1) → (dts m).length ≤ m.length := by
    intro m
    induction m with
    | nil => intro _; simp [dts]
    | cons a m ih =>
      intro hm
      unfold dts at *
      rw [List.flatMap_cons, List.length_append, List.length_cons]
      have := hm a List.mem_cons_self
      have := ih fun b hb => hm b (List.mem_cons_of_mem _ hb)
      omega
  have := key l fun a ha => (hr a ha).2.2
  omega
/-! ### the making -/
def TC (l : Acts) (c : List Int) : Prop := c.length = 4 ∧ ∀ s : Nat, s < 4 → gt c s = ((cnt l (s : Int) : Nat) : Int)
theorem TI.add {l : Acts} (h : TI l) {s : Nat} (hs : s < 4) {k : ByteArray} : TI (l ++ [⟨false, (s : Int), k, ⟨(s : Int) + 1, ((cnt l (s : Int) + 1 : Nat) : Int)⟩, true, [], []⟩]) := by
  refine ⟨fun i hi => ?_, fun i hi => ?_⟩
  · rw [List.length_append] at hi
    simp only [List.length_cons, List.length_nil] at hi
    by_cases hl : i < l.length
    · rw [gt_append_left hl]; exact h.pl i hl
    · rw [gt_append_right (by omega), show i - l.length = 0 by omega]
      exact ⟨rfl, rfl, rfl, rfl, by show 0 ≤ (s : Int); omega, by show (s : Int) < 4; omega⟩
  · rw [List.length_append] at hi
    simp only [List.length_cons, List.length_nil] at hi
    by_cases hl : i < l.length
    · rw [gt_append_left hl, List.take_append_of_le_length (by omega)]; exact h.dt i hl
    · have hil : i = l.length := by omega
      subst hil
      rw [gt_append_right (Nat.le_refl _), Nat.sub_self, List.take_of_length_le (by simp), cnt_app]
      show (⟨(s : Int) + 1, ((cnt l (s : Int) + 1 : Nat) : Int)⟩ : Dot) = ⟨(s : Int) + 1, ((cnt l (s : Int) + cnt [_] (s : Int) : Nat) : Int)⟩
      rw [cnt_one, if_pos rfl]
theorem i64t {x : Int} (h1 : -9223372036854775808 ≤ x) (h2 : x ≤ 9223372036854775807) : i64b x = true := by
  unfold i64b; rw [decide_eq_true h1, decide_eq_true h2]; rfl
theorem obs {α β : Type} (x : α) (f : α → Option β) (y : Option β) (h : f x = y) : Option.bind (some x) f = y := h
theorem chk3 {α : Type} {a b c : Bool} {x : Option α} (ha : a = true) (hb : b = true) (hc : c = true) : chk a (chk b (chk c x)) = x := by subst ha hb hc; rfl
theorem tl_z (u : UInt8) : w64 (((u.toNat : Nat) : Int).tmod 4) = ((u.toNat % 4 : Nat) : Int) := by
  have h : u.toNat % 4 < 4 := Nat.mod_lt _ (by decide)
  have e : ((u.toNat : Nat) : Int).tmod 4 = ((u.toNat % 4 : Nat) : Int) := by
    rw [Int.tmod_eq_emod_of_nonneg (by omega)]; omega
  rw [e]
  generalize u.toNat % 4 = s at h
  exact w64_id (by omega) (by omega)
theorem tl_j6 {l : Acts} {c : List Int} {G : Acts × List Int → Option Bool} {s : Nat} {k : ByteArray} (h : TI l) (hc : TC l c) (hs : s < 4) (hn : l.length < 60) : ∃ l' c', TI l' ∧ TC l' c' ∧ l'.length = l.length + 1 ∧ m_firthlaw23_JudgeTells_j6 l c G (s : Int) k = G (l', c') := by
  have hct : cnt l (s : Int) ≤ l.length := cnt_le
  have hg : gt c s = ((cnt l (s : Int) : Nat) : Int) := hc.2 s hs
  have hw1 : w64 ((s : Int) + 1) = (s : Int) + 1 := w64_id (by omega) (by omega)
  have hw2 : w64 (gt c s + 1) = ((cnt l (s : Int) + 1 : Nat) : Int) := by
    rw [hg]
    generalize cnt l (s : Int) = n at hct
    rw [w64_id (by omega) (by omega)]; omega
  have hsl : s < (List.set c s ((cnt l (s : Int) + 1 : Nat) : Int)).length := by rw [List.length_set, hc.1]; exact hs
  have hgs : gt (List.set c s ((cnt l (s : Int) + 1 : Nat) : Int)) s = ((cnt l (s : Int) + 1 : Nat) : Int) := by
    rw [gt_eq hsl, List.getElem_set_self]
  refine ⟨_, List.set c s ((cnt l (s : Int) + 1 : Nat) : Int), h.add hs (k := k), ⟨by rw [List.length_set, hc.1], fun q hq => ?_⟩, by rw [List.length_append]; rfl, ?_⟩
  · rw [cnt_app, cnt_one]
    by_cases hqs : q = s
    · subst hqs; rw [hgs, if_pos rfl]
    · have hne : ¬ ((s : Int) = (q : Int)) := by omega
      rw [gt_eq (by rw [List.length_set, hc.1]; exact hq), List.getElem_set_ne (fun e => hqs e.symm), ← gt_eq (by rw [hc.1]; exact hq), hc.2 q hq]
      show _ = ((cnt l (q : Int) + (if (s : Int) = (q : Int) then 1 else 0) : Nat) : Int)
      rw [if_neg hne]; rfl
  · have e1 : i64b ((s : Int) + 1) = true := i64t (by omega) (by omega)
    have e2 : i64b ((cnt l (s : Int) + 1 : Nat) : Int) = true := by
      generalize cnt l (s : Int) = n at hct
      exact i64t (by omega) (by omega)
    have e3 : decide (l.length + 1 ≤ lim) = true := decide_eq_true (by rw [lim_eq]; omega)
    unfold m_firthlaw23_JudgeTells_j6 m_firthlaw23_dot
    rw [Int.toNat_natCast, hw2, hgs, hw1]
    clear hgs hsl hw1 hw2
    generalize (s : Int) + 1 = a at e1 ⊢
    generalize ((cnt l (s : Int) + 1 : Nat) : Int) = b at e2 ⊢
    generalize decide (l.length + 1 ≤ lim) = d at e3 ⊢
    refine obs _ _ _ ?_
    exact chk3 e1 e2 e3
theorem tells5 {keys : List UInt8} {K : Acts × List Int → Option Bool} {r : Option Bool} (hK : ∀ l c, TI l → l.length ≤ 60 → K (l, c) = r) {L : List UInt8} : ∀ {i : Nat} {l : Acts} {c : List Int}, TI l → TC l c → l.length + L.length ≤ 60 → forI (m_firthlaw23_JudgeTells_b5 keys) K i L (l, c) = r := by
  induction L with
  | nil => intro i l c h hc hn; rw [forI_nil]; exact hK l c h (by simpa using hn)
  | cons u L ih =>
    intro i l c h hc hn
    rw [List.length_cons] at hn
    rw [forI_cons]
    have ih' := fun l' c' (h1 : TI l') (h2 : TC l' c') (h3 : l'.length + L.length ≤ 60) => ih (i := i + 1) h1 h2 h3
    generalize hG : forI (m_firthlaw23_JudgeTells_b5 keys) K (i + 1) L = G at ih'
    have hs : u.toNat % 4 < 4 := Nat.mod_lt _ (by decide)
    have e5 : imp (decide (((i : Nat) : Int) < ((keys.length : Nat) : Int))) (decide (i < keys.length)) = true := by
      unfold imp
      by_cases hik : i < keys.length
      · simp [hik]
      · have : decide (((i : Nat) : Int) < ((keys.length : Nat) : Int)) = false := decide_eq_false (by omega)
        rw [this]; rfl
    have fin : ∀ k : ByteArray, m_firthlaw23_JudgeTells_j6 l c G ((u.toNat % 4 : Nat) : Int) k = r := by
      intro k
      obtain ⟨l', c', h1, h2, h3, h4⟩ := tl_j6 (G := G) (k := k) h hc hs (by omega)
      rw [h4]; exact ih' l' c' h1 h2 (by omega)
    have e4 : inb ((u.toNat % 4 : Nat) : Int) 4 = true := inb_nat hs
    unfold m_firthlaw23_JudgeTells_b5
    simp only [tl_z, Option.bind_some, e4, e5, chk, cond_true, fin]
    cases ((decide (((i : Nat) : Int) < ((keys.length : Nat) : Int))) && (((((gt keys i).toNat : Nat) : Int).tmod 2) == 1)) <;> rfl
theorem tells11 {l : Acts} {i : Nat} {f : Unit → Option Bool} {s : Int} (hs : (gt l i).dot.s = s) : ∀ {n k : Nat}, forI (m_firthlaw23_JudgeTells_b11 l i) (fun _ => f ()) k ((List.range' k n).map fun k => (⟨s, ((k + 1 : Nat) : Int)⟩ : Dot)) () = f ()
  | 0, _ => rfl
  | n + 1, k => by
    rw [List.range'_succ, List.map_cons, forI_cons]
    have ih := tells11 (f := f) hs (n := n) (k := k + 1)
    generalize hG : forI (m_firthlaw23_JudgeTells_b11 l i) (fun _ => f ()) (k + 1) _ = G at ih
    unfold m_firthlaw23_JudgeTells_b11 m_firthlaw23_dot
    rw [hs]
    simp only [Option.bind_some, bne_self_eq_false, cond_false]
    exact ih
theorem tells10 {l : Acts} (h : TI l) (hn : l.length ≤ 60) {K : Unit → Option Bool} : ∀ {L : Acts} {i : Nat}, L = l.drop i → i ≤ l.length → forI (m_firthlaw23_JudgeTells_b10 l) K i L () = K ()
  | [], _, _, _ => rfl
  | a :: L, i, hL, hi => by
    have hil : i < l.length := by
      have := congrArg List.length hL
      rw [List.length_drop, List.length_cons] at this; omega
    rw [drop_gt hil] at hL
    obtain ⟨ha, hL⟩ := List.cons.inj hL
    have ih := tells10 h hn (K := K) (L := L) (i := i + 1) hL hil
    rw [forI_cons]
    generalize hG : forI (m_firthlaw23_JudgeTells_b10 l) K (i + 1) L = G at ih
    unfold m_firthlaw23_JudgeTells_b10
    rw [ha, e_Behind (h.ok hn).ok]
    simp only [Option.bind_some]
    rw [h.kys hil]
    have hp := h.pos hil
    have hle : (gt l i).dot.n ≤ 60 := by
      rw [h.dt i hil]
      have := cnt_le (l := l.take (i + 1)) (s := (gt l i).sess)
      rw [List.length_take] at this
      simp only; omega
    have hlen : (ups (gt l i).dot.s ((gt l i).dot.n - 1).toNat).length = ((gt l i).dot.n - 1).toNat := by simp [ups]
    have hw : w64 ((gt l i).dot.n - 1) = (gt l i).dot.n - 1 := w64_id (by omega) (by omega)
    have : ((((ups (gt l i).dot.s ((gt l i).dot.n - 1).toNat).length : Nat) : Int) != w64 ((gt l i).dot.n - 1)) = false := by
      rw [hlen, hw]; simp; omega
    rw [this]
    simp only [cond_false]
    unfold ups
    rw [List.range_eq_range', tells11 rfl]
    exact ih
theorem p_firthlaw23_JudgeTells {Γ : Gh} {Asites : Option Addr} {csites : Nat} {sites : List UInt8} (hsites : Sl byteT Γ Asites sites) (hsitesc : sites.length ≤ csites) {Akeys : Option Addr} {ckeys : Nat} {keys : List UInt8} (hkeys : Sl byteT Γ Akeys keys) (hkeysc : keys.length ≤ ckeys) (at_ : Int) (hat_ : I64 at_) (hb : bkL bkOne sites ≤ 1048576) (hb2 : bkL bkOne keys ≤ 1048576) : m_firthlaw23_JudgeTells sites keys at_ = some true := by
  unfold m_firthlaw23_JudgeTells
  rw [e_awake]
  simp only [Option.bind_some, Bool.not_true, Bool.false_or]
  by_cases hn : 60 < sites.length
  · have : decide (60 < ((sites.length : Nat) : Int)) = true := decide_eq_true (by omega)
    rw [this]; rfl
  have : decide (60 < ((sites.length : Nat) : Int)) = false := decide_eq_false (by omega)
  rw [this]
  simp only [cond_false]
  refine tells5 (fun l c h hl => ?_) (l := []) ⟨fun i hi => absurd hi (by simp), fun i hi => absurd hi (by simp)⟩ ⟨rfl, fun s hs => ?_⟩ (by simpa using hn)
  rotate_left 1
  · match s, hs with
    | 0, _ => rfl
    | 1, _ => rfl
    | 2, _ => rfl
    | 3, _ => rfl
  simp only
  rw [tells10 h hl (by rw [List.drop_zero]) (Nat.zero_le _)]
  cases hc : (decide (at_ < 0)) || (decide (((l.length : Nat) : Int) ≤ at_)) with
  | true => rfl
  | false =>
    have h1 := of_decide_eq_false (or_l hc); have h2 := of_decide_eq_false (or_r hc)
    obtain ⟨i, rfl⟩ : ∃ i : Nat, at_ = (i : Int) := ⟨at_.toNat, by omega⟩
    have hi : i < l.length := by omega
    simp only [cond_false, Int.toNat_natCast]
    have e1 : inb (i : Int) l.length = true := inb_nat hi
    have e2 : decide (0 + 1 ≤ lim) = true := by decide
    have e3 : i64b 9 = true := by decide
    have e4 : i64b 1 = true := by decide
    have e5 : decide (l.length + 2 ≤ lim) = true := decide_eq_true (by rw [lim_eq]; omega)
    unfold m_firthlaw23_dot
    simp only [e1, e2, e3, e4, e5, chk, cond_true, Option.bind_some]
    generalize hm : ([(⟨true, 9, (gt l i).key, (⟨0, 0⟩ : Dot), true, [(gt l i).dot], []⟩ : Djudge_Act), (⟨false, 9, (⟨#[99]⟩ : ByteArray), (⟨9, 1⟩ : Dot), true, [], []⟩ : Djudge_Act)] : Acts) = m
    have hml : m.length = 2 := by rw [← hm]; rfl
    have hm0 : gt m 0 = (⟨true, 9, (gt l i).key, (⟨0, 0⟩ : Dot), true, [(gt l i).dot], []⟩ : Djudge_Act) := by rw [← hm]; rfl
    have hm1 : gt m 1 = (⟨false, 9, (⟨#[99]⟩ : ByteArray), (⟨9, 1⟩ : Dot), true, [], []⟩ : Djudge_Act) := by rw [← hm]; rfl
    have hokl := h.ok hl
    have hdm : (dts m).length ≤ 2 := by rw [← hm]; simp [dts, tells]
    have hok : okj (l ++ m) := by
      refine ⟨⟨⟨by rw [List.length_append, lim_eq]; omega, fun a ha => ?_⟩, by rw [List.length_append]; omega, ?_⟩, fun a ha => ?_⟩
      · rcases List.mem_append.1 ha with q | q
        · exact hokl.ok.fine.2 a q
        · rw [← hm] at q
          rcases List.mem_cons.1 q with e | e
          · rw [e, lim_eq]; show (1 : Nat) ≤ _; decide
          · rw [List.mem_singleton.1 e, lim_eq]; show (0 : Nat) ≤ _; decide
      · have h3 := hokl.ok.d
        have h4 : dts (l ++ m) = dts l ++ dts m := by unfold dts; rw [List.flatMap_append]
        have h5 : (dts l).length ≤ l.length := by
          have key : ∀ q : Acts, (∀ a ∈ q, (tells a).length ≤ 1) → (dts q).length ≤ q.length := by
            intro q
            induction q with
            | nil => intro _; simp [dts]
            | cons a q ih =>
              intro hq
              unfold dts at *
              rw [List.flatMap_cons, List.length_append, List.length_cons]
              have := hq a List.mem_cons_self
              have := ih (fun b hb => hq b (List.mem_cons_of_mem _ hb))
              omega
          refine key l fun a ha => ?_
          obtain ⟨j, hj, rfl⟩ := List.getElem_of_mem ha
          rw [← gt_eq hj]
          unfold tells
          rw [(h.pl j hj).1]
          cases decide (0 < (gt l j).dot.n) <;> simp
        rw [h4, List.length_append]; omega
      · rcases List.mem_append.1 ha with q | q
        · exact hokl.v a q
        · rw [← hm] at q
          rcases List.mem_cons.1 q with e | e
          · rw [e, lim_eq]; show (0 : Nat) ≤ _; decide
          · rw [List.mem_singleton.1 e, lim_eq]; show (0 : Nat) ≤ _; decide
    rw [e_Behind hok.ok]
    simp only [Option.bind_some]
    have hno : ∀ a ∈ m, a.read = false → ∀ b ∈ l, a.dot ∉ b.reads := by
      intro a _ _ b hb'
      obtain ⟨j, hj, rfl⟩ := List.getElem_of_mem hb'
      rw [← gt_eq hj, (h.pl j hj).2.2.1]; simp
    have hg0 : gt (l ++ m) l.length = gt m 0 := by rw [gt_append_right (Nat.le_refl _), Nat.sub_self]
    have hg1 : gt (l ++ m) (l.length + 1) = gt m 1 := by rw [gt_append_right (by omega)]; congr 1; omega
    have hf9 : fst (l ++ m) ⟨9, 1⟩ = some (l.length + 1) := by
      refine fst_eq (by rw [List.length_append]; omega) (by rw [hg1, hm1]; rfl) (by rw [hg1, hm1]) fun j hj hw he => ?_
      by_cases hjl : j < l.length
      · rw [gt_append_left hjl] at he
        have h5 := (h.pl j hjl).2.2.2.2
        have := congrArg Dot.s he
        rw [h.dt j hjl] at this
        simp only at this; omega
      · have : j = l.length := by omega
        subst this
        rw [hg0, hm0] at hw
        simp [isw] at hw
    have hs9 : ∀ x, x ∈ stp (l ++ m) (l.length + 1) ↔ x = (gt l i).dot := by
      intro x
      rw [mem_stp, hg1, hm1]
      constructor
      · rintro ⟨j, g1, g2, g3, g4, g5⟩
        by_cases hjl : j < l.length
        · rw [gt_append_left hjl] at g3
          have h5 := (h.pl j hjl).2.2.2.2
          simp only at g3; omega
        · have : j = l.length := by omega
          subst this
          rw [hg0, hm0, mem_tells] at g5
          simpa using g5
      · intro e
        refine ⟨l.length, by omega, by rw [List.length_append]; omega, by rw [hg0, hm0], by rw [hg0, hm0], ?_⟩
        rw [hg0, hm0, mem_tells]
        exact .inl ⟨rfl, by rw [e]; simp⟩
    have hfd := h.ft hi
    have hp := h.pos hi
    have hk : kys (bhS (l ++ m) ⟨9, 1⟩) = ups (gt l i).dot.s (gt l i).dot.n.toNat := by
      refine CL.ext (bhS_cs _ _) (ups_cl _ _) fun x => ?_
      rw [mem_bhS, mem_ups]
      constructor
      · intro hb'
        cases hb' with
        | one g1 g2 =>
          rw [hf9] at g1; injection g1 with g1; subst g1
          rw [(hs9 _).1 g2]
          exact ⟨rfl, by omega, by omega⟩
        | two g1 g2 g3 =>
          rw [hf9] at g1; injection g1 with g1; subst g1
          rw [(hs9 _).1 g2, bh_app hno hfd, h.mb hi, h.ms hi] at g3
          exact ⟨g3.1, g3.2.1, by omega⟩
      · rintro ⟨g1, g2, g3⟩
        by_cases hx : x = (gt l i).dot
        · exact .one hf9 ((hs9 _).2 hx)
        · refine .two hf9 ((hs9 _).2 rfl) ?_
          rw [bh_app hno hfd, h.mb hi, h.ms hi]
          refine ⟨g1, g2, ?_⟩
          rcases Int.lt_or_le x.n (gt l i).dot.n with c | c
          · exact c
          · exact absurd (dot_ext g1 (by omega)) hx
    rw [hk]
    have hlen : ((((ups (gt l i).dot.s (gt l i).dot.n.toNat).length : Nat) : Int) == (gt l i).dot.n) = true := by
      rw [show (ups (gt l i).dot.s (gt l i).dot.n.toNat).length = (gt l i).dot.n.toNat by simp [ups]]
      simp; omega
    rw [hlen]
    simp only [gcall, cond_true, e_has, Option.bind_some]
    have : decide ((gt l i).dot ∈ ups (gt l i).dot.s (gt l i).dot.n.toNat) = true := decide_eq_true (mem_ups.2 ⟨rfl, by omega, by omega⟩)
    rw [this]; rfl
end Fw
end Go.Proofs.Ytldpanjodokefaa
