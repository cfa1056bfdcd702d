/- The plain side: what the models come to. No condition. -/
import Derived.Test.YtlfmppjcgaekhaaGreatPJ1
import Derived.Test.YtlfmppjcgaekhaaGreatA1
namespace Go.Proofs.YtlfmppjcgaekhaaGreat
namespace Fw
set_option linter.unusedVariables false
set_option linter.unusedSimpArgs false
set_option linter.unusedSectionVars false
theorem p5 {i : Nat} (h0 : 0 < i) (hn : i ≤ lim) : w64 (((i : Nat) : Int) - 1) = ((i - 1 : Nat) : Int) := by
 rw [aJ] at hn
 rw [bM (by unfold I64; omega)]; omega
theorem qy {g : Bool} {i n : Nat} (hi : i < n) (hn : n ≤ lim) : imp (g && decide (0 < ((i : Nat) : Int))) (inb (w64 (((i : Nat) : Int) - 1)) n) = true := by
 unfold imp
 by_cases h : 0 < i
 ·rw [p5 h (by omega)]
  cases g with
  | false => rfl
  | true =>
   rw [show (true && decide (0 < ((i : Nat) : Int))) = true by simp; omega, bm rfl]
   unfold inb
   rw [Bool.and_eq_true, decide_eq_true_eq, decide_eq_true_eq]; omega
 ·rw [show decide (0 < ((i : Nat) : Int)) = false by simp; omega, Bool.and_false]; rfl
theorem za {i n : Nat} (hi : i < n) (hn : n ≤ lim) : imp (decide (0 < ((i : Nat) : Int))) (inb (w64 (((i : Nat) : Int) - 1)) n) = true := by
 have := qy (g := true) hi hn
 rwa [Bool.true_and] at this
def Rise (p : Int → Prop) (l : List Int) : Prop := ∀ j, j < l.length → p (gt l j) ∧ (0 < j → gt l (j - 1) < gt l j)
theorem Rise.lt {p : Int → Prop} {l : List Int} (h : Rise p l) : ∀ (j k : Nat), k < j → j < l.length → gt l k < gt l j := by
 intro j
 induction j with
 | zero => intro k hk; omega
 | succ j ih =>
  intro k hk hj
  have h1 := (h (j + 1) hj).2 (by omega)
  rw [Nat.add_sub_cancel] at h1
  rcases Nat.lt_or_ge k j with h2 | h2
  ·have := ih k h2 (by omega); omega
  ·obtain rfl : k = j := by omega
   exact h1
theorem Rise.nd {p : Int → Prop} {l : List Int} (h : Rise p l) : l.Nodup := by
 unfold List.Nodup
 rw [List.pairwise_iff_getElem]
 intro i j hi hj hij
 have := h.lt j i hij hj
 rw [bz hi, bz hj] at this
 omega
theorem Rise.bound {lo hi : Int} {l : List Int} (h : Rise (fun x => lo ≤ x ∧ x ≤ hi) l) (h0 : lo ≤ hi + 1) : (l.length : Int) ≤ hi - lo + 1 := by
 have key : ∀ j, j < l.length → lo + (j : Int) ≤ gt l j := by
  intro j
  induction j with
  | zero => intro hj; have := (h 0 hj).1; simp only at this; omega
  | succ j ih =>
   intro hj
   have h1 := (h (j + 1) hj).2 (by omega)
   rw [Nat.add_sub_cancel] at h1
   have := ih (by omega); omega
 rcases Nat.eq_zero_or_pos l.length with hl | hl
 ·omega
 ·have := key (l.length - 1) (by omega)
  have h2 := (h (l.length - 1) (by omega)).1
  simp only at h2; omega
theorem zC {m : List Int} (hm : m.length ≤ lim) : ∃ b, fw m = some b ∧ (b = true → 1 ≤ m.length ∧ m.length ≤ 8 ∧ Rise (fun x => 1 ≤ x ∧ x ≤ 8) m) := by
 unfold fw
 cases hc : (decide (((m.length : Nat) : Int) < 1)) || (decide (8 < ((m.length : Nat) : Int))) with
 | true => exact ⟨false, rfl, fun h => by cases h⟩
 | false =>
  simp only [Bool.or_eq_false_iff, decide_eq_false_iff_not] at hc
  rw [ax rfl]
  refine lF (fun i _ => ∀ j, j < i → ((1 ≤ gt m j ∧ gt m j ≤ 8) ∧ (0 < j → gt m (j - 1) < gt m j))) (fun s hI => ⟨true, rfl, fun _ => ⟨by omega, by omega, hI⟩⟩) (fun f i s hi hI hf => ?_) (fun j hj => absurd hj (Nat.not_lt_zero _))
  unfold iZ
  cases h1 : (decide (gt m i < 1)) || (decide (8 < gt m i)) with
  | true => exact ⟨false, rfl, fun h => by cases h⟩
  | false =>
   rw [ax rfl, aD (za hi hm)]
   simp only [Bool.or_eq_false_iff, decide_eq_false_iff_not] at h1
   cases h2 : (decide (0 < ((i : Nat) : Int))) && (decide (gt m i ≤ gt m ((w64 (((i : Nat) : Int) - 1)).toNat))) with
   | true => exact ⟨false, rfl, fun h => by cases h⟩
   | false =>
    rw [ax rfl]
    refine hf () fun j hj => ?_
    rcases Nat.lt_or_ge j i with h | h
    ·exact hI j h
    ·obtain rfl : j = i := by omega
     refine ⟨by omega, fun hj0 => ?_⟩
     rw [p5 hj0 (by omega)] at h2
     simp only [Bool.and_eq_false_imp, decide_eq_true_eq, decide_eq_false_iff_not] at h2
     have := h2 (by omega)
     rw [show ((j - 1 : Nat) : Int).toNat = j - 1 by omega] at this
     omega
theorem BG {m : List Int} (h0 : 1 ≤ m.length) (h8 : m.length ≤ 8) (h : Rise (fun x => 1 ≤ x ∧ x ≤ 8) m) : jZ m = some true := by
 unfold jZ
 refine mz (fun i _ => True) (fun s _ => by rw [decide_eq_true (by omega)]) (fun f i s hi _ hf => ?_) trivial
 unfold lT
 rw [aD (qy hi (by rw [aJ]; omega))]
 have h1 := h i hi
 rw [ax, hf () trivial]
 by_cases hi0 : 0 < i
 ·have h2 := h1.2 hi0
  rw [p5 hi0 (by rw [aJ]; omega), show ((i - 1 : Nat) : Int).toNat = i - 1 by omega]
  have h3 := h1.1
  simp only at h3
  simp only [Bool.or_eq_false_iff, Bool.and_eq_false_imp, decide_eq_true_eq, decide_eq_false_iff_not]
  exact ⟨⟨by omega, by omega⟩, fun _ => by omega⟩
 ·have h3 := h1.1
  simp only at h3
  rw [show decide (0 < ((i : Nat) : Int)) = false by simp; omega, Bool.false_and, Bool.or_false]
  simp only [Bool.or_eq_false_iff, decide_eq_false_iff_not]
  omega
theorem xd {c : aa} (hl : c.links.length ≤ lim) (hm : c.members.length ≤ lim) : ∃ b, dL ⟨c.self, c.sites, c.links, c.cap, c.base, c.members⟩ = some b ∧ (b = true → CR c ∧ c.base ≤ 4611686018427387904) := by
 unfold dL
 simp only
 obtain ⟨b, b1, b2⟩ := zC hm
 rw [b1, jp, Option.bind_some]
 generalize hg : (!((((((((decide (c.sites < 1)) || (decide (16 < c.sites))) || (decide (c.self < 1))) || (decide (c.sites < c.self))) || (decide (c.cap < 1))) || (decide (65536 < c.cap))) || (decide (c.base < 0))) || (decide (4611686018427387904 < c.base)))) = g
 cases hc : (((((((((decide (c.sites < 1)) || (decide (16 < c.sites))) || (decide (c.self < 1))) || (decide (c.sites < c.self))) || (decide (c.cap < 1))) || (decide (65536 < c.cap))) || (decide (c.base < 0))) || (decide (4611686018427387904 < c.base))) || (!(bif g then b else default))) with
 | true => exact ⟨false, rfl, fun h => by cases h⟩
 | false =>
  rw [Bool.or_eq_false_iff] at hc
  obtain ⟨hc1, hc2⟩ := hc
  rw [hc1] at hg
  obtain rfl : g = true := hg.symm
  obtain rfl : b = true := by simpa using hc2
  simp only [Bool.or_eq_false_iff, decide_eq_false_iff_not] at hc1
  obtain ⟨⟨⟨⟨⟨⟨⟨q1, q2⟩, q3⟩, q4⟩, q5⟩, q6⟩, q7⟩, q8⟩ := hc1
  obtain ⟨m1, m2, m3⟩ := b2 rfl
  rw [ax rfl]
  refine lF (fun i _ => ∀ j, j < i → ((1 ≤ gt c.links j ∧ gt c.links j ≤ c.sites) ∧ gt c.links j ≠ c.self) ∧ (0 < j → gt c.links (j - 1) < gt c.links j)) (fun s hI => ⟨true, rfl, fun _ => ⟨?_, by omega⟩⟩) (fun f i s hi hI hf => ?_) (fun j hj => absurd hj (Nat.not_lt_zero _))
  ·unfold iY
   simp only
   rw [aD (qy hi hl)]
   cases h2 : ((((decide (gt c.links i < 1)) || (decide (c.sites < gt c.links i))) || (gt c.links i == c.self)) || ((decide (0 < ((i : Nat) : Int))) && (decide (gt c.links i ≤ (gt c.links ((w64 (((i : Nat) : Int) - 1)).toNat)))))) with
   | true => exact ⟨false, rfl, fun h => by cases h⟩
   | false =>
    rw [ax rfl]
    refine hf () fun j hj => ?_
    rcases Nat.lt_or_ge j i with h | h
    ·exact hI j h
    ·obtain rfl : j = i := by omega
     simp only [Bool.or_eq_false_iff, Bool.and_eq_false_imp, decide_eq_true_eq, decide_eq_false_iff_not, beq_eq_false_iff_ne] at h2
     obtain ⟨⟨⟨p1, p2⟩, p3⟩, p4⟩ := h2
     refine ⟨⟨⟨by omega, by omega⟩, p3⟩, fun hj0 => ?_⟩
     have := p4 (by omega)
     rw [p5 hj0 (by omega), show ((j - 1 : Nat) : Int).toNat = j - 1 by omega] at this
     omega
  ·have hR : Rise (fun x => 1 ≤ x ∧ x ≤ c.sites) c.links := fun j hj => ⟨(hI j hj).1.1, (hI j hj).2⟩
   have hb := hR.bound (by omega)
   refine ⟨?_, by omega, by omega, fun x hx => ?_, hR.nd, by omega, by omega, by omega, by omega⟩
   ·unfold dB
    refine mz (fun i _ => True) (fun s _ => ?_) (fun f i s hi _ hf => ?_) trivial
    ·rw [BG m1 m2 m3, jp, Option.bind_some]
     have e : ((((((((decide (1 ≤ c.sites)) && (decide (c.sites ≤ 16))) && (decide (1 ≤ c.self))) && (decide (c.self ≤ c.sites))) && (decide (1 ≤ c.cap))) && (decide (c.cap ≤ 65536))) && (decide (0 ≤ c.base))) && (decide (c.base ≤ 4611686018427387904))) = true := by
      simp only [Bool.and_eq_true, decide_eq_true_eq]; omega
     rw [e]; rfl
    ·unfold j6
     rw [aD (qy hi hl)]
     have h1 := hI i hi
     rw [ax, hf () trivial]
     have h5 : (gt c.links i == c.self) = false := by rw [beq_eq_false_iff_ne]; exact h1.1.2
     rw [h5]
     by_cases hi0 : 0 < i
     ·have h2 := h1.2 hi0
      rw [p5 hi0 (by omega), show ((i - 1 : Nat) : Int).toNat = i - 1 by omega]
      simp only [Bool.or_eq_false_iff, Bool.and_eq_false_imp, decide_eq_true_eq, decide_eq_false_iff_not]
      exact ⟨⟨⟨by omega, by omega⟩, trivial⟩, fun _ => by omega⟩
     ·rw [show decide (0 < ((i : Nat) : Int)) = false by simp; omega, Bool.false_and, Bool.or_false, Bool.or_false]
      simp only [Bool.or_eq_false_iff, decide_eq_false_iff_not]
      omega
   ·obtain ⟨j, hj, rfl⟩ := List.getElem_of_mem hx
    have := (hI j hj).1
    rw [bz hj] at this
    exact ⟨this.1.1, this.1.2, this.2⟩
end Fw
end Go.Proofs.YtlfmppjcgaekhaaGreat
namespace Go.Proofs.YtlfmppjcgaekhaaGreat
namespace Fw
set_option linter.unusedVariables false
set_option linter.unusedSimpArgs false
set_option linter.unusedSectionVars false
def qa (c : aa) (i : Nat) : List Int := (List.replicate c.sites.toNat c.base).set (c.self - 1).toNat (c.base + i)
section
variable {c : aa} (hc : CR c) (hb : c.base ≤ 2305843009213693952)
include hc
theorem qU (i : Nat) : (qa c i).length = c.sites.toNat := by unfold qa; rw [List.length_set, List.length_replicate]
theorem qa_0 : qa c 0 = List.replicate c.sites.toNat c.base := by
 unfold qa
 apply List.ext_getElem
 ·rw [List.length_set]
 ·intro j h1 h2
  rw [List.getElem_set]
  split <;> simp
theorem C8 (i : Nat) : gt (qa c i) (c.self - 1).toNat = c.base + i := by
 have h1 := hc.self
 have h2 := hc.sites
 rw [bz (by rw [qU hc]; omega)]
 unfold qa
 rw [List.getElem_set_self]
theorem Bu (i : Nat) : (qa c i).set (c.self - 1).toNat (c.base + ((i + 1 : Nat) : Int)) = qa c (i + 1) := by
 unfold qa
 rw [List.set_set]
include hb
theorem BU {i : Nat} (hi : i ≤ 100) : ∀ x ∈ qa c i, 0 ≤ x ∧ x ≤ 4611686018427387904 := by
 have h1 := hc.base
 intro x hx
 unfold qa at hx
 rcases List.mem_or_eq_of_mem_set hx with h | h
 ·rw [(List.mem_replicate.1 h).2]; omega
 ·rw [h]; omega
theorem yW {i : Nat} (hi : i ≤ 100) : jY (qa c i) = some true := by
 have h1 := hc.sites
 have hok := BU hc hb hi
 unfold jY
 refine mz (fun i _ => True) (fun s _ => ?_) (fun f j s hj _ hf => ?_) trivial
 ·rw [qU hc, decide_eq_true (by omega), decide_eq_true (by omega)]; rfl
 ·have := hok (gt (qa c i) j) (by rw [bz hj]; exact List.getElem_mem hj)
  unfold lV
  rw [ax (by simp only [Bool.or_eq_false_iff, decide_eq_false_iff_not]; omega), hf () trivial]
theorem tA {i : Nat} (hi : i < 100) : fg (qa c i) c.self = some (⟨c.self, c.base + ((i + 1 : Nat) : Int)⟩, 0) := by
 have h1 := hc.self
 have h2 := hc.sites
 have h3 := hc.base
 unfold fg
 rw [yW hc hb (by omega), Option.bind_some, ax (by rw [qU hc, Bool.not_true, Bool.false_or, Bool.or_eq_false_iff, decide_eq_false_iff_not, decide_eq_false_iff_not]; omega)]
 rw [bM (by unfold I64; omega), aD (by unfold inb; rw [qU hc, Bool.and_eq_true, decide_eq_true_eq, decide_eq_true_eq]; omega), C8 hc]
 rw [ax (by rw [beq_eq_false_iff_ne]; omega), bM (by unfold I64; omega)]
 congr 3
 omega
theorem zW {i : Nat} (hi : i < 100) : jJ (qa c i) ⟨c.self, c.base + ((i + 1 : Nat) : Int)⟩ = some (qa c (i + 1), 0) := by
 have h1 := hc.self
 have h2 := hc.sites
 have hl := qU hc i
 unfold jJ
 simp only
 rw [tA hc hb hi, Option.bind_some]
 simp only
 rw [ax (by simp), aD (by rw [decide_eq_true_eq, hl, aJ]; omega), bM (by unfold I64; omega), List.nil_append, aD (by unfold inb; rw [hl, Bool.and_eq_true, decide_eq_true_eq, decide_eq_true_eq]; omega), Bu hc]
def rn (c : aa) (i : Nat) : Rec := rc c.self (c.base + ((i + 1 : Nat) : Int))
omit hb in
theorem rn_d {i : Nat} (hb : c.base ≤ 2305843009213693952) (hi : i < 100) : aI (rn c i) = some true ∧ ReOk (rn c i) := by
 have h1 := hc.self
 have h2 := hc.sites
 have h3 := hc.base
 exact C9 ⟨by omega, by omega⟩ ⟨by omega, by omega⟩
theorem vJ {g : af} {s : Sq} {i : Nat} (hi : i < 100) (ha : s.applied = qa c i) : de (mkq c g s) (rn c i) = some true := by
 have h1 := hc.self
 have hr := (rn_d hc hb hi).1
 have hrec : fY (mkq c g s) (rn c i) = some true := by
  unfold fY
  rw [hr, Option.bind_some]
  show some ((true && true) && decide (c.self ≤ c.sites)) = _
  rw [decide_eq_true h1.2]; rfl
 unfold de
 rw [hrec, Option.bind_some, show (!true) = false from rfl, ax rfl]
 show Option.bind (fg s.applied c.self) _ = _
 rw [ha, tA hc hb hi, Option.bind_some]
 show Option.bind (dM (((0 : Int) == 0) && ((⟨c.self, c.base + ((i + 1 : Nat) : Int)⟩ : Dot) == ⟨c.self, c.base + ((i + 1 : Nat) : Int)⟩)) (some true)) _ = _
 rw [show (((0 : Int) == 0) && ((⟨c.self, c.base + ((i + 1 : Nat) : Int)⟩ : Dot) == ⟨c.self, c.base + ((i + 1 : Nat) : Int)⟩)) = true by simp]
 rw [jp, bm rfl, Option.bind_some]
 have e : ((gt (rn c i).vers 0).dot) = (⟨c.self, c.base + ((i + 1 : Nat) : Int)⟩ : Dot) := rfl
 simp only [e]
 simp
theorem Bv {g : af} {s : Sq} {i : Nat} (hi : i < 100) (ha : s.applied = qa c i) (hu : s.under = none) : bC (mkq c g s) ⟨rn c i⟩ = some true ∧ aT (mkq c g s) ⟨rn c i⟩ = some (mkq c g ⟨s.applied, some (rn c i), s.list, s.next, s.gaps⟩) := by
 refine ⟨?_, rfl⟩
 unfold bC
 simp only
 rw [show (mkq c g s).under = none from hu, vJ hc hb hi ha]
 show some (true && (c.self == c.self)) = _
 simp
omit hb hc in
theorem sM {x y : Int} : aY [x] y = some (y == x) := by
 unfold aY dm
 show Option.bind (aX y (fun _ => some (-1)) 0 x ()) _ = _
 unfold aX
 cases y == x <;> rfl
omit hb in
theorem zI (g : af) (s : Sq) : eF (mkq c g s) [c.self] = some true := by
 have h1 := hc.self
 unfold eF
 show fp (mkq c g s) [c.self] (fun _ => some true) 0 c.self () = _
 unfold fp
 rw [show (mkq c g s).c_sites = c.sites from rfl, decide_eq_false (by omega : ¬ c.self < 1), decide_eq_false (by omega : ¬ c.sites < c.self)]
 rfl
omit hb hc in
theorem zP (i : Nat) : kJ (rn c i).vers (rn c i).vers = some true := by
 unfold kJ
 show kA (rn c i).vers (rn c i).vers (fun _ => some (((1 : Nat) : Int) == ((1 : Nat) : Int))) 0 () = _
 unfold kA
 have e : kL (gt (rn c i).vers 0) (gt (rn c i).vers 0) = some true := by
  unfold kL
  rw [ax (by simp)]
  rfl
 rw [e]
 rfl
theorem AN {g : af} {s : Sq} {i : Nat} (hi : i < 100) (ha : s.applied = qa c i) (hu : s.under = some (rn c i)) (hn : s.next = ((i + 1 : Nat) : Int)) : bA (mkq c g s) ⟨[c.self], rn c i⟩ = some true := by
 have h0 : decide ((mkq c g s).next ≤ 4611686018427387904) = true := by
  show decide (s.next ≤ 4611686018427387904) = true
  rw [hn, decide_eq_true_eq]; omega
 have h1 : Option.isNone (mkq c g s).under = false := by show Option.isNone s.under = false; rw [hu]; rfl
 have h2 : Option.isSome (mkq c g s).under = true := by show Option.isSome s.under = true; rw [hu]; rfl
 have h3 : gt [gvo (mkq c g s).under] 0 = rn c i := by show gvo s.under = _; rw [hu]; rfl
 have h4 : ((gt (rn c i).vers 0).dot.s != (mkq c g s).c_self) = false := by show (c.self != c.self) = false; simp
 unfold bA
 simp only
 rw [vJ hc hb hi ha, h0, h1, h2, h3, h4, jp, zI hc, Option.bind_some, bm rfl]
 rw [show (true && true) = true from rfl, jp, Option.bind_some, bm rfl, zP]
 rw [show ((rn c i).key == (rn c i).key) = true by simp]
 rfl
end
end Fw
end Go.Proofs.YtlfmppjcgaekhaaGreat
namespace Go.Proofs.YtlfmppjcgaekhaaGreat
namespace Fw
set_option linter.unusedVariables false
set_option linter.unusedSimpArgs false
set_option linter.unusedSectionVars false
def Wn (c : aa) : List (Int × Bool) := c.links.foldl (fun m x => mput x true m) []
def putk (m w : List (Int × Bool)) : List (Int × Bool) := w.foldl (fun m e => mput e.1 true m) m
theorem ye : ∀ (w m : List (Int × Bool)), fldO d4 m w = some (putk m w)
 | [], m => rfl
 | e :: w, m => by
  show Option.bind (d4 m e) (fun s => fldO d4 s w) = _
  show fldO d4 (mput e.1 true m) w = _
  rw [ye w]; rfl
def en (c : aa) (i : Nat) (w : List (Int × Bool)) : az := ⟨⟨((i + 1 : Nat) : Int), rn c i, [c.self]⟩, w⟩
def dnl (c : aa) (i : Nat) (s : Sq) : List az := s.list ++ [en c i (Wn c)]
def dn (c : aa) (i : Nat) (s : Sq) : Sq :=
 if c.cap < ((dnl c i s).length : Int) then ⟨qa c (i + 1), none, (dnl c i s).drop 1, ((i + 2 : Nat) : Int), putk s.gaps (gt (dnl c i s) 0).want⟩
 else ⟨qa c (i + 1), none, dnl c i s, ((i + 2 : Nat) : Int), s.gaps⟩
theorem qL {c : aa} {r : Rec} {K : List Int → Option a6} : ∀ (l : List Int) (i : Nat) (acc : List Int), (∀ x ∈ l, x ≠ c.self) → acc.length + l.length ≤ lim → forI (bK ⟨[c.self], r⟩) K i l acc = K (acc ++ l)
 | [], i, acc, _, _ => by show K acc = _; rw [List.append_nil]
 | x :: l, i, acc, h, hl => by
  rw [List.length_cons] at hl
  have ih := qL (c := c) (r := r) (K := K) l (i + 1) (acc ++ [x]) (fun y hy => h y (List.mem_cons_of_mem _ hy)) (by rw [List.length_append, List.length_singleton]; omega)
  show bK ⟨[c.self], r⟩ (forI (bK ⟨[c.self], r⟩) K (i + 1) l) i x acc = _
  generalize forI (bK ⟨[c.self], r⟩) K (i + 1) l = f at ih ⊢
  have hx : (x == c.self) = false := by rw [beq_eq_false_iff_ne]; exact h x List.mem_cons_self
  unfold bK
  simp only
  rw [sM, hx, Option.bind_some, show (!false) = true from rfl, bm rfl, aD (by rw [decide_eq_true_eq]; omega)]
  show f (acc ++ [x]) = _
  rw [ih, List.append_assoc]; rfl
theorem Bq {c : aa} {g : af} {s : Sq} {i : Nat} (hl : c.links ≠ []) (hs : s.list.length + 1 ≤ lim) : ej (mkq c g s) ((i + 1 : Nat) : Int) (rn c i) [c.self] c.links = some (mkq c g ⟨s.applied, s.under, dnl c i s, s.next, s.gaps⟩) := by
 have h0 : 0 < c.links.length := List.length_pos_iff.2 hl
 unfold ej
 rw [sb (body := jA) (fun m x => mput x true m) c.links 0 [] (fun f i x m _ => rfl)]
 rw [bm (by rw [decide_eq_true_eq]; omega)]
 show chk (decide (s.list.length + 1 ≤ lim)) _ = _
 rw [aD (decide_eq_true hs)]
 rfl
section
variable {c : aa} (hc : CR c) (hb : c.base ≤ 2305843009213693952) (hl : c.links ≠ [])
include hc hb hl
theorem Bp {g : af} {s : Sq} {i : Nat} (hi : i < 100) (ha : s.applied = qa c i) (hn : s.next = ((i + 1 : Nat) : Int)) (hs : s.list.length + 1 ≤ lim) : aM (mkq c g s) ⟨[c.self], rn c i⟩ = some (mkq c g (dn c i s)) := by
 have hll := hc.ll
 unfold aM iH
 rw [aD (by show decide (0 < 1) = true; rfl)]
 show Option.bind (Option.bind (jJ s.applied ⟨c.self, c.base + ((i + 1 : Nat) : Int)⟩) _) _ = _
 rw [ha, zW hc hb hi, Option.bind_some, bm (by show (c.self == c.self) = true; simp)]
 unfold ei
 show Option.bind (forI (bK ⟨[c.self], rn c i⟩) _ 0 c.links []) _ = _
 rw [qL c.links 0 [] (fun x hx => (hc.links x hx).2.2) (by rw [aJ]; simp; omega), List.nil_append]
 simp only
 have e : ej (mkq c g ⟨qa c (i + 1), none, s.list, s.next, s.gaps⟩) s.next (rn c i) [c.self] c.links = some (mkq c g ⟨qa c (i + 1), none, dnl c i s, s.next, s.gaps⟩) := by rw [hn]; exact Bq (s := ⟨qa c (i + 1), none, s.list, ((i + 1 : Nat) : Int), s.gaps⟩) hl hs
 have e2 := e
 unfold mkq at e2 ⊢
 simp only at e2 ⊢
 rw [e2, Option.bind_some]
 unfold dn
 simp only
 have hw : w64 (s.next + 1) = ((i + 2 : Nat) : Int) := by rw [hn, bM (by unfold I64; omega)]; omega
 have hlen : 0 < (dnl c i s).length := by unfold dnl; simp
 by_cases hcap : c.cap < ((dnl c i s).length : Int)
 ·rw [if_pos hcap, decide_eq_true hcap, bm rfl, aD (decide_eq_true hlen), ye, Option.bind_some, aD (decide_eq_true (show 1 ≤ (dnl c i s).length from hlen)), hw]; rfl
 ·rw [if_neg hcap, decide_eq_false hcap, ax rfl, hw]; rfl
end
theorem sA {x : Int} : ∀ {l : List Int} {i : Nat}, x ∈ l → ∃ k : Nat, forI (aX x) (fun _ => some (-1)) i l () = some (k : Int)
 | [], i, h => by cases h
 | y :: l, i, h => by
  show ∃ k : Nat, aX x (forI (aX x) (fun _ => some (-1)) (i + 1) l) i y () = _
  cases hxy : x == y with
  | true => exact ⟨i, by unfold aX; rw [hxy]; rfl⟩
  | false =>
   have hne : x ≠ y := by simpa using hxy
   obtain ⟨k, hk⟩ := sA (l := l) (i := i + 1) ((List.mem_cons.1 h).resolve_left hne)
   refine ⟨k, ?_⟩
   rw [← hk]
   generalize forI (aX x) (fun _ => some (-1)) (i + 1) l = f
   unfold aX
   rw [hxy]; rfl
theorem sW {x : Int} {l : List Int} (h : x ∈ l) : aY l x = some true := by
 obtain ⟨k, hk⟩ := sA (i := 0) h
 unfold aY dm
 rw [hk, Option.bind_some, decide_eq_true (by omega)]
theorem yG {c : aa} (hc : CR c) {x : Int} (h : x ∈ c.links) (g : af) (s : Sq) : dN (mkq c g s) x = some true := by
 have h1 := hc.links x h
 have h2 := hc.sites
 unfold dN
 show Option.bind (dM (decide (x ≤ 16)) (aY c.links x)) _ = _
 rw [sW h, decide_eq_true (by omega : x ≤ 16)]; rfl
theorem BB {c : aa} (hc : CR c) {x : Int} (h : x ∈ c.links) {q : Int} (hq : 0 < q) (g : af) (s : Sq) : bx (mkq c g s) ⟨x, q⟩ = some true := by
 unfold bx
 simp only
 rw [yG hc h, Option.bind_some, decide_eq_true hq]; rfl
theorem Bf {c : aa} (hc : CR c) {x : Int} (h : x ∈ c.links) (g : af) (s : Sq) : bw (mkq c g s) ⟨x⟩ = some true := by
 unfold bw
 simp only
 rw [yG hc h, Option.bind_some]
def acl (A : List az) (e : az) (x : Int) : List az := (A ++ [(⟨e.entry, mdel x e.want⟩ : az)]).filter (fun y => !(y.want.length == 0))
theorem Br {c : aa} {g : af} {s : Sq} {A : List az} {e : az} {x : Int} (hs : s.list = A ++ [e]) (hA : ∀ y ∈ A, y.entry.seq ≠ e.entry.seq) :
  aL (mkq c g s) ⟨x, e.entry.seq⟩ = some (mkq c g ⟨s.applied, s.under, acl A e x, s.next, s.gaps⟩) := by
 have hlen : (mkq c g s).list.length = A.length + 1 := by show s.list.length = _; rw [hs, List.length_append, List.length_singleton]
 unfold aL
 rw [hlen]
 refine oa (fun i o => o = mkq c g ⟨s.applied, s.under, if i ≤ A.length then A ++ [e] else A ++ [⟨e.entry, mdel x e.want⟩], s.next, s.gaps⟩) (fun o ho => ?_) (fun f i o hi ho hf => ?_) ?_
 ·rw [ho, if_neg (by omega)]; rfl
 ·rw [ho, if_pos (by omega)]
  unfold gX cO
  rw [aD (by show decide (i < (A ++ [e]).length) = true; rw [decide_eq_true_eq, List.length_append, List.length_singleton]; omega)]
  show (bif (gt (A ++ [e]) i).entry.seq == e.entry.seq then _ else _) = _
  rcases Nat.lt_or_ge i A.length with h | h
  ·have h1 : gt (A ++ [e]) i = A[i] := by rw [bz (by rw [List.length_append]; omega), List.getElem_append_left h]
   rw [h1, ax (by rw [beq_eq_false_iff_ne]; exact hA _ (List.getElem_mem h))]
   exact hf _ (by rw [if_pos (by omega)])
  ·obtain rfl : i = A.length := by omega
   have h1 : gt (A ++ [e]) A.length = e := by rw [bz (by simp)]; simp
   rw [h1, bm (by simp)]
   refine hf _ ?_
   rw [if_neg (by omega)]
   show mkq c g ⟨s.applied, s.under, (A ++ [e]).set A.length (aK.up (gt (A ++ [e]) A.length) (mdel x (gt (A ++ [e]) A.length).want)), s.next, s.gaps⟩ = _
   rw [h1, List.set_append_right _ _ (Nat.le_refl _)]
   simp
 ·rw [if_pos (Nat.zero_le _), ← hs]
theorem yq {r : Rec} (hr : aI r = some true ∧ ReOk r) : iv r = some r := by
 unfold iv hO
 rw [hr.1, Option.bind_some, show (!true) = false from rfl, ax rfl, uK hr.2, Option.bind_some, Option.bind_some]
 simp only
 rw [Az hr.2 hr.1]; rfl
theorem zO {c : aa} {g : af} {s : Sq} {A : List az} {e : az} {x : Int} (hs : s.list = A ++ [e]) (hA : ∀ y ∈ A, mget x y.want = none) (he : mget x e.want = some true) (hr : aI e.entry.rec_ = some true ∧ ReOk e.entry.rec_) (hro : e.entry.route.length ≤ lim) :
  dG (mkq c g s) x 1 = some [e.entry] := by
 have hlen : (mkq c g s).list.length = A.length + 1 := by show s.list.length = _; rw [hs, List.length_append, List.length_singleton]
 unfold dG
 rw [hlen]
 refine oa (fun i o => o = if i ≤ A.length then [] else [e.entry]) (fun o ho => ?_) (fun f i o hi ho hf => ?_) (by rw [if_pos (Nat.zero_le _)])
 ·rw [ho, if_neg (by omega)]
 ·rw [ho, if_pos (by omega)]
  unfold j3 dO
  have hql : (mkq c g s).list = A ++ [e] := hs
  rw [hql]
  rcases Nat.lt_or_ge i A.length with h | h
  ·have h1 : gt (A ++ [e]) i = A[i] := by rw [bz (by rw [List.length_append]; omega), List.getElem_append_left h]
   rw [h1, hA _ (List.getElem_mem h)]
   exact hf _ (by rw [if_pos (by omega)])
  ·obtain rfl : i = A.length := by omega
   have h1 : gt (A ++ [e]) A.length = e := by rw [bz (by simp)]; simp
   rw [h1, he, yq hr, tp hro]
   exact hf _ (by rw [if_neg (by omega)]; rfl)
end Fw
end Go.Proofs.YtlfmppjcgaekhaaGreat
namespace Go.Proofs.YtlfmppjcgaekhaaGreat
namespace Fw
set_option linter.unusedVariables false
set_option linter.unusedSimpArgs false
set_option linter.unusedSectionVars false
abbrev Mb := List (Int × Bool)
theorem vF {x : Int} : ∀ {m : Mb}, mget x m = none → (mput x true m).length = m.length + 1
 | [], _ => rfl
 | p :: m, h => by
  unfold mget at h
  unfold mput
  by_cases hx : x = p.1
  ·rw [if_pos hx] at h; cases h
  ·rw [if_neg hx] at h
   rw [if_neg hx, List.length_cons, List.length_cons, vF h]
theorem vH {x : Int} : ∀ {m : Mb}, mget x m = some true → mput x true m = m
 | [], h => by cases h
 | p :: m, h => by
  unfold mget at h
  unfold mput
  by_cases hx : x = p.1
  ·rw [if_pos hx] at h ⊢
   injection h with h
   rw [← h, hx]
  ·rw [if_neg hx] at h ⊢
   rw [vH h]
def lay (l : List Int) (m : Mb) : Mb := l.foldl (fun m x => mput x true m) m
theorem qC (x : Int) : ∀ (l : List Int) (m : Mb), mget x (lay l m) = if x ∈ l then some true else mget x m
 | [], m => by rw [if_neg (by simp)]; rfl
 | y :: l, m => by
  show mget x (lay l (mput y true m)) = _
  rw [qC x l, k8]
  by_cases h1 : x ∈ l
  ·rw [if_pos h1, if_pos (List.mem_cons_of_mem _ h1)]
  ·rw [if_neg h1]
   by_cases h2 : x = y
   ·rw [if_pos h2, if_pos (by rw [h2]; exact List.mem_cons_self)]
   ·rw [if_neg h2, if_neg (by rw [List.mem_cons]; exact fun h => h.elim h2 h1)]
theorem vr : ∀ (l : List Int) {m : Mb}, NK m → NK (lay l m)
 | [], m, h => h
 | y :: l, m, h => vr l (m := mput y true m) h.put
theorem tq : ∀ (l : List Int) {m : Mb}, l.Nodup → (∀ x ∈ l, mget x m = none) → (lay l m).length = m.length + l.length
 | [], m, _, _ => rfl
 | y :: l, m, hn, h => by
  rw [List.nodup_cons] at hn
  show (lay l (mput y true m)).length = _
  rw [tq l hn.2 (fun x hx => by
   rw [k8, if_neg (fun e => hn.1 (by rw [← e]; exact hx))]
   exact h x (List.mem_cons_of_mem _ hx)), vF (h y List.mem_cons_self), List.length_cons]; omega
theorem vG : ∀ (l : List Int) {m : Mb}, (∀ x ∈ l, mget x m = some true) → lay l m = m
 | [], m, _ => rfl
 | y :: l, m, h => by
  show lay l (mput y true m) = m
  rw [vH (h y List.mem_cons_self)]
  exact vG l fun x hx => h x (List.mem_cons_of_mem _ hx)
theorem og (m w : Mb) : putk m w = lay (w.map (·.1)) m := by
 unfold putk lay
 rw [List.foldl_map]
theorem vp (c : aa) : Wn c = lay c.links [] := rfl
theorem B6 {m : Mb} (h : ∀ x, mget x m = none) : m = [] := by
 cases m with
 | nil => rfl
 | cons p m =>
  have := h p.1
  unfold mget at this
  rw [if_pos rfl] at this; cases this
def Wr (c : aa) (x : Int) : Mb := mdel x (Wn c)
def Gp (c : aa) (x : Int) : Mb := putk [] (Wr c x)
section
variable {c : aa} {x : Int} (hc : CR c) (hx : x ∈ c.links)
include hc hx
theorem Wn_x : mget x (Wn c) = some true := by rw [vp, qC, if_pos hx]
theorem Ai : NK (Wn c) := vr c.links NK.nil
theorem BS : NK (Wr c x) := (Ai hc hx).del
theorem xI (y : Int) : mget y (Wr c x) = if y ≠ x ∧ y ∈ c.links then some true else none := by
 unfold Wr
 rw [k6 (Ai hc hx), vp, qC]
 by_cases h : y = x
 ·rw [if_pos h, if_neg (fun e => e.1 h)]
 ·rw [if_neg h]
  by_cases h2 : y ∈ c.links
  ·rw [if_pos h2, if_pos ⟨h, h2⟩]
  ·rw [if_neg h2, if_neg (fun e => h2 e.2)]; rfl
theorem Be : (Wr c x).length + 1 = c.links.length := by
 have := tu (x := x) (es := Wn c) (by rw [Wn_x hc hx]; rfl)
 unfold Wr
 rw [this, vp, tq c.links hc.nd (fun _ _ => rfl)]; simp
theorem vh (y : Int) : y ∈ (Wr c x).map (·.1) ↔ y ≠ x ∧ y ∈ c.links := by
 rw [← jB, xI hc hx]
 by_cases h : y ≠ x ∧ y ∈ c.links
 ·rw [if_pos h]; simp [h]
 ·rw [if_neg h]; simp [h]
theorem vz (y : Int) : mget y (Gp c x) = if y ≠ x ∧ y ∈ c.links then some true else none := by
 unfold Gp
 rw [og, qC]
 by_cases h : y ≠ x ∧ y ∈ c.links
 ·rw [if_pos ((vh hc hx y).2 h), if_pos h]
 ·rw [if_neg (fun e => h ((vh hc hx y).1 e)), if_neg h]; rfl
theorem AD : NK (Gp c x) := by unfold Gp; rw [og]; exact vr _ NK.nil
theorem xD : (Gp c x).length = (Wr c x).length := by
 unfold Gp
 rw [og, tq _ (BS hc hx) (fun _ _ => rfl)]; simp
theorem Bt : putk (Gp c x) (Wr c x) = Gp c x := by
 rw [og]
 exact vG _ fun y hy => by rw [vz hc hx, if_pos ((vh hc hx y).1 hy)]
end
structure PS (c : aa) (x : Int) (i : Nat) (s : Sq) : Prop where
 app : s.applied = qa c i
 und : s.under = none
 nxt : s.next = ((i + 1 : Nat) : Int)
 all : ∀ y ∈ s.list, y.want = Wr c x ∧ y.entry.seq ≤ i
 len : s.list.length = if (Wr c x).length = 0 then 0 else min i c.cap.toNat
 gap : s.gaps = if i ≤ c.cap.toNat then [] else Gp c x
def i1 (c : aa) (i : Nat) (s : Sq) : Sq := ⟨s.applied, some (rn c i), s.list, s.next, s.gaps⟩
theorem ps0 {c : aa} (hc : CR c) (x : Int) : PS c x 0 (s0 c) :=
 ⟨(qa_0 hc).symm, rfl, rfl, (fun y hy => by cases hy), (by show 0 = _; split <;> simp), by rw [if_pos (Nat.zero_le _)]; rfl⟩
section
variable {c : aa} {x : Int} (hc : CR c) (hx : x ∈ c.links)
include hc hx
theorem PS.did {i : Nat} {s : Sq} (h : PS c x i s) : ∃ A g, dn c i (i1 c i s) = ⟨qa c (i + 1), none, A ++ [en c i (Wn c)], ((i + 2 : Nat) : Int), g⟩ ∧ (∀ y ∈ A, y.want = Wr c x ∧ y.entry.seq ≤ i) ∧ ((A.length : Int) + 1 ≤ c.cap) ∧
  PS c x (i + 1) ⟨qa c (i + 1), none, acl A (en c i (Wn c)) x, ((i + 2 : Nat) : Int), g⟩ := by
 have hcap := hc.cap
 have hlen := h.len
 have hdl : dnl c i (i1 c i s) = s.list ++ [en c i (Wn c)] := rfl
 have last : ∀ (A : List az) (g : Mb), (∀ y ∈ A, y.want = Wr c x ∧ y.entry.seq ≤ i) → (A.length + 1 = if (Wr c x).length = 0 then 1 else min (i + 1) c.cap.toNat) → (g = if i + 1 ≤ c.cap.toNat then [] else Gp c x) →
   PS c x (i + 1) ⟨qa c (i + 1), none, acl A (en c i (Wn c)) x, ((i + 2 : Nat) : Int), g⟩ := by
  intro A g hA hl hg
  refine ⟨rfl, rfl, rfl, fun y hy => ?_, ?_, hg⟩
  ·unfold acl at hy
   rcases List.mem_append.1 (List.mem_filter.1 hy).1 with h1 | h1
   ·exact ⟨(hA y h1).1, by have := (hA y h1).2; omega⟩
   ·rw [List.mem_singleton.1 h1]
    exact ⟨rfl, by show ((i + 1 : Nat) : Int) ≤ _; omega⟩
  ·unfold acl
   by_cases h0 : (Wr c x).length = 0
   ·rw [if_pos h0] at hl ⊢
    have : A = [] := List.eq_nil_of_length_eq_zero (by omega)
    rw [this, List.nil_append, List.filter_cons_of_neg (by show ¬ (!((Wr c x).length == 0)) = true; rw [h0]; simp)]; rfl
   ·rw [if_neg h0] at hl ⊢
    rw [List.filter_eq_self.2, List.length_append, List.length_singleton, hl]
    intro y hy
    have hw : y.want = Wr c x := by
     rcases List.mem_append.1 hy with h1 | h1
     ·exact (hA y h1).1
     ·rw [List.mem_singleton.1 h1]; rfl
    rw [hw]; simpa using h0
 unfold dn
 rw [hdl, List.length_append, List.length_singleton]
 by_cases hcp : c.cap < ((s.list.length + 1 : Nat) : Int)
 ·rw [if_pos hcp]
  have h0 : ¬ (Wr c x).length = 0 := fun e => by rw [if_pos e] at hlen; omega
  rw [if_neg h0] at hlen
  obtain ⟨y, A, hyA⟩ : ∃ y A, s.list = y :: A := by
   cases hs : s.list with
   | nil => exfalso; rw [hs] at hcp; have : c.cap < ((0 + 1 : Nat) : Int) := hcp; omega
   | cons y A => exact ⟨y, A, rfl⟩
  have hA : ∀ z ∈ A, z.want = Wr c x ∧ z.entry.seq ≤ i := fun z hz => h.all z (by rw [hyA]; exact List.mem_cons_of_mem _ hz)
  have hal : A.length + 1 = s.list.length := by rw [hyA]; rfl
  have hgt : gt (s.list ++ [en c i (Wn c)]) 0 = y := by rw [hyA]; rfl
  have hg : putk s.gaps (Wr c x) = if i + 1 ≤ c.cap.toNat then [] else Gp c x := by
   rw [if_neg (by omega), h.gap]
   by_cases hi : i ≤ c.cap.toNat
   ·rw [if_pos hi]; rfl
   ·rw [if_neg hi]; exact Bt hc hx
  refine ⟨A, putk s.gaps (Wr c x), ?_, hA, by omega, last A _ hA (by rw [if_neg h0]; omega) hg⟩
  rw [hgt, (h.all y (by rw [hyA]; exact List.mem_cons_self)).1, hyA]; rfl
 ·rw [if_neg hcp]
  refine ⟨s.list, s.gaps, rfl, h.all, by omega, last s.list _ h.all ?_ ?_⟩
  ·by_cases h0 : (Wr c x).length = 0
   ·rw [if_pos h0] at hlen ⊢; omega
   ·rw [if_neg h0] at hlen ⊢; omega
  ·rw [h.gap]
   by_cases h0 : (Wr c x).length = 0
   ·have e : Gp c x = [] := by
     have h1 : Wr c x = [] := List.eq_nil_of_length_eq_zero h0
     unfold Gp; rw [h1]; rfl
    rw [e]; split <;> split <;> rfl
   ·rw [if_neg h0] at hlen
    rw [if_pos (by omega), if_pos (by omega)]
end
end Fw
end Go.Proofs.YtlfmppjcgaekhaaGreat
namespace Go.Proofs.YtlfmppjcgaekhaaGreat
namespace Fw
set_option linter.unusedVariables false
set_option linter.unusedSimpArgs false
set_option linter.unusedSectionVars false
theorem yl {c : aa} {i : Nat} (h : ReOk (rn c i)) : (reB (rn c i)).length ≤ 100 := by
 have hv := h.vers _ (List.mem_cons_self (l := []))
 have h1 := bo (n := c.self) (by have := hv.s.2; simp only at this; omega)
 have h2 := bo (n := c.base + ((i + 1 : Nat) : Int)) hv.n.2
 have h3 := bo (n := 1) (by omega)
 have h4 := bo (n := 0) (by omega)
 unfold reB rn rc vesB veB spsB txB
 simp only [List.map_cons, List.map_nil, List.flatten_cons, List.flatten_nil, cond_false, List.length_append, List.length_nil, List.length_cons]
 rw [show (((⟨#[107]⟩ : ByteArray).size : Nat) : Int) = 1 from rfl, show (((⟨#[118]⟩ : ByteArray).size : Nat) : Int) = 1 from rfl, show ((0 : Nat) : Int) = 0 from rfl, show ((0 + 1 : Nat) : Int) = 1 from rfl]
 omega
theorem vY {c : aa} {g : af} {s : Sq} {r : Rec} (hu : s.under = some r) (hr : aI r = some true ∧ ReOk r) : bF (mkq c g s) = some (r, true) := by
 have h1 : (mkq c g s).under = some r := hu
 unfold bF
 rw [h1]
 show chk true (Option.bind (iv r) _) = _
 rw [yq hr]; rfl
section
variable {c : aa} (hc : CR c) (hb : c.base ≤ 2305843009213693952) {N : Nat} {d : a7} {L : List (List UInt8)} {s : Sq}
include hc hb
theorem zL (h : QI c N d L s) (hN : N < 1000) {i : Nat} (hi : i < 100) (ha : s.applied = qa c i) (hu : s.under = none) :
  ∃ d' L', bX (mkq c (gl L) s) ⟨#[107]⟩ [] false ⟨#[118]⟩ d = some (mkq c (gl L') (i1 c i s), d', gt (rn c i).vers 0, 0) ∧ QI c (N + 1) d' L' (i1 c i s) := by
 have h1 := hc.self
 have h2 := hc.sites
 have h3 := hc.base
 have hr := rn_d hc hb hi
 have hl := yl hr.2
 have hp := bo (n := 1) (by omega)
 obtain ⟨d', a1, a2⟩ := B4 h hN (xr hr) (Af hr) (by unfold isB; rw [List.length_append]; omega) (fun g => Bv hc hb hi ha hu)
 refine ⟨d', L ++ [isB (rn c i)], ?_, a2⟩
 unfold bX
 have e1 : (mkq c (gl L) s).under = none := hu
 have e2 : (mkq c (gl L) s).applied = qa c i := ha
 rw [e1, e2, ax (by rfl)]
 show Option.bind (fg (qa c i) c.self) _ = _
 rw [tA hc hb hi, Option.bind_some]
 simp only
 rw [ax (by decide), aD (by unfold i64b; rw [Bool.and_eq_true, decide_eq_true_eq, decide_eq_true_eq]; omega), aD (by unfold i64b; rw [Bool.and_eq_true, decide_eq_true_eq, decide_eq_true_eq]; omega)]
 show Option.bind (cY (mkq c (gl L) s) ⟨rn c i⟩ true d) _ = _
 rw [a1, Option.bind_some]
 simp only
 rw [ax (by decide)]
 show Option.bind (bF (mkq c (gl (L ++ [isB (rn c i)])) (i1 c i s))) _ = _
 rw [vY (s := i1 c i s) rfl hr, Option.bind_some]
 rfl
variable (hl : c.links ≠ [])
include hl
theorem BO (h : QI c N d L s) (hN : N < 1000) {i : Nat} (hi : i < 100) (ha : s.applied = qa c i) (hu : s.under = some (rn c i)) (hn : s.next = ((i + 1 : Nat) : Int)) (hs : s.list.length + 1 ≤ lim) :
  ∃ d' L', d7 (mkq c (gl L) s) (rn c i) [c.self] d = some (mkq c (gl L') (dn c i s), d', 0) ∧ QI c (N + 1) d' L' (dn c i s) := by
 have h1 := hc.self
 have h2 := hc.sites
 have hr := rn_d hc hb hi
 have hle := yl hr.2
 have hp := bo (n := 2) (by omega)
 have hp1 := bo (n := 1) (by omega)
 have hp2 := bo (n := c.self) (by omega)
 have hm : ∀ x ∈ [c.self], 0 ≤ x ∧ x ≤ 4611686018427387904 := fun x hx => by rw [List.mem_singleton.1 hx]; omega
 obtain ⟨d', a1, a2⟩ := Bj h hN (xO hr (by simp) hm) (zY hr (by simp) hm) (by
  unfold diB
  simp only [List.length_append, List.map_cons, List.map_nil, List.flatten_cons, List.flatten_nil, List.length_nil, List.length_cons]
  rw [show ((0 + 1 : Nat) : Int) = 1 from rfl]; omega) (fun g => ⟨AN hc hb hi ha hu hn, Bp hc hb hl hi ha hn hs⟩)
 refine ⟨d', _, ?_, a2⟩
 unfold d7
 show Option.bind (cp (mkq c (gl L) s) ⟨[c.self], rn c i⟩ true d) _ = _
 rw [a1]; rfl
omit hl in
theorem C1 (h : QI c N d L s) (hN : N < 1000) {i : Nat} (hi : i < 100) {x : Int} (hx : x ∈ c.links) {A : List az} (hs : s.list = A ++ [en c i (Wn c)]) (hA : ∀ y ∈ A, y.entry.seq ≤ i) :
  ∃ d' L', da (mkq c (gl L) s) x ((i + 1 : Nat) : Int) d = some (mkq c (gl L') ⟨s.applied, s.under, acl A (en c i (Wn c)) x, s.next, s.gaps⟩, d', true) ∧ QI c (N + 1) d' L' ⟨s.applied, s.under, acl A (en c i (Wn c)) x, s.next, s.gaps⟩ := by
 have h1 := hc.links x hx
 have h2 := hc.sites
 have hp := bo (n := 4) (by omega)
 have hp1 := bo (n := x) (by omega)
 have hp2 := bo (n := ((i + 1 : Nat) : Int)) (by omega)
 have hne : ∀ y ∈ A, y.entry.seq ≠ (en c i (Wn c)).entry.seq := fun y hy => by have := hA y hy; show y.entry.seq ≠ ((i + 1 : Nat) : Int); omega
 obtain ⟨d', a1, a2⟩ := Bz h hN (yC (a := x) (b := ((i + 1 : Nat) : Int)) (by omega) (by omega)) (Ac (by omega) (by omega)) (by unfold acB; simp only [List.length_append]; omega) (fun g => ⟨BB hc hx (by omega) g s, Br hs hne⟩)
 refine ⟨d', _, ?_, a2⟩
 have hlen : (mkq c (gl L) s).list.length = A.length + 1 := by show s.list.length = _; rw [hs, List.length_append, List.length_singleton]
 have hql : (mkq c (gl L) s).list = A ++ [en c i (Wn c)] := hs
 unfold da
 rw [hlen]
 refine oa (fun j _ => j ≤ A.length) (fun _ ho => by omega) (fun f j o hj ho hf => ?_) (Nat.zero_le _)
 unfold jD
 rw [hql]
 rcases Nat.lt_or_ge j A.length with hh | hh
 ·have h3 : gt (A ++ [en c i (Wn c)]) j = A[j] := by rw [bz (by rw [List.length_append]; omega), List.getElem_append_left hh]
  rw [h3, ax (by
   have : (A[j].entry.seq == ((i + 1 : Nat) : Int)) = false := by rw [beq_eq_false_iff_ne]; exact hne _ (List.getElem_mem hh)
   rw [this]; rfl)]
  exact hf () (by omega)
 ·obtain rfl : j = A.length := by omega
  have h3 : gt (A ++ [en c i (Wn c)]) A.length = en c i (Wn c) := by rw [bz (by simp)]; simp
  rw [h3, bm (by
   show ((((i + 1 : Nat) : Int) == ((i + 1 : Nat) : Int)) && ((mget x (Wn c)).getD false)) = true
   rw [Wn_x hc hx]; simp)]
  rw [a1]; rfl
end
end Fw
end Go.Proofs.YtlfmppjcgaekhaaGreat
namespace Go.Proofs.YtlfmppjcgaekhaaGreat
namespace Fw
set_option linter.unusedVariables false
set_option linter.unusedSimpArgs false
set_option linter.unusedSectionVars false
section
variable {c : aa} (hc : CR c) (hb : c.base ≤ 2305843009213693952) (h60 : c.cap ≤ 60) (hl : c.links ≠ [])
include hc hb h60 hl
theorem round {acked : Int} {x : Int} (hx : x ∈ c.links) (hxe : gt c.links (((w64 acked).tmod ((c.links.length : Nat) : Int)).toNat) = x) {i : Nat} (hi : i < 100) {d : a7} {L : List (List UInt8)} {s : Sq} (h : QI c (3 * i) d L s) (hp : PS c x i s) (f : a7 × a6 → Option Bool) (j : Nat) :
  ∃ d' L' s', dU c acked f j (d, mkq c (gl L) s) = f (d', mkq c (gl L') s') ∧ QI c (3 * (i + 1)) d' L' s' ∧ PS c x (i + 1) s' := by
 have hcap := hc.cap
 have hr := rn_d hc hb hi
 obtain ⟨d1, L1, a1, a2⟩ := zL hc hb h (by omega) hi hp.app hp.und
 have hsl : s.list.length ≤ 60 := by
  rw [hp.len]
  split <;> omega
 obtain ⟨d2, L2, b1, b2⟩ := BO hc hb hl a2 (by omega) hi hp.app rfl hp.nxt (by rw [aJ]; show s.list.length + 1 ≤ _; omega)
 obtain ⟨A, g, e1, e2, e3, e4⟩ := PS.did hc hx hp
 rw [e1] at b1 b2
 obtain ⟨d3, L3, c1, c2⟩ := C1 hc hb b2 (by omega) hi hx (A := A) rfl (fun y hy => (e2 y hy).2)
 refine ⟨d3, L3, _, ?_, c2, e4⟩
 have hnx := zO (c := c) (g := gl L2) (s := ⟨qa c (i + 1), none, A ++ [en c i (Wn c)], ((i + 2 : Nat) : Int), g⟩) (x := x) (e := en c i (Wn c)) rfl (fun y hy => by rw [(e2 y hy).1, xI hc hx, if_neg (fun q => q.1 rfl)]) (Wn_x hc hx) hr (by rw [aJ]; show 1 ≤ _; omega)
 unfold dU
 simp only
 rw [a1, Option.bind_some]
 simp only
 rw [vY (s := i1 c i s) rfl hr, Option.bind_some, bm (by rfl)]
 simp only
 rw [b1, Option.bind_some]
 simp only
 rw [bm (by decide)]
 show (bif decide (c.cap < (((A ++ [en c i (Wn c)]).length : Nat) : Int)) then some false else _) = _
 rw [ax (by rw [decide_eq_false_iff_not, List.length_append, List.length_singleton]; omega), hxe, hnx, Option.bind_some, bm (by rfl), aD (by rfl)]
 show Option.bind (da _ x ((i + 1 : Nat) : Int) d2) _ = _
 rw [c1, Option.bind_some]
 rfl
omit hb h60 hl in
theorem AR {N : Nat} {d : a7} {L : List (List UInt8)} {s : Sq} (h : QI c N d L s) (hN : N < 1000) {x : Int} (hx : x ∈ c.links) (hg : mget x s.gaps = some true) :
  ∃ d' L', dg (mkq c (gl L) s) x d = some (mkq c (gl L') ⟨s.applied, s.under, s.list, s.next, mdel x s.gaps⟩, d', 0) ∧ QI c (N + 1) d' L' ⟨s.applied, s.under, s.list, s.next, mdel x s.gaps⟩ := by
 have h1 := hc.links x hx
 have h2 := hc.sites
 have hp := bo (n := 5) (by omega)
 have hp1 := bo (n := x) (by omega)
 obtain ⟨d', a1, a2⟩ := B9 h hN (xT (a := x) (by omega)) (zn (by omega)) (by unfold clB; simp only [List.length_append]; omega) (s' := ⟨s.applied, s.under, s.list, s.next, mdel x s.gaps⟩) (fun g => ⟨Bf hc hx g s, rfl⟩)
 refine ⟨d', _, ?_, a2⟩
 unfold dg
 have e : (mkq c (gl L) s).gaps = s.gaps := rfl
 rw [e, hg, ax (by decide), a1]; rfl
omit hb h60 hl in
theorem td {acked : Int} {x : Int} (hxe : gt c.links (((w64 acked).tmod ((c.links.length : Nat) : Int)).toNat) = x) {N : Nat} {d : a7} {L : List (List UInt8)} {s : Sq} (h : QI c N d L s) (hN : N < 500) (l : List Int) (hnd : l.Nodup) (hll : l.length ≤ 100) (hm : ∀ y ∈ l, y ∈ c.links ∧ y ≠ x)
  (hnk : NK s.gaps) (hg : ∀ y, mget y s.gaps = if y ∈ l then some true else none) (z : a7 × Option a6 × Int) (hz : z.1 = d) : bW c acked z (mkq c (gl L) s) l ((l.length : Nat) : Int) = some true := by
 unfold bW
 rw [ax (by simp), hz]
 refine mz (fun j (o : a6 × a7) => ∃ L s, o.1 = mkq c (gl L) s ∧ QI c (N + j) o.2 L s ∧ NK s.gaps ∧ ∀ y, mget y s.gaps = if y ∈ l.drop j then some true else none) ?_ ?_ ⟨L, s, rfl, h, hnk, by rw [List.drop_zero]; exact hg⟩
 ·rintro ⟨q, e⟩ ⟨L2, s2, rfl, h2, _, h3⟩
  simp only at h2 h3 ⊢
  have hgn : s2.gaps = [] := B6 fun y => by rw [h3, List.drop_length, if_neg (by simp)]
  rw [h2.reopen hc (by omega), Option.bind_some]
  show Option.bind (bL (mkq c (gl L2) s2)) _ = _
  unfold bL
  have e2 : (mkq c (gl L2) s2).gaps = [] := hgn
  rw [e2]
  rfl
 ·rintro f j ⟨q, e⟩ hj ⟨L2, s2, rfl, h2, hk2, h3⟩ hf
  simp only at h2 h3 hk2
  have hmj : gt l j ∈ l := vK hj
  have hmm := hm _ hmj
  have hdr : l.drop j = gt l j :: l.drop (j + 1) := js hj
  have hnd2 : (gt l j :: l.drop (j + 1)).Nodup := by rw [← hdr]; exact hnd.sublist (List.drop_sublist _ _)
  rw [List.nodup_cons] at hnd2
  obtain ⟨d', L', a1, a2⟩ := AR hc h2 (by omega) hmm.1 (by rw [h3, hdr, if_pos List.mem_cons_self])
  unfold gW
  simp only
  rw [hxe, bm (by simpa using hmm.2), a1, Option.bind_some]
  simp only
  rw [ax (by decide)]
  refine hf _ ⟨L', _, rfl, a2, hk2.del, fun y => ?_⟩
  rw [k6 hk2, h3, hdr]
  by_cases hy : y = gt l j
  ·rw [if_pos hy, if_neg (by rw [hy]; exact hnd2.1)]
  ·rw [if_neg hy]
   by_cases hy2 : y ∈ l.drop (j + 1)
   ·rw [if_pos hy2, if_pos (List.mem_cons_of_mem _ hy2)]
   ·rw [if_neg hy2, if_neg (by rw [List.mem_cons]; exact fun q => q.elim hy hy2)]
end
theorem C5 {m : Mb} (h : NK m) : (gC m).Nodup := by
 rw [mi]
 exact (List.mergeSort_perm _ _).nodup_iff.2 h
theorem Ba {m : Mb} {y : Int} : y ∈ gC m ↔ y ∈ m.map (·.1) := by
 rw [mi, List.mem_mergeSort]
theorem lD {Γ : Gh} {Ac_2 : Option Addr} {cc_2 : Nat} {Ac_5 : Option Addr} {cc_5 : Nat} (c_ : aa) (hc_ : aa.fits Γ Ac_2 cc_2 Ac_5 cc_5 c_) (n : Int) (hn : U8 n) (acked : Int) (hacked : U8 acked) : fo c_ n acked = some true := by
 have hl1 : c_.links.length ≤ lim := hc_.2.2.1.2.le_
 have hl2 : c_.members.length ≤ lim := hc_.2.2.2.2.2.2.le_
 unfold fo
 rw [wS, Option.bind_some, bm (by decide)]
 show Option.bind (dL ⟨c_.self, c_.sites, c_.links, c_.cap, c_.base, c_.members⟩) _ = _
 obtain ⟨b, b1, b2⟩ := xd hl1 hl2
 rw [b1, Option.bind_some]
 cases hg : (((!b) || (decide (60 < c_.cap))) || (decide (2305843009213693952 < c_.base))) || (((c_.links.length : Nat) : Int) == 0) with
 | true => rfl
 | false =>
  simp only [Bool.or_eq_false_iff, decide_eq_false_iff_not, beq_eq_false_iff_ne, Bool.not_eq_false'] at hg
  obtain ⟨⟨⟨rfl, g2⟩, g3⟩, g4⟩ := hg
  obtain ⟨hc, _⟩ := b2 rfl
  have hcap := hc.cap
  have hll := hc.ll
  have hlp : 0 < c_.links.length := by omega
  have hl : c_.links ≠ [] := List.length_pos_iff.1 hlp
  have hn2 : w64 acked = acked := bM (by unfold I64; omega)
  have hA0 : 0 ≤ acked.tmod ((c_.links.length : Nat) : Int) := Int.tmod_nonneg _ hacked.1
  have hA1 : acked.tmod ((c_.links.length : Nat) : Int) < ((c_.links.length : Nat) : Int) := Int.tmod_lt_of_pos _ (by omega)
  have hN0 : 0 ≤ n.tmod 90 := Int.tmod_nonneg _ hn.1
  have hN1 : n.tmod 90 < 90 := Int.tmod_lt_of_pos _ (by omega)
  have hnw : w64 (n.tmod 90) = n.tmod 90 := bM (by unfold I64; omega)
  obtain ⟨x, hxe⟩ : ∃ x, gt c_.links (((w64 acked).tmod ((c_.links.length : Nat) : Int)).toNat) = x := ⟨_, rfl⟩
  have hx : x ∈ c_.links := by rw [← hxe, hn2]; exact vK (by omega)
  rw [ax rfl, Ce, Option.bind_some, (qi0 c_).reopen hc (by omega), Option.bind_some]
  simp only
  rw [ax (by rfl), Option.bind_some, aD (by rw [bne_iff_ne]; exact g4), aD (by unfold inb; rw [hn2, Bool.and_eq_true, decide_eq_true_eq, decide_eq_true_eq]; exact ⟨hA0, hA1⟩)]
  refine oa (fun j (o : a7 × a6) => ∃ L s, o.2 = mkq c_ (gl L) s ∧ QI c_ (3 * j) o.1 L s ∧ PS c_ x j s) ?_ ?_ ⟨[], s0 c_, rfl, qi0 c_, ps0 hc x⟩
  ·rintro ⟨d, q⟩ ⟨L, s, rfl, h, hp⟩
   simp only at h ⊢
   have hK : (w64 (n.tmod 90)).toNat < 90 := by rw [hnw]; omega
   rw [qS, Option.bind_some, zz h.sync.di xw, Option.bind_some, tz h.sync.di rfl, h.sync.reopen hc (by omega), Option.bind_some]
   simp only
   rw [ax (by rfl), Option.bind_some]
   unfold bL
   have e : (mkq c_ (gl L) s).gaps = s.gaps := rfl
   have hwl := Be hc hx
   rw [e]
   by_cases hcp : w64 (n.tmod 90) ≤ c_.cap
   ·have hgn : s.gaps = [] := by rw [hp.gap, if_pos (by omega)]
    rw [hgn, aD (by rw [aJ]; decide), Option.bind_some, decide_eq_true hcp, bm rfl]
    exact td hc hxe h.sync (by omega) [] (by simp) (by simp) (fun y hy => by cases hy) (by rw [hgn]; exact NK.nil) (fun y => by rw [hgn, if_neg (by simp)]; rfl) _ rfl
   ·have hgn : s.gaps = Gp c_ x := by rw [hp.gap, if_neg (by omega)]
    have hlen : (gC (Gp c_ x)).length = c_.links.length - 1 := by rw [pM, xD hc hx]; omega
    rw [hgn, aD (by rw [decide_eq_true_eq, aJ, xD hc hx]; omega), Option.bind_some, decide_eq_false hcp, ax rfl]
    have hw : w64 (((c_.links.length : Nat) : Int) - 1) = (((gC (Gp c_ x)).length : Nat) : Int) := by rw [hlen, bM (by unfold I64; omega)]; omega
    rw [hw]
    have hkey : ∀ y, y ∈ gC (Gp c_ x) ↔ y ≠ x ∧ y ∈ c_.links := fun y => by
     rw [Ba, ← jB, vz hc hx]
     by_cases hq : y ≠ x ∧ y ∈ c_.links
     ·rw [if_pos hq]; simp [hq]
     ·rw [if_neg hq]; simp [hq]
    exact td hc hxe h.sync (by omega) _ (C5 (AD hc hx)) (by omega) (fun y hy => ⟨((hkey y).1 hy).2, ((hkey y).1 hy).1⟩) (by rw [hgn]; exact AD hc hx) (fun y => by
     rw [hgn, vz hc hx]
     by_cases hq : y ≠ x ∧ y ∈ c_.links
     ·rw [if_pos hq, if_pos ((hkey y).2 hq)]
     ·rw [if_neg hq, if_neg (fun e => hq ((hkey y).1 e))]) _ rfl
  ·rintro f j ⟨d, q⟩ hj ⟨L, s, rfl, h, hp⟩ hf
   simp only at h
   have hK : (w64 (n.tmod 90)).toNat < 90 := by rw [hnw]; omega
   obtain ⟨d', L', s', a1, a2, a3⟩ := round hc (by omega) (by omega) hl hx hxe (by omega) h hp f j
   rw [a1]
   exact hf _ ⟨L', s', rfl, a2, a3⟩
end Fw
end Go.Proofs.YtlfmppjcgaekhaaGreat
