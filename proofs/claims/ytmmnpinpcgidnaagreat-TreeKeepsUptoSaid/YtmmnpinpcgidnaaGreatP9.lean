/- Trees: what is in them, what is laid, the records beneath a path. No condition. -/
import Derived.Test.YtmmnpinpcgidnaaGreatP8
namespace Go.Proofs.YtmmnpinpcgidnaaGreat
namespace Fw
set_option linter.unusedVariables false
set_option linter.unusedSimpArgs false
set_option linter.unusedSectionVars false

/-! ### places of keys, paths -/
def ix (k : ByteArray) : Nat := pa k * 16 + pb k
theorem ix_lt (k : ByteArray) : ix k < 256 := by have := pa_lt k; have := pb_lt k; unfold ix; omega
theorem ix_eq {k : ByteArray} {p q : Nat} (hq : q < 16) : ix k = p * 16 + q ↔ pa k = p ∧ pb k = q := by have := pb_lt k; unfold ix; omega
def inP (path : List Int) (r : Rec) : Bool := match path with
  | [] => true
  | [a] => a == ((pa r.key : Nat) : Int)
  | [a, b] => a == ((pa r.key : Nat) : Int) && b == ((pb r.key : Nat) : Int)
  | _ => false
theorem inP_key {path : List Int} {r x : Rec} (h : r.key = x.key) : inP path r = inP path x := by unfold inP; rw [h]

/-! ### the hashes -/
def hs2 (all : List Rec) (a b : Int) : Int := bif (all.filter (inP [a, b])).isEmpty then 0 else hashB ((all.filter (inP [a, b])).flatMap (fun r => hv (hashB (markB r.key r.vers))))
def hs1 (all : List Rec) (a : Int) : Int := bif (all.filter (inP [a])).isEmpty then 0 else hashB ((List.range 16).flatMap (fun d : Nat => hv (hs2 all a ((d : Nat) : Int))))
def hs0 (all : List Rec) : Int := bif all.isEmpty then 0 else hashB ((List.range 16).flatMap (fun d : Nat => hv (hs1 all ((d : Nat) : Int))))
def Hs (all : List Rec) (path : List Int) : Int := match path with
  | [] => hs0 all
  | [a] => hs1 all a
  | [a, b] => hs2 all a b
  | _ => 0

/-! ### a tree that holds these records -/
def leafAt (o : OTree) (i : Nat) : List (ByteArray × Rec) := (gt o.leaves i).getD []
structure Good (o : OTree) (all : List Rec) : Prop where
  len : o.leaves.length = 256
  srt : SR all
  ok : ∀ r ∈ all, RecOk r ∧ rr r = true ∧ r.vers ≠ []
  nk : ∀ i, i < 256 → ((leafAt o i).map (·.1)).Nodup
  mem : ∀ i, i < 256 → ∀ p, p ∈ leafAt o i ↔ (p.1 = p.2.key ∧ p.2 ∈ all ∧ ix p.2.key = i)
  sk : (o.sums.map (·.1)).Nodup
  sums : ∀ p ∈ o.sums, ∃ path, okP path = true ∧ p.1 = ((path.length : Int), gt path 0, gt path 1) ∧ p.2 = Hs all path
def t0 : OTree := ⟨List.replicate 256 none, []⟩
theorem t0_leaf {i : Nat} (hi : i < 256) : leafAt t0 i = [] := by
  have h : ∀ n, i < n → gt (List.replicate n (none : Option (List (ByteArray × Rec)))) i = none := fun n h => by
    rw [gt_eq (by rw [List.length_replicate]; exact h), List.getElem_replicate]
  show (gt (List.replicate 256 (none : Option (List (ByteArray × Rec)))) i).getD [] = []
  rw [h 256 hi]; rfl
theorem good0 : Good t0 [] where
  len := List.length_replicate
  srt := List.Pairwise.nil
  ok := fun r h => absurd h List.not_mem_nil
  nk := fun i hi => by rw [t0_leaf hi]; exact List.nodup_nil
  mem := fun i hi p => by
    rw [t0_leaf hi]
    exact ⟨fun h => absurd h List.not_mem_nil, fun h => absurd h.2.1 List.not_mem_nil⟩
  sk := List.nodup_nil
  sums := fun p h => absurd h List.not_mem_nil
def setL (o : OTree) (r : Rec) : List (ByteArray × Rec) := bif decide (0 < r.vers.length) then mput r.key r (mdel r.key (leafAt o (ix r.key))) else mdel r.key (leafAt o (ix r.key))
def setP (o : OTree) (r : Rec) : OTree :=
  ⟨o.leaves.set (ix r.key) (some (setL o r)), mdel (2, ((pa r.key : Nat) : Int), ((pb r.key : Nat) : Int)) (mdel (1, ((pa r.key : Nat) : Int), 0) (mdel (0, 0, 0) o.sums))⟩
theorem inb16 {n : Nat} (h : n < 16) : inb ((n : Nat) : Int) 16 = true := by unfold inb; simp; omega
theorem gt_set {α : Type} [Inhabited α] {l : List α} {i : Nat} {x : α} (h : i < l.length) : gt (l.set i x) i = x := by rw [gt_eq (by simpa using h)]; simp
theorem gt_set_ne {α : Type} [Inhabited α] {l : List α} {i j : Nat} {x : α} (h : i ≠ j) : gt (l.set i x) j = gt l j := by
  unfold gt; simp [List.getD, List.getElem?_set_ne h]
theorem e_Set_j {o : OTree} {r : Rec} {z : List Int} {a b : Nat} {es : List (ByteArray × Rec)} (h : RecOk r) (g0 : gt z 0 = (a : Int)) (g1 : gt z 1 = (b : Int)) (hlt : a * 16 + b < o.leaves.length) (he : gt o.leaves (a * 16 + b) = some es) :
    m_tree_Tree_Set_j1 r z o = some (⟨o.leaves.set (a * 16 + b) (some (bif decide (0 < r.vers.length) then mput r.key r (mdel r.key es) else mdel r.key es)), mdel (2, (a : Int), (b : Int)) (mdel (1, (a : Int), 0) (mdel (0, 0, 0) o.sums))⟩, 0) := by
  unfold m_tree_Tree_Set_j1 m_tree_Tree_Set_j2
  rw [g0, g1, show 0 + ((a : Nat) : Int).toNat * 16 + ((b : Nat) : Int).toNat * 1 = a * 16 + b by rw [Int.toNat_natCast, Int.toNat_natCast]; omega, he, Option.bind_some]
  have hd : decide (0 < ((r.vers.length : Nat) : Int)) = decide (0 < r.vers.length) := by rw [Bool.eq_iff_iff, decide_eq_true_eq, decide_eq_true_eq]; omega
  rw [hd]
  cases decide (0 < r.vers.length) with
  | true =>
    rw [cond_true, cond_true, gt_set hlt, Option.bind_some, e_own h, Option.bind_some, List.set_set]
  | false => rw [cond_false, cond_false]
theorem e_Set_z {o : OTree} {r : Rec} {z : List Int} {a b : Nat} (h : RecOk r) (hrr : rr r = true) (hz : m_tree_Place r.key = some z) (hzl : z.length = 2) (g0 : gt z 0 = (a : Int)) (g1 : gt z 1 = (b : Int)) (ha : a < 16) (hb : b < 16) (hl : o.leaves.length = 256) :
    m_tree_Tree_Set o r = some (⟨o.leaves.set (a * 16 + b) (some (bif decide (0 < r.vers.length) then mput r.key r (mdel r.key ((gt o.leaves (a * 16 + b)).getD [])) else mdel r.key ((gt o.leaves (a * 16 + b)).getD []))), mdel (2, (a : Int), (b : Int)) (mdel (1, (a : Int), 0) (mdel (0, 0, 0) o.sums))⟩, 0) := by
  unfold m_tree_Tree_Set
  rw [e_cRec h, Option.bind_some, hrr, Bool.not_true, cond_false, hz, Option.bind_some, hzl, chk_t (decide_eq_true (by omega)), chk_t (decide_eq_true (by omega)), g0, g1, chk_t (inb16 ha), chk_t (inb16 hb),
    show 0 + ((a : Nat) : Int).toNat * 16 + ((b : Nat) : Int).toNat * 1 = a * 16 + b by rw [Int.toNat_natCast, Int.toNat_natCast]; omega]
  have hlt : a * 16 + b < o.leaves.length := by omega
  cases hg : gt o.leaves (a * 16 + b) with
  | none =>
    rw [Option.isNone_none, cond_true, e_Set_j (es := []) h g0 g1 (by rw [List.length_set]; exact hlt) (gt_set hlt)]
    rw [List.set_set, Option.getD_none]
  | some es =>
    rw [Option.isNone_some, cond_false, e_Set_j h g0 g1 hlt hg, Option.getD_some]
theorem e_Set {o : OTree} {r : Rec} (hl : o.leaves.length = 256) (h : RecOk r) : m_tree_Tree_Set o r = some (bif rr r then (setP o r, 0) else (o, 1)) := by
  cases hr : rr r with
  | false =>
    unfold m_tree_Tree_Set
    rw [e_cRec h, Option.bind_some, hr, Bool.not_false, cond_true, cond_false]
  | true =>
    rw [e_Set_z h hr (e_Place _) rfl rfl rfl (pa_lt _) (pb_lt _) hl, cond_true]
    rfl

/-! ### what laying a record turns -/
theorem filt_same {all : List Rec} {r : Rec} {path : List Int} (hs : SR all) (h : inP path r = false) : (withr all r).filter (inP path) = all.filter (inP path) := by
  refine sr_ext (sr_filter _ (sr_withr hs)) (sr_filter _ hs) fun x => ?_
  simp only [List.mem_filter, mem_withr]
  constructor
  · rintro ⟨⟨rfl, _⟩ | ⟨h1, _⟩, h2⟩
    · rw [h] at h2; cases h2
    · exact ⟨h1, h2⟩
  · rintro ⟨h1, h2⟩
    exact ⟨.inr ⟨h1, fun e => by rw [inP_key e, h] at h2; cases h2⟩, h2⟩
theorem inP_2 {a b : Int} {r : Rec} (h : inP [a] r = false) : inP [a, b] r = false := by
  simp only [inP] at *
  rw [h]; rfl
theorem hs1_same {all : List Rec} {r : Rec} {a : Int} (hs : SR all) (h : inP [a] r = false) : hs1 (withr all r) a = hs1 all a := by
  unfold hs1 hs2
  rw [filt_same hs h]
  simp only [filt_same hs (inP_2 h)]
theorem Hs_same {all : List Rec} {r : Rec} {path : List Int} (hs : SR all) (h : inP path r = false) : Hs (withr all r) path = Hs all path := by
  unfold Hs
  split
  · simp [inP] at h
  · exact hs1_same hs h
  · unfold hs2; rw [filt_same hs h]
  · rfl
theorem key_inP {path : List Int} (ho : okP path = true) {r : Rec} (h0 : ((path.length : Int), gt path 0, gt path 1) ≠ (0, 0, 0)) (h1 : ((path.length : Int), gt path 0, gt path 1) ≠ (1, ((pa r.key : Nat) : Int), 0)) (h2 : ((path.length : Int), gt path 0, gt path 1) ≠ (2, ((pa r.key : Nat) : Int), ((pb r.key : Nat) : Int))) : inP path r = false := by
  match path with
  | [] => exact absurd rfl h0
  | [a] =>
    cases hc : inP [a] r with
    | false => rfl
    | true =>
      simp only [inP, beq_iff_eq] at hc
      subst hc
      exact absurd rfl h1
  | [a, b] =>
    cases hc : inP [a, b] r with
    | false => rfl
    | true =>
      simp only [inP, Bool.and_eq_true, beq_iff_eq] at hc
      obtain ⟨rfl, rfl⟩ := hc
      exact absurd rfl h2
  | a :: b :: c :: l => simp [okP] at ho
theorem Good.set {o : OTree} {all : List Rec} {r : Rec} (h : Good o all) (hr : RecOk r) (hrr : rr r = true) : Good (setP o r) (withr all r) := by
  have hlt : ix r.key < o.leaves.length := by rw [h.len]; exact ix_lt _
  have hnk := h.nk _ (ix_lt r.key)
  have hL : leafAt (setP o r) (ix r.key) = setL o r := by unfold leafAt setP; simp only; rw [gt_set hlt]; rfl
  have hne : ∀ i, i ≠ ix r.key → leafAt (setP o r) i = leafAt o i := fun i hi => by unfold leafAt setP; simp only; rw [gt_set_ne (fun e => hi e.symm)]
  refine ⟨by unfold setP; simpa using h.len, sr_withr h.srt, fun x hx => ?_, fun i hi => ?_, fun i hi p => ?_, ?_, fun p hp => ?_⟩
  · rcases mem_withr.1 hx with ⟨rfl, hv⟩ | ⟨hx, _⟩
    · exact ⟨hr, hrr, hv⟩
    · exact h.ok x hx
  · by_cases e : i = ix r.key
    · subst e
      rw [hL]; unfold setL
      cases decide (0 < r.vers.length)
      · exact mdel_nodup hnk
      · exact mput_nodup (mdel_nodup hnk)
    · rw [hne i e]; exact h.nk i hi
  · by_cases e : i = ix r.key
    · subst e
      rw [hL]
      have hm := h.mem _ (ix_lt r.key) p
      have hd := mem_mdel (x := r.key) (q := p) hnk
      have hvv : (0 < r.vers.length) ↔ r.vers ≠ [] := by rw [List.length_pos_iff]
      unfold setL
      cases hv : decide (0 < r.vers.length) with
      | false =>
        have hv' : ¬ r.vers ≠ [] := fun e => by have := of_decide_eq_false hv; exact this (hvv.2 e)
        simp only [cond_false]
        rw [hd, hm, mem_withr]
        constructor
        · rintro ⟨⟨h1, h2, h3⟩, h4⟩; exact ⟨h1, .inr ⟨h2, fun e => h4 (h1.trans e)⟩, h3⟩
        · rintro ⟨h1, ⟨h2, h3⟩ | ⟨h2, h3⟩, h4⟩
          · exact absurd h3 hv'
          · exact ⟨⟨h1, h2, h4⟩, fun e => h3 (h1.symm.trans e)⟩
      | true =>
        have hv' : r.vers ≠ [] := hvv.1 (of_decide_eq_true hv)
        simp only [cond_true]
        rw [mem_mput (mdel_nodup hnk), hd, hm, mem_withr]
        constructor
        · rintro (h1 | ⟨⟨⟨h1, h2, h3⟩, h4⟩, h5⟩)
          · subst h1; exact ⟨rfl, .inl ⟨rfl, hv'⟩, rfl⟩
          · exact ⟨h1, .inr ⟨h2, fun e => h4 (h1.trans e)⟩, h3⟩
        · rintro ⟨h1, ⟨h2, h3⟩ | ⟨h2, h3⟩, h4⟩
          · left; exact Prod.ext (by rw [h1, h2]) h2
          · exact .inr ⟨⟨⟨h1, h2, h4⟩, fun e => h3 (h1.symm.trans e)⟩, fun e => h3 (h1.symm.trans e)⟩
    · rw [hne i e, h.mem i hi p, mem_withr]
      constructor
      · rintro ⟨h1, h2, h3⟩
        exact ⟨h1, .inr ⟨h2, fun e2 => e (by rw [← h3, e2])⟩, h3⟩
      · rintro ⟨h1, ⟨h2, h3⟩ | ⟨h2, h3⟩, h4⟩
        · exact absurd (by rw [← h4, h2]) e
        · exact ⟨h1, h2, h4⟩
  · exact mdel_nodup (mdel_nodup (mdel_nodup h.sk))
  · have hp' : p ∈ mdel (2, ((pa r.key : Nat) : Int), ((pb r.key : Nat) : Int)) (mdel (1, ((pa r.key : Nat) : Int), 0) (mdel (0, 0, 0) o.sums)) := hp
    rw [mem_mdel (mdel_nodup (mdel_nodup h.sk)), mem_mdel (mdel_nodup h.sk), mem_mdel h.sk] at hp'
    obtain ⟨⟨⟨h1, h2⟩, h3⟩, h4⟩ := hp'
    obtain ⟨path, ho, hk, hh⟩ := h.sums p h1
    rw [hk] at h2 h3 h4
    exact ⟨path, ho, hk, by rw [hh, Hs_same h.srt (key_inP ho h2 h3 h4)]⟩

end Fw
end Go.Proofs.YtmmnpinpcgidnaaGreat
