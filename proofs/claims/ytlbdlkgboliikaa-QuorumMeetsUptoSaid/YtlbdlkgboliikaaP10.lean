/- The plain law QuorumOrder. No condition. -/
import Derived.Test.YtlbdlkgboliikaaP9
namespace Go.Proofs.Ytlbdlkgboliikaa
namespace Fw
set_option linter.unusedVariables false
set_option linter.unusedSimpArgs false
set_option linter.unusedSectionVars false

theorem ver_bk (v : Ver) : 1 ≤ Ver.bk v := by unfold Ver.bk; omega
theorem versOf_bk (l : List Dfirthlaw16_Reply) : (versOf l).length ≤ bkL Dfirthlaw16_Reply.bk l := by
  induction l with
  | nil => exact Nat.le_refl _
  | cons q l ih =>
    have h := bkL_len ver_bk q.vers
    have e : Dfirthlaw16_Reply.bk q = 1 + bkOne q.node + bkL Ver.bk q.vers + bkL Rec.bk q.recs := rfl
    simp only [versOf, bkL, List.flatMap_cons, List.length_append, List.map_cons, List.sum_cons] at *
    omega
/-- who was taken up -/
structure SomeI (i : Nat) (so : List Dfirthlaw16_Reply) (met : List Bool) : Prop where
  ml : met.length = 9
  m : ∀ x : Int, 1 ≤ x → x ≤ 8 → (gt met x.toNat = true ↔ ∃ q ∈ so, q.node = x)
  r : ∀ q ∈ so, r5Right q.vers = true ∧ VersOk q.vers
  nd : (so.map (fun q => q.node)).Nodup
  le : so.length ≤ i
/-- what a reading has been told -/
structure GotI (list : List Int) (need : Int) (L : Nat → Dfirthlaw16_Reply) (i : Nat) (x : AskV) : Prop where
  l : x.list = list
  n : x.need = need
  m : ∀ n v, mget n x.got = some v ↔ n ∈ list ∧ ∃ j, j < i ∧ (L j).node = n ∧ (L j).vers = v
  g : x.got.length = (list.filter (fun n => (mget n x.got).isSome)).length
  ok : GotOk x.got
theorem GotI.new (list : List Int) (need : Int) (L : Nat → Dfirthlaw16_Reply) : GotI list need L 0 ⟨list, need, []⟩ :=
  ⟨rfl, rfl, fun n v => by simp [mget], by
    have : list.filter (fun n => (mget n ([] : List (Int × List Ver))).isSome) = [] := List.filter_eq_nil_iff.2 fun n _ => by simp [mget]
    rw [this]; rfl, fun n => by simpa [mget] using versOk_nil⟩
theorem gotv_eq (x : AskV) (node : Int) {l : List Ver} (h : r5Right l = true) : AskV.gotv x node l = AskV.count x node l := by
  unfold AskV.gotv
  rw [merge_eq, merge_nil, h]; rfl
theorem GotI.step {list : List Int} {need : Int} {L : Nat → Dfirthlaw16_Reply} {i : Nat} {x : AskV} (h : GotI list need L i x) (hnd : list.Nodup) (hr : r5Right (L i).vers = true) (hv : VersOk (L i).vers) (hne : ∀ j, j < i → (L j).node ≠ (L i).node) :
    GotI list need L (i + 1) (AskV.gotv x (L i).node (L i).vers).1 := by
  rw [gotv_eq _ _ hr]
  have hno : mget (L i).node x.got = none := by
    cases hg : mget (L i).node x.got with
    | none => rfl
    | some v =>
      obtain ⟨_, j, hj, h1, _⟩ := (h.m _ _).1 hg
      exact absurd h1 (hne j hj)
  have hc : AskV.count x (L i).node (L i).vers = bif inM list (L i).node then (⟨x.list, x.need, mput (L i).node (L i).vers x.got⟩, true) else (x, false) := by
    unfold AskV.count
    rw [hno, h.l, idxGo_inM]
    cases inM list (L i).node <;> rfl
  rw [hc]
  cases hm : inM list (L i).node with
  | false =>
    have hm' : (L i).node ∉ list := fun hh => by rw [inM_mem.2 hh] at hm; cases hm
    refine ⟨h.l, h.n, fun n v => ?_, h.g, h.ok⟩
    rw [cond_false]
    show mget n x.got = some v ↔ _
    rw [h.m]
    refine and_congr_right fun hn => ⟨fun ⟨j, hj, e⟩ => ⟨j, by omega, e⟩, fun ⟨j, hj, e⟩ => ⟨j, ?_, e⟩⟩
    rcases Nat.lt_or_ge j i with h2 | h2
    · exact h2
    · obtain rfl : j = i := by omega
      rw [e.1] at hm'; exact absurd hn hm'
  | true =>
    have hm' := inM_mem.1 hm
    obtain ⟨k, hk, hke⟩ := mem_gt hm'
    refine ⟨h.l, h.n, fun n v => ?_, (RelG.put (in_ := list.map (fun n => (mget n x.got).isSome)) ⟨hnd, rfl, h.g⟩ (L i).vers hk hke hno hm').g, fun n => ?_⟩
    · rw [cond_true]
      show mget n (mput (L i).node (L i).vers x.got) = some v ↔ _
      rw [mget_mput]
      by_cases hn : n = (L i).node
      · rw [if_pos hn]
        constructor
        · intro e
          injection e with e
          exact ⟨hn ▸ hm', i, by omega, hn.symm, e⟩
        · rintro ⟨_, j, hj, h1, h2⟩
          rcases Nat.lt_or_ge j i with h3 | h3
          · exact absurd (h1.trans hn) (hne j h3)
          · obtain rfl : j = i := by omega
            rw [h2]
      · rw [if_neg hn, h.m]
        refine and_congr_right fun _ => ⟨fun ⟨j, hj, e⟩ => ⟨j, by omega, e⟩, fun ⟨j, hj, e⟩ => ⟨j, ?_, e⟩⟩
        rcases Nat.lt_or_ge j i with h2 | h2
        · exact h2
        · obtain rfl : j = i := by omega
          exact absurd e.1.symm hn
    · rw [cond_true]
      show VersOk ((mget n (mput (L i).node (L i).vers x.got)).getD [])
      rw [mput_getD]
      cases decide (n = (L i).node)
      · exact h.ok n
      · exact hv
theorem GotI.same {list : List Int} {need : Int} {L M : Nat → Dfirthlaw16_Reply} {i : Nat} {x y : AskV} (h : GotI list need L i x) (k : GotI list need M i y) (h1 : ∀ j, j < i → ∃ q, q < i ∧ M q = L j) (h2 : ∀ j, j < i → ∃ q, q < i ∧ L q = M j) (n : Int) : mget n x.got = mget n y.got := by
  refine Option.ext fun v => ?_
  rw [h.m, k.m]
  refine and_congr_right fun _ => ⟨fun ⟨j, hj, e⟩ => ?_, fun ⟨j, hj, e⟩ => ?_⟩
  · obtain ⟨q, hq, eq⟩ := h1 j hj
    exact ⟨q, hq, eq ▸ e⟩
  · obtain ⟨q, hq, eq⟩ := h2 j hj
    exact ⟨q, hq, eq ▸ e⟩
theorem versGo_congr {g h : List (Int × List Ver)} (e : ∀ n, mget n g = mget n h) : ∀ (l : List Int) (s : List Ver), versGo g l s = versGo h l s
  | [], _ => rfl
  | n :: l, s => by rw [versGo, versGo, e n, versGo_congr e l]
def kap (t : Int) (n i : Nat) : Nat := bif ((t.tmod 2) != 0) then (if i + n / 2 < n then i + n / 2 else i + n / 2 - n) else n - 1 - i
theorem kap_lt (t : Int) {n i : Nat} (h : i < n) : kap t n i < n := by
  unfold kap
  cases ((t.tmod 2) != 0)
  · rw [cond_false]; omega
  · rw [cond_true]; split <;> omega
theorem kap_inj (t : Int) {n i j : Nat} (h : i < n) (hj : j < n) (e : kap t n i = kap t n j) : i = j := by
  unfold kap at e
  cases hb : ((t.tmod 2) != 0)
  · rw [hb, cond_false, cond_false] at e; omega
  · rw [hb, cond_true, cond_true] at e; split at e <;> split at e <;> omega
theorem kap_sur (t : Int) {n j : Nat} (h : j < n) : ∃ i, i < n ∧ kap t n i = j := by
  unfold kap
  cases hb : ((t.tmod 2) != 0)
  · exact ⟨n - 1 - j, by omega, by rw [cond_false]; omega⟩
  · by_cases hj : n / 2 ≤ j
    · exact ⟨j - n / 2, by omega, by rw [cond_true, if_pos (by omega)]; omega⟩
    · exact ⟨j + n - n / 2, by omega, by rw [cond_true, if_neg (by omega)]; omega⟩
theorem kap_odd {t : Int} {n i : Nat} (h : i < n) (hn : n ≤ lim) (ht : ((t.tmod 2) != 0) = true) : (w64 (((i : Nat) : Int) + (w64 (((n : Nat) : Int).tdiv 2)))).tmod ((n : Nat) : Int) = ((kap t n i : Nat) : Int) := by
  rw [lim_eq] at hn
  rw [show (((n : Nat) : Int).tdiv 2) = ((n / 2 : Nat) : Int) from rfl, w64_i (x := ((n / 2 : Nat) : Int)) (by unfold I64; omega), w64_i (by unfold I64; omega)]
  unfold kap
  rw [ht, cond_true]
  rw [show ((i : Nat) : Int) + ((n / 2 : Nat) : Int) = ((i + n / 2 : Nat) : Int) by omega]
  show (((i + n / 2) % n : Nat) : Int) = _
  split
  · rename_i h1; rw [Nat.mod_eq_of_lt h1]
  · rename_i h1
    rw [Nat.mod_eq_sub_mod (by omega), Nat.mod_eq_of_lt (by omega)]
theorem kap_even {t : Int} {n i : Nat} (h : i < n) (hn : n ≤ lim) (ht : ((t.tmod 2) != 0) = false) : (w64 ((w64 (((n : Nat) : Int) - 1)) - ((i : Nat) : Int))) = ((kap t n i : Nat) : Int) := by
  rw [lim_eq] at hn
  rw [w64_i (x := ((n : Nat) : Int) - 1) (by unfold I64; omega), w64_i (by unfold I64; omega)]
  unfold kap
  rw [ht, cond_false]; omega
theorem gt_set {α : Type} [Inhabited α] {l : List α} {i j : Nat} {v : α} (hi : i < l.length) : gt (l.set i v) j = if i = j then v else gt l j := by
  unfold gt
  rw [List.getD_eq_getElem?_getD, List.getD_eq_getElem?_getD, List.getElem?_set]
  split
  · rename_i h; subst h; simp [hi]
  · rfl
theorem SomeI.step {i : Nat} {so : List Dfirthlaw16_Reply} {met : List Bool} (h : SomeI i so met) {q : Dfirthlaw16_Reply} (h1 : 1 ≤ q.node) (h8 : q.node ≤ 8) (hm : gt met q.node.toNat = false) (hr : r5Right q.vers = true) (hv : VersOk q.vers) :
    SomeI (i + 1) (so ++ [q]) (met.set q.node.toNat true) := by
  have hne : ∀ p ∈ so, p.node ≠ q.node := fun p hp e => by
    have := (h.m _ h1 h8).2 ⟨p, hp, e⟩
    rw [hm] at this; cases this
  refine ⟨by rw [List.length_set]; exact h.ml, fun x hx1 hx8 => ?_, fun p hp => ?_, ?_, by have := h.le; simp; omega⟩
  · rw [gt_set (by rw [h.ml]; omega)]
    by_cases e : q.node = x
    · subst e
      simp
    · rw [if_neg (by omega), h.m x hx1 hx8]
      simp [e]
  · rcases List.mem_append.1 hp with hp | hp
    · exact h.r p hp
    · rw [List.mem_singleton.1 hp]; exact ⟨hr, hv⟩
  · rw [List.map_append, List.nodup_append]
    refine ⟨h.nd, by simp, fun a ha b hb => ?_⟩
    obtain ⟨p, hp, rfl⟩ := List.mem_map.1 ha
    simp only [List.map_cons, List.map_nil, List.mem_singleton] at hb
    rw [hb]; exact hne p hp
/-- the law of orders holds -/
theorem order_law {list : List Int} {replies : List Dfirthlaw16_Reply} (turn : Int) (hl : list.length ≤ lim) (hn : replies.length ≤ lim) (hr : ∀ q ∈ replies, VersOk q.vers) (hs : (versOf replies).length ≤ lim) : m_firthlaw16_QuorumOrder list replies turn = some true := by
  unfold m_firthlaw16_QuorumOrder
  rw [awake16, e_r16Right, e_written hs, e_NewRead _ hl, ← qOk_eq]
  simp only [Option.bind_some, gcall_s]
  cases hq : qOk list ((list.length : Nat) : Int)
  · rfl
  cases hw : wrAll (versOf replies)
  · rfl
  show forI m_firthlaw16_QuorumOrder_b4 _ 0 replies (([] : List Dfirthlaw16_Reply), (List.replicate 9 false)) = some true
  have hnd := qOk_nodup hq
  have hlen := qOk_len hq
  refine forI_inv (fun _ _ => some true) (fun i s => SomeI i s.1 s.2) (fun s hI => ?_) (fun f i s hi hI hf => ?_) ⟨rfl, fun x h1 h8 => ?_, by simp, by simp, Nat.le_refl _⟩
  · obtain ⟨so, met⟩ := s
    have hI' : SomeI replies.length so met := hI
    have hsl : so.length ≤ lim := Nat.le_trans hI'.le hn
    refine forI_inv (fun _ _ => some true) (fun i s => GotI list list.length (fun j => gt so j) i s.2 ∧ GotI list list.length (fun j => gt so (kap turn so.length j)) i s.1) (fun s hG => ?_) (fun f i s hi hG hf => ?_) ⟨GotI.new _ _ _, GotI.new _ _ _⟩
    · obtain ⟨y, x⟩ := s
      obtain ⟨hx, hy⟩ := hG
      simp only at hx hy ⊢
      have hsame := hx.same hy (fun j hj => (kap_sur turn hj).imp fun q h => ⟨h.1, by rw [h.2]⟩) (fun j hj => ⟨_, kap_lt turn hj, rfl⟩)
      have hv : AskV.vers y = AskV.vers x := by
        unfold AskV.vers
        rw [hx.l, hy.l, versGo_congr hsame]
      have hwt : AskV.waits y = AskV.waits x := by
        unfold AskV.waits
        rw [hx.l, hy.l]
        exact sel_congr fun i hi => ⟨by rw [hsame], rfl⟩
      have hg : y.got.length = x.got.length := by
        rw [hx.g, hy.g]
        congr 1
        exact List.filter_congr fun n _ => by rw [hsame]
      rw [(e_Vers hx.ok).1, (e_Vers hy.ok).1, e_WaitsV (by rw [hx.l]; exact hl), e_WaitsV (by rw [hy.l]; exact hl), e_DoneV, e_DoneV]
      simp only [Option.bind_some, gcall_s, e_Ints, e_r5Same]
      rw [hv, hwt, hg, hx.n, hy.n, intsM_refl, r5Same_iff.2 rfl]
      simp
    · obtain ⟨y, x⟩ := s
      obtain ⟨hx, hy⟩ := hG
      simp only at hx hy hi
      have hk := kap_lt turn hi
      obtain ⟨hr1, hv1⟩ := hI'.r _ (gt_mem hi)
      obtain ⟨hr2, hv2⟩ := hI'.r _ (gt_mem hk)
      have hnn : ∀ {a b : Nat}, a < so.length → b < so.length → a ≠ b → (gt so a).node ≠ (gt so b).node := by
        intro a b ha hb hab e
        have h3 := nodup_gt hI'.nd (i := a) (j := b) (by simpa using ha) (by simpa using hb) (by rw [gt_map _ ha, gt_map _ hb]; exact e)
        exact hab h3
      have hx2 := hx.step hnd hr1 hv1 fun j hj => hnn (by omega) hi (by omega)
      have hy2 := hy.step hnd hr2 hv2 fun j hj => hnn (kap_lt turn (by omega)) hk fun e => by have := kap_inj turn (by omega) hi e; omega
      unfold m_firthlaw16_QuorumOrder_b12
      simp only
      rw [e_Got _ hv1, Option.bind_some]
      have hj : ∀ k : Int, k = ((kap turn so.length i : Nat) : Int) → m_firthlaw16_QuorumOrder_j14 so y f (AskV.gotv x (gt so i).node (gt so i).vers).1 k = some true := by
        rintro k rfl
        unfold m_firthlaw16_QuorumOrder_j14
        rw [chk_t (inb_nat hk), Int.toNat_natCast, e_Got _ hv2, Option.bind_some]
        exact hf _ ⟨hx2, hy2⟩
      unfold m_firthlaw16_QuorumOrder_j13
      cases ht : ((turn.tmod 2) != 0)
      · rw [cond_false]; exact hj _ (kap_even hi hsl ht)
      · rw [cond_true, chk_t (by rw [bne_iff_ne]; omega)]
        exact hj _ (kap_odd hi hsl ht)
  · obtain ⟨so, met⟩ := s
    have hI' : SomeI i so met := hI
    have hle := hI'.le
    unfold m_firthlaw16_QuorumOrder_b4 m_firthlaw16_QuorumOrder_j5
    simp only
    have hid : SomeI (i + 1) so met := ⟨hI'.ml, hI'.m, hI'.r, hI'.nd, by omega⟩
    have hv := hr _ (gt_mem hi)
    rw [e_r5Right hv, gcall_s, Option.bind_some]
    by_cases hb : 1 ≤ (gt replies i).node ∧ (gt replies i).node ≤ 8
    · have hg : ((decide (1 ≤ (gt replies i).node)) && (decide ((gt replies i).node ≤ 8))) = true := by simp [hb.1, hb.2]
      have hin : inb (gt replies i).node 9 = true := by unfold inb; rw [Bool.and_eq_true, decide_eq_true_eq, decide_eq_true_eq]; omega
      rw [hg, hin, chk_t (show imp true true = true from rfl)]
      cases hm : gt met (gt replies i).node.toNat
      · cases hrr : r5Right (gt replies i).vers
        · exact hf _ hid
        · simp only [Bool.not_false, Bool.and_self, cond_true]
          rw [chk_t rfl, chk_t (by rw [decide_eq_true_eq]; omega)]
          exact hf _ (hI'.step hb.1 hb.2 hm hrr hv)
      · exact hf _ hid
    · have hg : ((decide (1 ≤ (gt replies i).node)) && (decide ((gt replies i).node ≤ 8))) = false := by
        rw [Bool.and_eq_false_iff, decide_eq_false_iff_not, decide_eq_false_iff_not]; omega
      rw [hg, chk_t (show imp false _ = true from rfl)]
      exact hf _ hid
  · show gt (List.replicate 9 false) x.toNat = true ↔ _
    have : gt (List.replicate 9 false) x.toNat = false := by
      have : x.toNat < (List.replicate 9 false).length := by simp; omega
      rw [gt_eq this, List.getElem_replicate]
    rw [this]; simp
theorem p_firthlaw16_QuorumOrder {Γ : Gh} {Alist : Option Addr} {clist : Nat} {list : List Int} (hlist : Sl intT Γ Alist list) (hlistc : list.length ≤ clist)
    {Areplies : Option Addr} {creplies : Nat} {replies : List Dfirthlaw16_Reply} (hreplies : Sl dfirthlaw16_ReplyT Γ Areplies replies) (hrepliesc : replies.length ≤ creplies) (turn : Int) (hturn : I64 turn) (m1 : bkL bkOne list ≤ 1048576) (m2 : bkL Dfirthlaw16_Reply.bk replies ≤ 1048576) :
    m_firthlaw16_QuorumOrder list replies turn = some true := by
  refine order_law turn hlist.le hreplies.le (fun q hq => ?_) (by have := versOf_bk replies; rw [lim_eq]; omega)
  obtain ⟨i, hi, rfl⟩ := mem_gt hq
  obtain ⟨_, _, _, _, h⟩ := hreplies.dfirthlaw16_ReplyT_at i
  exact sl_versOk (h hi).1.2.1.2
end Fw
end Go.Proofs.Ytlbdlkgboliikaa
