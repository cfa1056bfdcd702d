/- The plain laws QuorumWrites and QuorumReads. No condition. -/
import Derived.Test.YtlbdlkgboliikaaP7
namespace Go.Proofs.Ytlbdlkgboliikaa
namespace Fw
set_option linter.unusedVariables false
set_option linter.unusedSimpArgs false
set_option linter.unusedSectionVars false

theorem sl_versOk {Γ : Gh} {A : Option Addr} {l : List Ver} (h : Sl verT Γ A l) : VersOk l := by
  refine ⟨h.le, fun v hv => ?_⟩
  obtain ⟨i, hi, rfl⟩ := mem_gt hv
  obtain ⟨A2, c2, h2⟩ := h.verT_at i
  obtain ⟨⟨h3, h4, ⟨_, h5⟩, h6⟩, _⟩ := h2 hi
  refine ⟨⟨h3, h4⟩, h5.le, fun x hx => ?_, h6⟩
  obtain ⟨k, hk, rfl⟩ := mem_gt hx
  exact (h5.spanT_at hk).1.2.1
theorem qOk_len {list : List Int} {need : Int} (h : qOk list need = true) : list.length ≤ 8 := by
  unfold qOk at h
  cases hb : qBad list need with
  | true => rw [hb] at h; cases h
  | false =>
    unfold qBad at hb
    have := or_r (or_l (or_l hb))
    rw [decide_eq_false_iff_not] at this; omega
/-- the law of writes holds -/
theorem writes_law {list : List Int} (need : Int) (acks : List Int) (hl : list.length ≤ lim) : m_firthlaw16_QuorumWrites list need acks = some true := by
  unfold m_firthlaw16_QuorumWrites
  rw [e_NewWrite need hl, awake16, e_r16Right, e_r16New need hl, ← qOk_eq]
  simp only [Option.bind_some, gcall_s]
  cases hq : qOk list need
  · rfl
  · show forI m_firthlaw16_QuorumWrites_b1 _ 0 acks (r16New list need, (⟨list, need, []⟩ : AskB)) = some true
    refine forI_inv (fun _ _ => some true) (fun _ s => RelB s.2 s.1 ∧ s.2.list.length ≤ 8) (fun s _ => rfl) (fun f i s hi hI hf => ?_) ⟨RelB.new hq, qOk_len hq⟩
    obtain ⟨y, x⟩ := s
    obtain ⟨hr, hx⟩ := hI
    simp only at hr hx
    have h1 := hr.step (gt acks i)
    have hx1 : ((AskB.count x (gt acks i) true).1).list.length ≤ 8 := by
      unfold AskB.count
      cases ((mget (gt acks i) x.got).isSome || (!(decide (0 ≤ idxGo x.list (gt acks i) 0)))) <;> exact hx
    have hin : y.in_.length = y.list.length := by rw [hr.r.isin_len, hr.l]
    have hin1 : (Ask16.ack y (gt acks i)).in_.length = (Ask16.ack y (gt acks i)).list.length := by rw [h1.r.isin_len, h1.l]
    have hll : (Ask16.ack y (gt acks i)).list.length ≤ lim := by rw [h1.l, lim_eq]; omega
    unfold m_firthlaw16_QuorumWrites_b1
    simp only [e_Ack, e_DoneB, Option.bind_some]
    rw [e_r16Ack _ hin, Option.bind_some, e_WaitsB (by rw [lim_eq]; omega), e_r16Done hin1 hll, e_r16Waits hin1 hll]
    simp only [Option.bind_some, gcall_s, e_Ints]
    rw [hr.ack, h1.waits, intsM_refl]
    have hd := h1.done
    rw [h1.waits] at hd
    rw [hd]
    simp only [bne_self_eq_false, Bool.not_false, cond_true, Bool.not_true, cond_false]
    exact hf _ ⟨h1, hx1⟩
/-- who has told what, in both -/
structure RelV (x : AskV) (y : Ask16) : Prop where
  l : y.list = x.list
  n : y.need = x.need
  r : RelG x.list x.got y.in_
  v : y.vers = x.list.map (fun n => (mget n x.got).getD [])
  ok : GotOk x.got
  le : x.list.length ≤ 8
theorem merge_nil (l : List Ver) : r5Merge l [] = bif r5Right l then (l, 0) else ([], 1) := by
  unfold r5Merge
  have h0 : r5Right [] = true := by decide
  rw [h0]
  cases h : r5Right l
  · rfl
  · simp only [Bool.not_true, Bool.or_self, cond_false, cond_true]
    have ht : r5Twin l [] = false := by
      cases h2 : r5Twin l []
      · rfl
      · obtain ⟨_, _, z, hz, _⟩ := r5Twin_iff.1 h2; cases hz
    obtain ⟨h1, _, h3⟩ := right_iff h
    have hf : r5Fold [] l (r5Fold l [] []) = l := by
      show r5Fold l [] [] = l
      refine srt_ext (fold_srt (by simp [Srt])) h3 fun y => ⟨fun hy => ?_, fun hy => ?_⟩
      · rcases fold_sub hy with h | ⟨h, _⟩
        · cases h
        · exact h
      · exact fold_new (fun p hp q hq hd => srt_inj h3 hp hq hd) (by simp) hy rfl
    rw [ht, cond_false, hf]
    have hd : decide ((512 : Int) < (l.length : Int)) = false := by rw [decide_eq_false_iff_not]; omega
    rw [hd]; rfl
theorem mput_getD (x : Int) (v : List Ver) (es : List (Int × List Ver)) (n : Int) : (mget n (mput x v es)).getD [] = bif decide (n = x) then v else (mget n es).getD [] := by
  rw [mget_mput]
  by_cases h : n = x <;> simp [h]
theorem RelV.new {list : List Int} {need : Int} (h : qOk list need = true) : RelV ⟨list, need, []⟩ (r16New list need) :=
  ⟨rfl, rfl, RelG.new (qOk_nodup h), by apply List.ext_getElem <;> simp [r16New, mget], fun n => by simpa [mget] using versOk_nil, qOk_len h⟩
theorem RelV.got {x : AskV} {y : Ask16} (h : RelV x y) (node : Int) {l : List Ver} (hl : VersOk l) : (AskV.gotv x node l).2 = (Ask16.gotv y node l).2 ∧ RelV (AskV.gotv x node l).1 (Ask16.gotv y node l).1 := by
  unfold AskV.gotv Ask16.gotv Ask16.place
  rw [merge_eq, merge_nil, h.l]
  cases hr : r5Right l
  · simp only [cond_false, Bool.not_false, Bool.or_true, cond_true]
    exact ⟨rfl, h⟩
  · simp only [cond_true, Bool.not_true, Bool.or_false, BEq.rfl]
    unfold AskV.count
    rcases h.r.place node with ⟨h1, h2⟩ | ⟨h1, i, hi, he, h2, h3, h4⟩
    · rw [h1, h2]
      exact ⟨rfl, h⟩
    · rw [h1, h2]
      have hd : decide ((i : Int) < 0) = false := by rw [decide_eq_false_iff_not]; omega
      rw [hd]
      simp only [cond_false, Int.toNat_natCast]
      refine ⟨trivial, rfl, h.n, h.r.put l hi he h3 h4, ?_, fun n => ?_, h.le⟩
      · show y.vers.set i l = x.list.map (fun n => (mget n (mput node l x.got)).getD [])
        rw [h.v]
        apply List.ext_getElem
        · simp
        · intro k h5 h6
          have hk : k < x.list.length := by simpa using h6
          rw [List.getElem_map, mput_getD]
          by_cases hki : i = k
          · subst hki
            have : x.list[i] = node := by rw [← gt_eq hi, he]
            simp [this]
          · rw [List.getElem_set_ne hki, List.getElem_map]
            have : x.list[k] ≠ node := fun e => hki (nodup_gt h.r.nd hi hk (by rw [he, gt_eq hk, e]))
            simp [this]
      · show VersOk ((mget n (mput node l x.got)).getD [])
        rw [mput_getD]
        cases decide (n = node)
        · exact h.ok n
        · exact hl
theorem RelV.waits {x : AskV} {y : Ask16} (h : RelV x y) : y.waits = x.waits := by
  unfold Ask16.waits AskV.waits
  rw [h.l]
  exact sel_congr fun i hi => ⟨by rw [h.r.gt_isin hi], rfl⟩
theorem RelV.done {x : AskV} {y : Ask16} (h : RelV x y) : decide (y.need ≤ (y.list.length : Int) - (y.waits.length : Int)) = decide (x.need ≤ (x.got.length : Int)) := by
  rw [h.waits, h.n, h.l]
  have h1 := h.r.g
  have h2 := filter_split x.list (fun n => (mget n x.got).isSome)
  have h3 : x.waits = x.list.filter (fun n => !(mget n x.got).isSome) := sel_filter x.list (fun n => !(mget n x.got).isSome)
  rw [h3]
  congr 1
  rw [eq_iff_iff]; omega
theorem versGo_all (got : List (Int × List Ver)) : ∀ (l : List Int) (s : List Ver), versGo got l s = all16Go (l.map (fun n => (mget n got).getD [])) s
  | [], _ => rfl
  | n :: l, s => by
    rw [versGo, List.map_cons, all16Go, versGo_all got l, merge_eq]
theorem RelV.all {x : AskV} {y : Ask16} (h : RelV x y) : y.all = x.vers := by
  unfold Ask16.all AskV.vers
  rw [versGo_all, h.v]
theorem RelV.behind {x : AskV} {y : Ask16} (h : RelV x y) : y.behind = x.behind := by
  unfold Ask16.behind AskV.behind
  rw [h.l, h.all]
  refine sel_congr fun i hi => ⟨?_, rfl⟩
  rw [h.r.gt_isin hi, h.v, gt_map _ hi, lacks_eq]
theorem RelV.vok {x : AskV} {y : Ask16} (h : RelV x y) : ∀ v ∈ y.vers, VersOk v := by
  intro v hv
  rw [h.v] at hv
  obtain ⟨n, _, rfl⟩ := List.mem_map.1 hv
  exact h.ok n
theorem RelV.vlen {x : AskV} {y : Ask16} (h : RelV x y) : y.vers.length = y.list.length := by rw [h.v, h.l]; simp
theorem RelV.ilen {x : AskV} {y : Ask16} (h : RelV x y) : y.in_.length = y.list.length := by rw [h.r.isin_len, h.l]
theorem RelV.yle {x : AskV} {y : Ask16} (h : RelV x y) : y.list.length ≤ lim := by have := h.le; rw [h.l, lim_eq]; omega
theorem RelV.xle {x : AskV} {y : Ask16} (h : RelV x y) : x.list.length ≤ lim := by have := h.le; rw [lim_eq]; omega
/-- the law of readings holds -/
theorem reads_law {list : List Int} (need : Int) {replies : List Dfirthlaw16_Reply} (hl : list.length ≤ lim) (hr : ∀ q ∈ replies, VersOk q.vers) : m_firthlaw16_QuorumReads list need replies = some true := by
  unfold m_firthlaw16_QuorumReads
  rw [e_NewRead need hl, awake16, e_r16Right, e_r16New need hl, ← qOk_eq]
  simp only [Option.bind_some, gcall_s]
  cases hq : qOk list need
  · rfl
  · show forI m_firthlaw16_QuorumReads_b1 _ 0 replies (r16New list need, (⟨list, need, []⟩ : AskV)) = some true
    refine forI_inv (fun _ _ => some true) (fun _ s => RelV s.2 s.1) (fun s _ => rfl) (fun f i s hi hI hf => ?_) (RelV.new hq)
    obtain ⟨y, x⟩ := s
    have hI' : RelV x y := hI
    have hv := hr _ (gt_mem hi)
    obtain ⟨h1, h2⟩ := hI'.got (gt replies i).node hv
    unfold m_firthlaw16_QuorumReads_b1
    simp only [e_Got _ hv, e_DoneV, Option.bind_some, e_GotVers _ hI'.ilen hI'.vlen hv]
    rw [e_r16Done h2.ilen h2.yle, e_WaitsV h2.xle, e_r16Waits h2.ilen h2.yle, (e_Vers h2.ok).1, e_All h2.vlen h2.vok, e_Behind h2.ok h2.xle, e_r16Behind h2.ilen h2.vlen h2.vok h2.yle]
    simp only [Option.bind_some, gcall_s, e_Ints, e_r5Same]
    rw [h1, h2.waits, intsM_refl, h2.all, h2.behind, intsM_refl, r5Same_iff.2 rfl]
    have hd := h2.done
    rw [h2.waits] at hd
    rw [hd]
    simp only [bne_self_eq_false, Bool.not_false, cond_true, Bool.not_true, cond_false]
    exact hf _ h2
theorem p_firthlaw16_QuorumReads {Γ : Gh} {Alist : Option Addr} {clist : Nat} {list : List Int} (hlist : Sl intT Γ Alist list) (hlistc : list.length ≤ clist) (need : Int) (hneed : I64 need)
    {Areplies : Option Addr} {creplies : Nat} {replies : List Dfirthlaw16_Reply} (hreplies : Sl dfirthlaw16_ReplyT Γ Areplies replies) (hrepliesc : replies.length ≤ creplies) : m_firthlaw16_QuorumReads list need replies = some true := by
  refine reads_law need hlist.le fun q hq => ?_
  obtain ⟨i, hi, rfl⟩ := mem_gt hq
  obtain ⟨_, _, _, _, h⟩ := hreplies.dfirthlaw16_ReplyT_at i
  exact sl_versOk (h hi).1.2.1.2
end Fw
end Go.Proofs.Ytlbdlkgboliikaa
