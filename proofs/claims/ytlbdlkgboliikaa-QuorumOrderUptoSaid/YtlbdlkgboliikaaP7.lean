/- What the printed models of asking come to, and how the two sides stand to one another. No condition. -/
import Derived.Test.YtlbdlkgboliikaaP6
namespace Go.Proofs.Ytlbdlkgboliikaa
namespace Fw
set_option linter.unusedVariables false
set_option linter.unusedSimpArgs false
set_option linter.unusedSectionVars false

theorem forI_sel {α R : Type} [Inhabited α] {body : (List Int → Option R) → Nat → α → List Int → Option R} {k : List Int → Option R} {l : List α} {p : Nat → Bool} {g : Nat → Int}
    (h : ∀ f i s, i < l.length → s.length ≤ i → body f i (gt l i) s = f (s ++ (bif p i then [g i] else []))) : forI body k 0 l [] = k (sel p g l.length) := by
  refine forI_inv (fun _ _ => k (sel p g l.length)) (fun i s => s = sel p g i) (fun s hs => by rw [hs]) (fun f i s hi hI hf => ?_) (by simp [sel])
  have hl := sel_len p g i
  rw [h f i s hi (by rw [hI]; exact hl)]
  exact hf _ (by rw [hI, sel_step])
theorem e_askB {list : List Int} (need : Int) (hl : list.length ≤ lim) : m_quorum_ask_bool list need = some (bif qOk list need then (some ⟨list, need, []⟩, 0) else (none, 1)) := by
  unfold m_quorum_ask_bool qOk
  show (bif qBad list need then _ else _) = _
  cases qBad list need
  · rw [cond_false, cond_false, forI_all (p := fun i => !((decide (gt list i < 1) || decide (8 < gt list i)) || decide (0 ≤ idxGo (list.take i) (gt list i) 0))) (r := some (none, 1)) (fun f i hi => ?_), e_Clone hl]
    · cases allFrom (fun i => !((decide (gt list i < 1) || decide (8 < gt list i)) || decide (0 ≤ idxGo (list.take i) (gt list i) 0))) 0 list.length <;> rfl
    · unfold m_quorum_ask_bool_b1
      rw [e_Contains, gcall_s, Option.bind_some]
      cases (decide (gt list i < 1) || decide (8 < gt list i)) <;> cases decide (0 ≤ idxGo (list.take i) (gt list i) 0) <;> rfl
  · rfl
theorem e_askV {list : List Int} (need : Int) (hl : list.length ≤ lim) : m_quorum_ask_api_Ver list need = some (bif qOk list need then (some ⟨list, need, []⟩, 0) else (none, 1)) := by
  unfold m_quorum_ask_api_Ver qOk
  show (bif qBad list need then _ else _) = _
  cases qBad list need
  · rw [cond_false, cond_false, forI_all (p := fun i => !((decide (gt list i < 1) || decide (8 < gt list i)) || decide (0 ≤ idxGo (list.take i) (gt list i) 0))) (r := some (none, 1)) (fun f i hi => ?_), e_Clone hl]
    · cases allFrom (fun i => !((decide (gt list i < 1) || decide (8 < gt list i)) || decide (0 ≤ idxGo (list.take i) (gt list i) 0))) 0 list.length <;> rfl
    · unfold m_quorum_ask_api_Ver_b1
      rw [e_Contains, gcall_s, Option.bind_some]
      cases (decide (gt list i < 1) || decide (8 < gt list i)) <;> cases decide (0 ≤ idxGo (list.take i) (gt list i) 0) <;> rfl
  · rfl
theorem e_NewWrite {list : List Int} (need : Int) (hl : list.length ≤ lim) : m_quorum_NewWrite list need = some (bif qOk list need then (some ⟨list, need, []⟩, 0) else (none, 1)) := by
  unfold m_quorum_NewWrite
  rw [e_askB need hl, Option.bind_some]
  cases qOk list need <;> rfl
theorem e_NewRead {list : List Int} (need : Int) (hl : list.length ≤ lim) : m_quorum_NewRead list need = some (bif qOk list need then (some ⟨list, need, []⟩, 0) else (none, 1)) := by
  unfold m_quorum_NewRead
  rw [e_askV need hl, Option.bind_some]
  cases qOk list need <;> rfl
theorem e_countB (a : AskB) (node : Int) (x : Bool) : m_quorum_asking_bool_count a node x = some (AskB.count a node x) := by
  unfold m_quorum_asking_bool_count AskB.count
  rw [e_Contains, gcall_s, Option.bind_some]
  cases (mget node a.got).isSome <;> cases decide (0 ≤ idxGo a.list node 0) <;> rfl
theorem e_countV (a : AskV) (node : Int) (x : List Ver) : m_quorum_asking_api_Ver_count a node x = some (AskV.count a node x) := by
  unfold m_quorum_asking_api_Ver_count AskV.count
  rw [e_Contains, gcall_s, Option.bind_some]
  cases (mget node a.got).isSome <;> cases decide (0 ≤ idxGo a.list node 0) <;> rfl
theorem e_Ack (a : AskB) (node : Int) : m_quorum_Write_Ack a node = some (AskB.count a node true) := by unfold m_quorum_Write_Ack; rw [e_countB]; rfl
theorem e_DoneB (a : AskB) : m_quorum_Write_Done a = some (decide (a.need ≤ ((a.got.length : Nat) : Int))) := rfl
theorem e_DoneV (a : AskV) : m_quorum_Read_Done a = some (decide (a.need ≤ ((a.got.length : Nat) : Int))) := rfl
theorem e_WaitsB {a : AskB} (h : a.list.length ≤ lim) : m_quorum_Write_Waits a = some (AskB.waits a) := by
  unfold m_quorum_Write_Waits m_quorum_asking_bool_Waits
  rw [forI_sel (p := fun k => !(mget (gt a.list k) a.got).isSome) (g := gt a.list) fun f i s hi hs => ?_]
  · rfl
  · unfold m_quorum_asking_bool_Waits_b4 m_quorum_asking_bool_Waits_j5
    rw [chk_t (by rw [decide_eq_true_eq]; omega)]
    cases (mget (gt a.list i) a.got).isSome <;> simp
theorem e_WaitsV {a : AskV} (h : a.list.length ≤ lim) : m_quorum_Read_Waits a = some (AskV.waits a) := by
  unfold m_quorum_Read_Waits m_quorum_asking_api_Ver_Waits
  rw [forI_sel (p := fun k => !(mget (gt a.list k) a.got).isSome) (g := gt a.list) fun f i s hi hs => ?_]
  · rfl
  · unfold m_quorum_asking_api_Ver_Waits_b4 m_quorum_asking_api_Ver_Waits_j5
    rw [chk_t (by rw [decide_eq_true_eq]; omega)]
    cases (mget (gt a.list i) a.got).isSome <;> simp
theorem versOk_nil : VersOk [] := ⟨by simp, by simp⟩
def GotOk (got : List (Int × List Ver)) : Prop := ∀ n, VersOk ((mget n got).getD [])
theorem e_Got {r : AskV} (node : Int) {l : List Ver} (hl : VersOk l) : m_quorum_Read_Got r node l = some (AskV.gotv r node l) := by
  unfold m_quorum_Read_Got AskV.gotv
  rw [e_Merge hl versOk_nil, Option.bind_some, e_countV, Option.bind_some]
  cases ((vsMerge l []).2 == 0) <;> rfl
theorem e_Vers {r : AskV} (h : GotOk r.got) : m_quorum_Read_Vers r = some (AskV.vers r) ∧ VersOk (AskV.vers r) := by
  have h2 : ∀ (l : List Int) (s : List Ver), VersOk s → VersOk (versGo r.got l s) := by
    intro l
    induction l with
    | nil => intro s h; exact h
    | cons n l ih =>
      intro s hs
      rw [versGo]
      refine ih _ ?_
      cases ((vsMerge s ((mget n r.got).getD [])).2 == 0)
      · exact hs
      · rw [cond_true, merge_eq]; exact merge_ok hs (h n)
  refine ⟨?_, h2 _ _ versOk_nil⟩
  unfold m_quorum_Read_Vers AskV.vers
  have := forI_inv (body := m_quorum_Read_Vers_b5 r) (k := fun out_5 => some out_5) (l := r.list) (fun i s => some (versGo r.got (r.list.drop i) s)) (fun _ s => VersOk s)
    (fun s _ => ?_) (fun f i s hi hI hf => ?_) (s := []) versOk_nil
  · rw [this]; rfl
  · rw [List.drop_of_length_le (Nat.le_refl _)]; rfl
  · unfold m_quorum_Read_Vers_b5 m_quorum_Read_Vers_j6
    rw [e_Merge hI (h _), Option.bind_some, drop_gt hi, versGo]
    cases ((vsMerge s ((mget (gt r.list i) r.got).getD [])).2 == 0)
    · exact hf _ hI
    · exact hf _ (by rw [merge_eq]; exact merge_ok hI (h _))
theorem e_Behind {r : AskV} (h : GotOk r.got) (hl : r.list.length ≤ lim) : m_quorum_Read_Behind r = some (AskV.behind r) := by
  obtain ⟨h1, h2⟩ := e_Vers h
  unfold m_quorum_Read_Behind
  rw [h1, Option.bind_some]
  rw [forI_sel (p := fun k => (mget (gt r.list k) r.got).isSome && vsLacks ((mget (gt r.list k) r.got).getD []) r.vers) (g := gt r.list) fun f i s hi hs => ?_]
  · rfl
  · unfold m_quorum_Read_Behind_b4 m_quorum_Read_Behind_j5
    rw [e_Lacks (h _) h2, gcall_s, Option.bind_some, chk_t (by rw [decide_eq_true_eq]; omega)]
    cases (mget (gt r.list i) r.got).isSome <;> cases vsLacks ((mget (gt r.list i) r.got).getD []) r.vers <;> simp
/-! the document -/
theorem e_r16Right (list : List Int) (need : Int) : m_firthref16_Right list need = some (r16Right list need) := by
  unfold m_firthref16_Right r16Right
  cases ((((list.length : Int) == 0) || decide ((8 : Int) < (list.length : Int))) || decide (need < 1)) || decide ((list.length : Int) < need)
  · rw [cond_false, cond_false, forI_all (p := fun i => !((decide (gt list i < 1) || decide (8 < gt list i)) || inM (list.take i) (gt list i))) (r := some false) (fun f i hi => ?_)]
    · cases allFrom (fun i => !((decide (gt list i < 1) || decide (8 < gt list i)) || inM (list.take i) (gt list i))) 0 list.length <;> rfl
    · unfold m_firthref16_Right_b1
      rw [e_In, gcall_s, Option.bind_some]
      cases (decide (gt list i < 1) || decide (8 < gt list i)) <;> cases inM (list.take i) (gt list i) <;> rfl
  · rfl
theorem e_r16New {list : List Int} (need : Int) (hl : list.length ≤ lim) : m_firthref16_New list need = some (r16New list need) := by
  unfold m_firthref16_New
  rw [chk_t (by rw [decide_eq_true_eq]; exact hl), chk_t (by rw [decide_eq_true_eq]; omega)]
  rfl
theorem e_place {a : Ask16} (node : Int) (h : a.in_.length = a.list.length) : m_firthref16_Ask_place a node = some (Ask16.place a node) := by
  unfold m_firthref16_Ask_place Ask16.place
  have := forI_inv (body := m_firthref16_Ask_place_b1 a node) (k := fun _ => some (-1)) (l := a.list) (fun i _ => some (firstFrom (fun i => (gt a.list i == node) && (!(gt a.in_ i))) i a.list.length)) (fun _ _ => True)
    (fun s _ => ?_) (fun f i s hi hI hf => ?_) (s := ()) trivial
  · rw [this]
  · rw [firstFrom_end (Nat.le_refl _)]
  · unfold m_firthref16_Ask_place_b1
    have hg : imp (gt a.list i == node) (decide (i < a.in_.length)) = true := by
      cases gt a.list i == node
      · rfl
      · exact decide_eq_true (by omega)
    rw [chk_t hg, hf () trivial, firstFrom_step hi]
    cases (gt a.list i == node) && (!(gt a.in_ i)) <;> rfl
theorem inb_place {a : Ask16} {node : Int} {n : Nat} (h : n = a.list.length) (h0 : 0 ≤ a.place node) : inb (a.place node) n = true := by
  have := (place_lt a node).2
  unfold inb; rw [Bool.and_eq_true, decide_eq_true_eq, decide_eq_true_eq]; omega
theorem e_r16Ack {a : Ask16} (node : Int) (h : a.in_.length = a.list.length) : m_firthref16_Ask_Ack a node = some (Ask16.ack a node, decide (0 ≤ a.place node)) := by
  unfold m_firthref16_Ask_Ack m_firthref16_Ask_Ack_j1 Ask16.ack
  rw [e_place node h, Option.bind_some]
  cases h0 : decide (0 ≤ a.place node)
  · rfl
  · rw [cond_true, cond_true, chk_t (inb_place h (of_decide_eq_true h0))]
theorem e_Own {r : Rec} (h : VersOk r.vers) : m_firthref10_Own r = some r := by
  unfold m_firthref10_Own
  have := forI_inv (body := m_firthref10_Own_b1) (k := fun x6 => some (⟨r.key, x6⟩ : Rec)) (l := r.vers) (fun i s => some (⟨r.key, s ++ r.vers.drop i⟩ : Rec)) (fun i s => s.length = i)
    (fun s _ => ?_) (fun f i s hi hI hf => ?_) (s := []) rfl
  · rw [this]; rfl
  · rw [List.drop_of_length_le (Nat.le_refl _), List.append_nil]
  · unfold m_firthref10_Own_b1
    have h1 := (h.2 _ (gt_mem hi)).len
    have h2 := h.1
    rw [chk_t (by rw [decide_eq_true_eq]; omega), chk_t (by rw [decide_eq_true_eq]; omega), hf _ (by simp [hI]), drop_gt hi]
    simp
theorem e_GotVers {a : Ask16} (node : Int) {l : List Ver} (h : a.in_.length = a.list.length) (hv : a.vers.length = a.list.length) (hl : VersOk l) : m_firthref16_Ask_GotVers a node l = some (Ask16.gotv a node l) := by
  unfold m_firthref16_Ask_GotVers Ask16.gotv
  rw [e_place node h, Option.bind_some, e_r5Right hl, gcall_s, Option.bind_some, e_Own (r := ⟨ByteArray.empty, l⟩) hl, Option.bind_some]
  cases h0 : decide (a.place node < 0)
  · cases r5Right l
    · rfl
    · simp only [Bool.not_true, Bool.not_false, cond_true, Bool.or_self, cond_false]
      have h1 : 0 ≤ a.place node := by rw [decide_eq_false_iff_not] at h0; omega
      rw [chk_t (inb_place h h1), chk_t (inb_place hv h1)]
  · rfl
theorem e_r16Waits {a : Ask16} (h : a.in_.length = a.list.length) (hl : a.list.length ≤ lim) : m_firthref16_Ask_Waits a = some (Ask16.waits a) := by
  unfold m_firthref16_Ask_Waits
  rw [forI_sel (p := fun k => !(gt a.in_ k)) (g := gt a.list) fun f i s hi hs => ?_]
  · rfl
  · unfold m_firthref16_Ask_Waits_b4 m_firthref16_Ask_Waits_j5
    rw [chk_t (by rw [decide_eq_true_eq]; omega), chk_t (by rw [decide_eq_true_eq]; omega)]
    cases gt a.in_ i <;> simp
theorem e_r16Done {a : Ask16} (h : a.in_.length = a.list.length) (hl : a.list.length ≤ lim) : m_firthref16_Ask_Done a = some (decide (a.need ≤ ((a.list.length : Int) - ((Ask16.waits a).length : Int)))) := by
  unfold m_firthref16_Ask_Done
  rw [e_r16Waits h hl, Option.bind_some]
  have h1 : (Ask16.waits a).length ≤ a.list.length := sel_len _ _ _
  rw [lim_eq] at hl
  rw [w64_i (by unfold I64; omega)]
theorem all16_ok : ∀ (vs : List (List Ver)) (s : List Ver), (∀ v ∈ vs, VersOk v) → VersOk s → VersOk (all16Go vs s)
  | [], _, _, h => h
  | v :: vs, s, hv, h => by
    rw [all16Go]
    refine all16_ok vs _ (fun x hx => hv x (List.mem_cons_of_mem _ hx)) ?_
    cases ((r5Merge s v).2 == 0)
    · exact h
    · exact merge_ok h (hv v List.mem_cons_self)
theorem e_All {a : Ask16} (hv : a.vers.length = a.list.length) (h : ∀ v ∈ a.vers, VersOk v) : m_firthref16_Ask_All a = some (Ask16.all a) := by
  unfold m_firthref16_Ask_All Ask16.all
  have := forI_inv (body := m_firthref16_Ask_All_b4 a) (k := fun out_3 => some out_3) (l := a.list) (fun i s => some (all16Go (a.vers.drop i) s)) (fun _ s => VersOk s)
    (fun s _ => ?_) (fun f i s hi hI hf => ?_) (s := []) versOk_nil
  · rw [this]; rfl
  · rw [← hv, List.drop_of_length_le (Nat.le_refl _)]; rfl
  · unfold m_firthref16_Ask_All_b4 m_firthref16_Ask_All_j5
    have hiv : i < a.vers.length := by omega
    have hm := h _ (gt_mem hiv)
    rw [chk_t (decide_eq_true hiv), e_r5Merge hI hm, Option.bind_some, drop_gt hiv, all16Go]
    cases ((r5Merge s (gt a.vers i)).2 == 0)
    · exact hf _ hI
    · exact hf _ (merge_ok hI hm)
theorem e_r16Behind {a : Ask16} (hi : a.in_.length = a.list.length) (hv : a.vers.length = a.list.length) (h : ∀ v ∈ a.vers, VersOk v) (hl : a.list.length ≤ lim) : m_firthref16_Ask_Behind a = some (Ask16.behind a) := by
  unfold m_firthref16_Ask_Behind
  rw [e_All hv h, Option.bind_some]
  rw [forI_sel (p := fun k => gt a.in_ k && r5Lacks (gt a.vers k) a.all) (g := gt a.list) fun f i s hi' hs => ?_]
  · rfl
  · unfold m_firthref16_Ask_Behind_b4 m_firthref16_Ask_Behind_j5
    have hiv : i < a.vers.length := by omega
    have hg : imp (gt a.in_ i) (decide (i < a.vers.length)) = true := by rw [decide_eq_true hiv]; cases gt a.in_ i <;> rfl
    rw [chk_t (by rw [decide_eq_true_eq]; omega), chk_t hg, e_r5Lacks (b := a.all) (h _ (gt_mem hiv)) (all16_ok _ _ h versOk_nil), gcall_s, Option.bind_some, chk_t (by rw [decide_eq_true_eq]; omega)]
    show (bif gt a.in_ i && (bif gt a.in_ i then r5Lacks (gt a.vers i) a.all else default) then _ else _) = _
    cases gt a.in_ i <;> cases r5Lacks (gt a.vers i) a.all <;> simp
theorem awake16 : m_firthlaw16_awake = some true := by kernel_rfl
end Fw
end Go.Proofs.Ytlbdlkgboliikaa
