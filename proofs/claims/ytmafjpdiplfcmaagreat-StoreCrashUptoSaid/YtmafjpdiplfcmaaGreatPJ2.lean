/- The plain side: what the models come to. No condition. -/
import Derived.Test.YtmafjpdiplfcmaaGreatPJ1
namespace Go.Proofs.YtmafjpdiplfcmaaGreat
namespace Fw
set_option linter.unusedVariables false
set_option linter.unusedSimpArgs false
set_option linter.unusedSectionVars false

/-- a log's parts, and nothing else -/
def Only (nm : ByteArray) (g : Nat) (bs : Bs) (es : Mp) : Prop := Has nm g bs es ∧ ∀ k, (mget k es).isSome = true → ∃ j, 1 ≤ j ∧ j ≤ 999999 ∧ k = fn nm g j
section
variable {R N : Nat} {d : Dk} {nm : ByteArray} {g : Nat} {bs : Bs} {es : Mp}
theorem Only.own (h : Only nm g bs es) : Own1 nm g es := fun k hk => .inr (h.2 k hk)
theorem Only.ks (h : Only nm g bs es) (hnm : Nm nm) (hg : g ≤ 999999) : Ks es := fun k hk => by
  obtain ⟨j, _, j2, e⟩ := h.2 k hk
  rw [e]; exact okn_fn hnm hg j2
theorem Only.list (h : Only nm g bs d.seen) (hnm : Nm nm) : fb d (mn nm) = [] := by
  unfold fb
  cases hs : mget (mn nm) d.seen with
  | none => rfl
  | some v =>
    obtain ⟨j, _, _, e⟩ := h.2 _ (by rw [hs]; rfl)
    exact absurd e (mn_fn hnm hnm)
theorem Only.nil : Only nm g [] [] := ⟨⟨Nat.zero_le _, fun k _ _ => rfl⟩, fun k hk => by cases hk⟩
theorem Only.add {size : Int} {f : List UInt8} (h : Only nm g bs d.seen) (hnm : Nm nm) (hp : pnum size bs f ≤ 999999) : Only nm g (addP size bs f) (dAdd d nm g size bs f).seen := by
  refine ⟨AppR.has hnm h.1 hp, fun k hk => ?_⟩
  by_cases e : k = fn nm g (pnum size bs f)
  · exact ⟨_, pnum_pos _ _ _, hp, e⟩
  · rw [add_other e] at hk; exact h.2 k hk
theorem Only.len (h : Only nm g bs es) (hnm : Nm nm) (hn : NK es) : es.length = bs.length := by
  have h1 : (es.map (·.1)).Nodup := hn
  have h2 : ((List.range bs.length).map fun j => fn nm g (j + 1)).Nodup := by
    refine List.Pairwise.map _ (R := fun a b => a ≠ b) (fun a b hab e => hab ?_) List.nodup_range
    have := (fn_inj hnm hnm e).2.2; omega
  have h3 : (es.map (·.1)).Perm ((List.range bs.length).map fun j => fn nm g (j + 1)) := by
    rw [List.perm_ext_iff_of_nodup h1 h2]
    intro k
    rw [← mget_isSome, List.mem_map]
    constructor
    · intro hk
      obtain ⟨j, j1, j2, e⟩ := h.2 k hk
      rw [e, h.1.2 j j1 j2] at hk
      refine ⟨j - 1, List.mem_range.2 ?_, by rw [e, show j - 1 + 1 = j by omega]⟩
      rcases Nat.lt_or_ge (j - 1) bs.length with hlt | hge
      · exact hlt
      · rw [List.getElem?_eq_none hge] at hk; cases hk
    · rintro ⟨j, hj, rfl⟩
      have hj := List.mem_range.1 hj
      have := h.1.1
      rw [h.1.2 (j + 1) (by omega) (by omega), Nat.add_sub_cancel, List.getElem?_eq_getElem hj]; rfl
  have := h3.length_eq
  simpa using this
theorem open_only (h : DI R N d) (hR : R ≤ MX) (hN : 4 * N + 10 ≤ lim) (hnm : Nm nm) (size : Int) (ho : Only nm 0 bs d.seen) :
    ∃ d', m_seglog_Open d nm size = some (d', some (lg nm 0 (max size 16) (scanF bs).2 (scanF bs).1.length), (scanF bs).1, 0) ∧ DI R (4 * N + 10) d' ∧ Only nm 0 (scanF bs).2 d'.seen ∧ (d' = d ∨ d'.loose = []) ∧ ((scanF bs).2 = bs → d' = d) := by
  obtain ⟨d', h1, h2, h3, h4, h5, h6, h7⟩ := e_Open h hR hN hnm (ho.ks hnm (Nat.zero_le _)) size (gl := []) (e0 := 0) (g := 0) (bs := bs) (Nat.zero_le _) (by rw [ho.list hnm]; rfl) rfl ho.1 ho.own
  exact ⟨d', h1, h2, ⟨h3, fun k hk => ho.2 k (h5 k hk)⟩, h6, h7⟩
theorem open_new (hnm : Nm nm) (room size : Int) : m_seglog_Open (d0 room) nm size = some (d0 room, some (lg nm 0 (max size 16) [] 0), [], 0) := by
  obtain ⟨d', h1, h2, h3, h4, h5⟩ := open_only (di0 room) (rm_le room) (by rw [lim_eq]; omega) hnm size (bs := []) Only.nil
  rw [h1, h5 rfl]; rfl
end
theorem nm1 {c : UInt8} (h : c ≠ 46) : Nm ⟨#[c]⟩ := ⟨by show 1 ≤ 1; omega, by show 1 ≤ 2; omega, fun x hx => by rw [List.mem_singleton.1 hx]; exact h⟩
/-! ### a store's records -/
def Rt (r : Rec) : Prop := m_code_RightRec r = some true ∧ ReOk r
def layM (m : Mp) (r : Rec) : Mp := if r.vers = [] then mdel r.key m else mput r.key (reB r) (mdel r.key m)
def putM (m : Mp) (r : Rec) : Mp := mput r.key (reB r) m
def keysOf (l : List Rec) : Mp := l.foldl layM []
theorem keysOf_snoc (l : List Rec) (r : Rec) : keysOf (l ++ [r]) = layM (keysOf l) r := by unfold keysOf; rw [List.foldl_append]; rfl
theorem e_lay (g : Oseglog_Log) (m : Mp) (r : Rec) : m_store_Store_lay ⟨g, m⟩ r (reB r) = some ⟨g, layM m r⟩ := by
  unfold m_store_Store_lay layM
  cases hv : r.vers with
  | nil => rw [bif_f (by decide), if_pos rfl]
  | cons x l => rw [bif_t (by rw [List.length_cons, decide_eq_true_eq]; omega), if_neg (by simp)]
structure KI (m : Mp) : Prop where
  nk : NK m
  en : ∀ k b, mget k m = some b → ∃ r, Rt r ∧ r.key = k ∧ r.vers ≠ [] ∧ b = reB r
theorem KI.nil : KI [] := ⟨NK.nil, fun k b h => by cases h⟩
theorem KI.lay {m : Mp} (h : KI m) {r : Rec} (hr : Rt r) : KI (layM m r) := by
  unfold layM
  by_cases hv : r.vers = []
  · rw [if_pos hv]
    refine ⟨h.nk.del, fun k b hb => ?_⟩
    rw [mget_mdel h.nk] at hb
    split at hb
    · cases hb
    · exact h.en k b hb
  · rw [if_neg hv]
    refine ⟨h.nk.del.put, fun k b hb => ?_⟩
    rw [mget_mput] at hb
    by_cases hk : k = r.key
    · rw [if_pos hk] at hb
      injection hb with hb
      exact ⟨r, hr, hk.symm, hv, hb.symm⟩
    · rw [if_neg hk, mget_mdel h.nk, if_neg hk] at hb
      exact h.en k b hb
theorem KI.fold : ∀ {l : List Rec} {m : Mp}, KI m → (∀ r ∈ l, Rt r) → KI (l.foldl layM m)
  | [], m, h, _ => h
  | r :: l, m, h, hl => KI.fold (l := l) (h.lay (hl r List.mem_cons_self)) fun x hx => hl x (List.mem_cons_of_mem _ hx)
theorem KI.of {l : List Rec} (h : ∀ r ∈ l, Rt r) : KI (keysOf l) := KI.nil.fold h
theorem lay_len (m : Mp) (r : Rec) : (layM m r).length ≤ m.length + 1 := by
  unfold layM
  have h := len_mdel (x := r.key) (es := m)
  split
  · omega
  · have := len_mput (x := r.key) (v := reB r) (es := mdel r.key m); omega
theorem keys_len : ∀ (l : List Rec) (m : Mp), (l.foldl layM m).length ≤ m.length + l.length
  | [], m => Nat.le_refl _
  | r :: l, m => by
    have h1 := keys_len l (layM m r)
    have h2 := lay_len m r
    rw [List.foldl_cons, List.length_cons]; omega
theorem keysOf_len (l : List Rec) : (keysOf l).length ≤ l.length := by have := keys_len l []; simpa [keysOf] using this
def decV (b : List UInt8) : List Ver := match m_code_Rec b with
  | some z => z.1.vers
  | none => []
def recsOf (m : Mp) : List Rec := (skeys m).map fun k => ⟨k, decV ((mget k m).getD [])⟩
theorem e_Get {g : Oseglog_Log} {m : Mp} (h : KI m) (k : ByteArray) : m_store_Store_Get ⟨g, m⟩ k = some (decV ((mget k m).getD [])) := by
  unfold m_store_Store_Get decV
  simp only
  cases hg : mget k m with
  | none => rw [Option.getD_none, e_Rec_nil]; rfl
  | some b =>
    obtain ⟨r, hr, _, _, rfl⟩ := h.en k b hg
    rw [Option.getD_some, e_Rec hr.2 hr.1]; rfl
theorem recs_loop {g : Oseglog_Log} {m : Mp} (h : KI m) : ∀ (l : List ByteArray) (i : Nat) (out : List Rec), out.length + l.length ≤ lim → forI (m_store_Store_Recs_b1 ⟨g, m⟩) (fun out_13 => some out_13) i l out = some (out ++ l.map fun k => ⟨k, decV ((mget k m).getD [])⟩)
  | [], i, out, _ => by show some out = _; rw [List.map_nil, List.append_nil]
  | k :: l, i, out, hl => by
    rw [List.length_cons] at hl
    have ih := recs_loop (g := g) h l (i + 1) (out ++ [⟨k, decV ((mget k m).getD [])⟩]) (by rw [List.length_append, List.length_singleton]; omega)
    show m_store_Store_Recs_b1 ⟨g, m⟩ (forI (m_store_Store_Recs_b1 ⟨g, m⟩) (fun out_13 => some out_13) (i + 1) l) i k out = _
    generalize forI (m_store_Store_Recs_b1 ⟨g, m⟩) (fun out_13 => some out_13) (i + 1) l = f at ih ⊢
    unfold m_store_Store_Recs_b1
    rw [e_Get h, Option.bind_some, chk_t (decide_eq_true (by omega)), ih, List.append_assoc]; rfl
theorem e_Keys {g : Oseglog_Log} {m : Mp} (hm : m.length ≤ lim) : m_store_Store_Keys ⟨g, m⟩ = some (skeys m) := chk_t (decide_eq_true hm)
theorem e_Recs {g : Oseglog_Log} {m : Mp} (h : KI m) (hm : m.length ≤ lim) : m_store_Store_Recs ⟨g, m⟩ = some (recsOf m) := by
  unfold m_store_Store_Recs
  rw [e_Keys hm, Option.bind_some, recs_loop h _ 0 [] (by rw [skeys_len]; simpa using hm)]; rfl
theorem rec_mem {m : Mp} (h : KI m) {x : Rec} (hx : x ∈ recsOf m) : Rt x ∧ x.vers ≠ [] ∧ mget x.key m = some (reB x) := by
  unfold recsOf at hx
  obtain ⟨k, hk, rfl⟩ := List.mem_map.1 hx
  rw [mem_skeys, ← mget_isSome] at hk
  cases hg : mget k m with
  | none => rw [hg] at hk; cases hk
  | some b =>
    obtain ⟨r, hr, rfl, hv, rfl⟩ := h.en k b hg
    have hd : decV (reB r) = r.vers := by unfold decV; rw [e_Rec hr.2 hr.1]
    simp only [Option.getD_some, hd]
    exact ⟨hr, hv, trivial⟩
theorem recs_nd {m : Mp} (h : KI m) : (recsOf m).Pairwise fun a b => a.key ≠ b.key := by
  unfold recsOf
  exact List.Pairwise.map _ (fun a b hab => hab) (skeys_nd h.nk)
theorem recs_len (m : Mp) : (recsOf m).length = m.length := by unfold recsOf; rw [List.length_map, skeys_len]

/-! ### lists of records that are one -/
theorem e_sp (a : List Span) : m_firthref03_Same a a = some true := by
  unfold m_firthref03_Same
  rw [bif_f (by simp)]
  obtain ⟨r, h, rfl⟩ := forI_ex (body := m_firthref03_Same_b1 a) (K := fun _ => some true) (P := fun b => b = true) (l := a) (fun _ _ => True) (fun s _ => ⟨_, rfl, rfl⟩) (fun f i t hi _ hf => by
    unfold m_firthref03_Same_b1
    rw [chk_t (decide_eq_true hi), bif_f (by simp)]
    exact hf _ trivial) (s := ()) trivial
  exact h
theorem e_one (a : Ver) : m_firthref05_SameOne a a = some true := by
  unfold m_firthref05_SameOne
  rw [e_sp, gcall_s, Option.bind_some]
  have : (((a.dot == a.dot) && (a.gone == a.gone)) && (a.val == a.val)) = true := by simp
  rw [this]; rfl
theorem e_ves (a : List Ver) : m_firthref05_Same a a = some true := by
  unfold m_firthref05_Same
  rw [bif_f (by simp)]
  obtain ⟨r, h, rfl⟩ := forI_ex (body := m_firthref05_Same_b1 a) (K := fun _ => some true) (P := fun b => b = true) (l := a) (fun _ _ => True) (fun s _ => ⟨_, rfl, rfl⟩) (fun f i t hi _ hf => by
    unfold m_firthref05_Same_b1
    rw [chk_t (decide_eq_true hi), e_one, Option.bind_some, show (!true) = false from rfl, bif_f rfl]
    exact hf _ trivial) (s := ()) trivial
  exact h
theorem e_same (a : List Rec) : m_firthref06_SameRecs a a = some true := by
  unfold m_firthref06_SameRecs
  rw [bif_f (by simp)]
  obtain ⟨r, h, rfl⟩ := forI_ex (body := m_firthref06_SameRecs_b1 a) (K := fun _ => some true) (P := fun b => b = true) (l := a) (fun _ _ => True) (fun s _ => ⟨_, rfl, rfl⟩) (fun f i t hi _ hf => by
    unfold m_firthref06_SameRecs_b1
    rw [chk_t (decide_eq_true hi), e_ves, gcall_s, Option.bind_some]
    have : ((gt a i).key != (gt a i).key) = false := by simp
    rw [this, show (false || !bif !false then true else default) = false from rfl, bif_f rfl]
    exact hf _ trivial) (s := ()) trivial
  exact h

/-! ### a store and its disk -/
structure StI (nm : ByteArray) (size : Int) (R N : Nat) (e : Dk) (s : Ostore_Store) (L : List Rec) : Prop where
  di : DI R N e
  lo : e.loose = []
  st : s = ⟨lg nm 0 size (bsOf size (L.map reB)) L.length, keysOf L⟩
  rt : ∀ r ∈ L, Rt r
  rk : Rk (L.map reB)
  on : Only nm 0 (bsOf size (L.map reB)) e.seen
  ln : L.length ≤ N
section
variable {nm : ByteArray} {size : Int} {R N : Nat} {e : Dk} {s : Ostore_Store} {L : List Rec}
theorem StI.mono (h : StI nm size R N e s L) {M : Nat} (hm : N ≤ M) : StI nm size R M e s L := ⟨h.di.mono hm, h.lo, h.st, h.rt, h.rk, h.on, Nat.le_trans h.ln hm⟩
theorem e_SPut (h : StI nm size R N e s L) (hnm : Nm nm) (hR : R ≤ MX) (hs0 : 0 ≤ size) (hs1 : size ≤ 9223372036854775807) (hN : N + 1 ≤ lim) {r : Rec} (hl : r.vers.length ≤ lim) : ∃ s' e' c L', m_store_Store_Put s r e = some (s', e', c) ∧ StI nm size R (N + 1) e' s' L' ∧
    (Rt r → (reB r).length ≤ 1048576 → L.length < 999999 → Fw.sz e.seen + (fr (reB r)).length ≤ R → c = 0 ∧ L' = L ++ [r] ∧ Fw.sz e'.seen = Fw.sz e.seen + (fr (reB r)).length) := by
  rw [lim_eq] at hN
  obtain rfl := h.st
  have hln := h.ln
  unfold m_store_Store_Put m_store_Store_Put_j1
  rcases e_PutRec hl with hp | ⟨hr, hro, hp⟩
  · rw [hp, Option.bind_some]
    simp only
    rw [bif_f (by decide), bif_t (by decide)]
    refine ⟨_, _, _, L, rfl, h.mono (Nat.le_succ _), fun hr => ?_⟩
    exfalso
    have := hr.1
    unfold m_code_PutRec at hp
    rw [this, Option.bind_some, show (!true) = false from rfl, bif_f rfl, e_writer hr.2] at hp
    simp at hp
  · rw [hp, Option.bind_some]
    simp only
    rw [bif_t (by decide)]
    obtain ⟨z, a1, a2, a3⟩ := e_LApp h.di hR (by rw [lim_eq]; omega) hnm (g := 0) (Nat.zero_le _) hs0 hs1 h.on.1 (cnt := L.length) (by omega) (reB r)
    rw [a1, Option.bind_some]
    have hbl := bsOf_len size (L.map reB)
    rw [List.length_map] at hbl
    have bad : ∀ c : Int, c ≠ 0 → (1048576 < (reB r).length ∨ 999999 ≤ L.length ∨ R < Fw.sz e.seen + (fr (reB r)).length) → z = (lg nm 0 size (bsOf size (L.map reB)) L.length, e, c) → ∃ s' e' c L', (bif (z.2.2 != 0) then some ((⟨z.1, keysOf L⟩ : Ostore_Store), z.2.1, z.2.2) else Option.bind (m_seglog_Log_Sync (⟨z.1, keysOf L⟩ : Ostore_Store).log z.2.1) fun z54 => Option.bind (m_store_Store_lay (⟨z.1, keysOf L⟩ : Ostore_Store) r (reB r)) fun z63 => some (z63, z54, 0)) = some (s', e', c) ∧ StI nm size R (N + 1) e' s' L' ∧
        (Rt r → (reB r).length ≤ 1048576 → L.length < 999999 → Fw.sz e.seen + (fr (reB r)).length ≤ R → c = 0 ∧ L' = L ++ [r] ∧ Fw.sz e'.seen = Fw.sz e.seen + (fr (reB r)).length) := by
      rintro c hc why rfl
      rw [bif_t (by simpa using hc)]
      exact ⟨_, _, _, L, rfl, h.mono (Nat.le_succ _), fun _ q1 q2 q3 => by omega⟩
    cases a2 with
    | long q => exact bad 3 (by decide) (.inl q) rfl
    | many _ q =>
      have := pnum_le size (bsOf size (L.map reB)) (fr (reB r))
      exact bad 72 (by decide) (.inr (.inl (by omega))) rfl
    | full _ _ q => exact bad 72 (by decide) (.inr (.inr q)) rfl
    | ok q1 q2 q3 =>
      rw [bif_f (by simp)]
      simp only
      unfold m_seglog_Log_Sync
      rw [e_Sync, Option.bind_some, Option.bind_some, e_lay, Option.bind_some]
      refine ⟨_, _, _, L ++ [r], rfl, ⟨a3.sync, rfl, ?_, ?_, ?_, ?_, by rw [List.length_append, List.length_singleton]; omega⟩, fun _ _ _ _ => ⟨rfl, rfl, add_sz⟩⟩
      · rw [List.map_append, List.map_singleton, bsOf_snoc, keysOf_snoc, List.length_append, List.length_singleton]
      · intro x hx
        rcases List.mem_append.1 hx with hx | hx
        · exact h.rt x hx
        · rw [List.mem_singleton.1 hx]; exact ⟨hr, hro⟩
      · intro x hx
        rw [List.map_append, List.map_singleton] at hx
        rcases List.mem_append.1 hx with hx | hx
        · exact h.rk x hx
        · rw [List.mem_singleton.1 hx]; exact q1
      · rw [List.map_append, List.map_singleton, bsOf_snoc]
        exact h.on.add hnm q2
/-- what a log had is laid -/
theorem open_loop {z : Dk × Option Oseglog_Log × Bs × Int} {g : Oseglog_Log} : ∀ (L : List Rec) (i : Nat) (m : Mp), (∀ r ∈ L, Rt r) → forI (m_store_Open_b1 z) (fun o28 => some (z.1, some o28, 0)) i (L.map reB) ⟨g, m⟩ = some (z.1, some ⟨g, L.foldl layM m⟩, 0)
  | [], i, m, _ => rfl
  | r :: L, i, m, h => by
    have hr := h r List.mem_cons_self
    have ih := open_loop (z := z) (g := g) L (i + 1) (layM m r) fun x hx => h x (List.mem_cons_of_mem _ hx)
    show m_store_Open_b1 z (forI (m_store_Open_b1 z) (fun o28 => some (z.1, some o28, 0)) (i + 1) (L.map reB)) i (reB r) ⟨g, m⟩ = _
    generalize forI (m_store_Open_b1 z) (fun o28 => some (z.1, some o28, 0)) (i + 1) (L.map reB) = f at ih ⊢
    unfold m_store_Open_b1
    rw [e_Rec hr.2 hr.1, Option.bind_some]
    simp only
    rw [bif_f (by decide), e_lay, Option.bind_some, ih]; rfl
theorem e_SOpen {d d' : Dk} {g : Oseglog_Log} {L : List Rec} (h : m_seglog_Open d nm size = some (d', some g, L.map reB, 0)) (hL : ∀ r ∈ L, Rt r) : m_store_Open d nm size = some (d', some ⟨g, keysOf L⟩, 0) := by
  unfold m_store_Open
  rw [h, Option.bind_some]
  simp only
  rw [bif_f (by decide), Option.bind_some]
  exact open_loop L 0 [] hL
end
end Fw
end Go.Proofs.YtmafjpdiplfcmaaGreat

namespace Go.Proofs.YtmafjpdiplfcmaaGreat
namespace Fw
set_option linter.unusedVariables false
set_option linter.unusedSimpArgs false
set_option linter.unusedSectionVars false

def cov (v : List Int) (d : Dot) : Bool := ((((decide (1 ≤ d.s)) && (decide (d.s ≤ ((v.length : Nat) : Int)))) && (decide (1 ≤ d.n))) && (decide (d.n ≤ (gt v ((w64 (d.s - 1)).toNat)))))
def keepB (v : List Int) (r : Rec) : Bool := !((((((r.vers).length : Nat) : Int) == 1) && (gt (r.vers) 0).gone) && cov v (gt (r.vers) 0).dot)
theorem e_Covers {v : List Int} (hv : v.length ≤ lim) (d : Dot) : m_vect_Covers v d = some (cov v d) := by
  rw [lim_eq] at hv
  unfold m_vect_Covers
  rw [chk_t]; · rfl
  by_cases h : 1 ≤ d.s ∧ d.s ≤ ((v.length : Nat) : Int)
  · have hi : inb (w64 (d.s - 1)) v.length = true := by
      rw [w64_i (by unfold I64; omega)]
      unfold inb
      rw [Bool.and_eq_true, decide_eq_true_eq, decide_eq_true_eq]; omega
    rw [hi]
    generalize (((decide (1 ≤ d.s)) && (decide (d.s ≤ ((v.length : Nat) : Int)))) && (decide (1 ≤ d.n))) = c
    cases c <;> rfl
  · have hc : ((decide (1 ≤ d.s)) && (decide (d.s ≤ ((v.length : Nat) : Int)))) = false := by
      rw [Bool.and_eq_false_iff, decide_eq_false_iff_not, decide_eq_false_iff_not]
      omega
    rw [hc]; rfl
theorem trim_loop {v : List Int} (hv : v.length ≤ lim) {g : Oseglog_Log} {m : Mp} {K : Bs × Mp → Option (Ostore_Store × Dk × Int)} : ∀ (l : List Rec) (i : Nat) (acc : List Rec), (∀ x ∈ l, mget x.key m = some (reB x)) → acc.length + l.length ≤ lim →
    forI (m_store_Store_Trim_b4 ⟨g, m⟩ v) K i l (acc.map reB, acc.foldl putM []) = K ((acc ++ l.filter (keepB v)).map reB, (acc ++ l.filter (keepB v)).foldl putM [])
  | [], i, acc, _, _ => by show K _ = _; rw [List.filter_nil, List.append_nil]
  | x :: l, i, acc, h, hl => by
    rw [List.length_cons] at hl
    have hx := h x List.mem_cons_self
    have ih0 := trim_loop hv (g := g) (m := m) (K := K) l (i + 1) acc (fun y hy => h y (List.mem_cons_of_mem _ hy)) (by omega)
    have ih1 := trim_loop hv (g := g) (m := m) (K := K) l (i + 1) (acc ++ [x]) (fun y hy => h y (List.mem_cons_of_mem _ hy)) (by rw [List.length_append, List.length_singleton]; omega)
    show m_store_Store_Trim_b4 ⟨g, m⟩ v (forI (m_store_Store_Trim_b4 ⟨g, m⟩ v) K (i + 1) l) i x _ = _
    generalize forI (m_store_Store_Trim_b4 ⟨g, m⟩ v) K (i + 1) l = f at ih0 ih1 ⊢
    unfold m_store_Store_Trim_b4 m_store_Store_Trim_j5
    simp only
    have c1 : imp ((((x.vers).length : Nat) : Int) == 1) (decide (0 < (x.vers).length)) = true := by
      cases hv : x.vers with
      | nil => rfl
      | cons a b => rw [decide_eq_true (by simp)]; generalize ((((a :: b).length : Nat) : Int) == 1) = c; cases c <;> rfl
    have c2 : imp (((((x.vers).length : Nat) : Int) == 1) && (gt (x.vers) 0).gone) (decide (0 < (x.vers).length)) = true := by
      cases hv : x.vers with
      | nil => rfl
      | cons a b => rw [decide_eq_true (by simp)]; generalize ((((a :: b).length : Nat) : Int) == 1) = c; cases c <;> cases (gt (a :: b) 0).gone <;> rfl
    rw [chk_t c1, chk_t c2, e_Covers hv, gcall_s, Option.bind_some, List.filter_cons]
    have hk : (((((x.vers).length : Nat) : Int) == 1) && (gt (x.vers) 0).gone && (bif ((((x.vers).length : Nat) : Int) == 1) && (gt (x.vers) 0).gone then cov v (gt (x.vers) 0).dot else default)) = !keepB v x := by
      unfold keepB
      generalize (((((x.vers).length : Nat) : Int) == 1) && (gt (x.vers) 0).gone) = a
      cases a <;> simp
    rw [hk]
    cases hq : keepB v x with
    | false =>
      rw [show (!false) = true from rfl, bif_t rfl, ih0]; rfl
    | true =>
      rw [show (!true) = false from rfl, bif_f rfl, List.length_map, chk_t (decide_eq_true (by omega)), hx, mget_mput, if_pos rfl, if_pos rfl, Option.getD_some, Option.getD_some]
      rw [List.map_append, List.map_singleton, List.foldl_append, List.append_assoc, List.singleton_append] at ih1
      exact ih1
theorem mdel_no {k : ByteArray} : ∀ {m : Mp}, mget k m = none → mdel k m = m
  | [], _ => rfl
  | p :: m, h => by
    unfold mget at h
    unfold mdel
    split at h
    · cases h
    · rename_i hc
      rw [if_neg hc, mdel_no h]
theorem put_lay : ∀ {l : List Rec} {m : Mp}, (∀ x ∈ l, x.vers ≠ [] ∧ mget x.key m = none) → (l.Pairwise fun a b => a.key ≠ b.key) → l.foldl putM m = l.foldl layM m
  | [], _, _, _ => rfl
  | x :: l, m, h, hp => by
    rw [List.pairwise_cons] at hp
    have hx := h x List.mem_cons_self
    have e : layM m x = putM m x := by unfold layM putM; rw [if_neg hx.1, mdel_no hx.2]
    rw [List.foldl_cons, List.foldl_cons, e]
    refine put_lay (fun y hy => ⟨(h y (List.mem_cons_of_mem _ hy)).1, ?_⟩) hp.2
    unfold putM
    rw [mget_mput, if_neg (fun e => hp.1 y hy e.symm)]
    exact (h y (List.mem_cons_of_mem _ hy)).2
def kept (v : List Int) (L : List Rec) : List Rec := (recsOf (keysOf L)).filter (keepB v)
theorem kept_rt {v : List Int} {L : List Rec} (h : ∀ r ∈ L, Rt r) : ∀ r ∈ kept v L, Rt r := fun r hr => (rec_mem (KI.of h) (List.mem_filter.1 hr).1).1
theorem kept_put {v : List Int} {L : List Rec} (h : ∀ r ∈ L, Rt r) : (kept v L).foldl putM [] = keysOf (kept v L) :=
  put_lay (fun x hx => ⟨(rec_mem (KI.of h) (List.mem_filter.1 hx).1).2.1, rfl⟩) ((recs_nd (KI.of h)).filter _)
theorem kept_len (v : List Int) (L : List Rec) : (kept v L).length ≤ L.length := by
  have h1 := List.length_filter_le (keepB v) (recsOf (keysOf L))
  have h2 := recs_len (keysOf L)
  have h3 := keysOf_len L
  unfold kept; omega
section
variable {nm : ByteArray} {size : Int} {R N : Nat} {e : Dk} {s : Ostore_Store} {L : List Rec}
theorem StI.recs (h : StI nm size R N e s L) (hN : N ≤ lim) : m_store_Store_Recs s = some (recsOf (keysOf L)) := by
  have h1 := keysOf_len L
  have h2 := h.ln
  obtain rfl := h.st
  exact e_Recs (KI.of h.rt) (by omega)
/-- what a trimming comes to -/
inductive TrimR (nm : ByteArray) (size : Int) (R M : Nat) (d : Dk) (s : Ostore_Store) (L : List Rec) (v : List Int) : Ostore_Store × Dk × Int → Prop
  | no (e : Dk) (c : Int) : c ≠ 0 → (¬ Rk ((kept v L).map reB) ∨ R < Fw.sz d.seen + (frs ((kept v L).map reB)).length + 10 ∨ 999999 < (kept v L).length) → DI R M e → Tch (Gf nm 1) d.seen e → TrimR nm size R M d s L v (s, e, c)
  | ok (e : Dk) : Rk ((kept v L).map reB) → DI R M e → e.loose = [] → Has nm 1 (bsOf size ((kept v L).map reB)) e.seen → Own1 nm 1 e.seen → mget (mn nm) e.seen = some (fr (pn 1)) → Ks e.seen →
      TrimR nm size R M d s L v (⟨lg nm 1 size (bsOf size ((kept v L).map reB)) (kept v L).length, keysOf (kept v L)⟩, e, 0)
theorem e_Trim (h : StI nm size R N e s L) (hnm : Nm nm) (hR : R ≤ MX) (hs0 : 0 ≤ size) (hs1 : size ≤ 9223372036854775807) {v : List Int} (hv : v.length ≤ lim) {M : Nat} (hM : M = 4 * (N + N + 2)) (hL : M ≤ lim) :
    ∃ z, m_store_Store_Trim s v e = some z ∧ TrimR nm size R M e s L v z := by
  have hln := h.ln
  have hkl := kept_len v L
  have hrc := h.recs (by omega)
  obtain rfl := h.st
  unfold m_store_Store_Trim
  rw [hrc, Option.bind_some]
  have ht := trim_loop hv (g := lg nm 0 size (bsOf size (L.map reB)) L.length) (m := keysOf L) (K := fun (list_14, m19) => Option.bind (m_seglog_Log_Rewrite (lg nm 0 size (bsOf size (L.map reB)) L.length) list_14 e) fun z92 => bif (z92.2.2 != 0) then some ((⟨z92.1, keysOf L⟩ : Ostore_Store), z92.2.1, z92.2.2) else some ((⟨z92.1, m19⟩ : Ostore_Store), z92.2.1, 0)) (recsOf (keysOf L)) 0 [] (fun x hx => (rec_mem (KI.of h.rt) hx).2.2) (by rw [recs_len]; have := keysOf_len L; simp only [List.length_nil]; omega)
  suffices hh : ∃ z, (Option.bind (m_seglog_Log_Rewrite (lg nm 0 size (bsOf size (L.map reB)) L.length) ((kept v L).map reB) e) fun z92 => bif (z92.2.2 != 0) then some ((⟨z92.1, keysOf L⟩ : Ostore_Store), z92.2.1, z92.2.2) else some ((⟨z92.1, (kept v L).foldl putM []⟩ : Ostore_Store), z92.2.1, 0)) = some z ∧ TrimR nm size R M e ⟨lg nm 0 size (bsOf size (L.map reB)) L.length, keysOf L⟩ L v z by
    obtain ⟨z, h1, h2⟩ := hh
    exact ⟨z, ht.trans h1, h2⟩
  rw [kept_put h.rt]
  obtain ⟨z, a1, a2⟩ := e_Rewrite2 h.di hR hnm (g := 0) (by decide) hs0 hs1 (bs := bsOf size (L.map reB)) (cnt := L.length) (h.on.ks hnm (Nat.zero_le _)) h.on.own ((kept v L).map reB) (by rw [List.length_map]; omega) (B := N) (M := M) (.inl (by rw [List.length_map]; omega)) hM hL
  rw [a1, Option.bind_some]
  cases a2 with
  | no e' c hc why hd hs ht =>
    simp only
    rw [bif_t (by simpa using hc)]
    rw [List.length_map] at why
    exact ⟨_, rfl, .no e' c hc why hd (ht h.lo)⟩
  | ok e' hrk hd hlo hhas hown hmn hoth =>
    simp only
    rw [bif_f (by decide)]
    rw [h.on.list hnm, List.nil_append] at hmn
    rw [List.length_map]
    refine ⟨_, rfl, .ok e' hrk hd hlo hhas hown hmn fun k hk => ?_⟩
    rcases hown k hk with hp | ⟨j, _, j2, e1⟩
    · by_cases hkm : k = mn nm
      · rw [hkm]; exact okn_mn hnm
      · exfalso
        rw [hoth k hp hkm] at hk
        obtain ⟨j, j1, j2, e1⟩ := h.on.2 k hk
        rw [e1, pf_own ⟨by omega, j1, j2⟩] at hp; cases hp
    · rw [e1]; exact okn_fn hnm (by omega) j2
theorem crash_clean {d : Dk} {N : Nat} (h : DI R N d) (hl : d.loose = []) (keep torn : Int) : crashM d keep torn = d.seen := by
  have h1 : cK d keep = 0 := by have := cK_le (d := d) keep; rw [hl] at this; exact Nat.le_zero.1 this
  unfold crashM
  have h2 : cT d (cK d keep) torn = false := by unfold cT; rw [hl]; simp
  rw [h2, bif_f rfl, h.see, hl, List.take_nil]
theorem dcrash_clean {d : Dk} {N : Nat} (h : DI R N d) (hl : d.loose = []) (keep torn : Int) : dCrash d keep torn = d := by
  unfold dCrash
  rw [crash_clean h hl]
  have h2 : d.safe_ = d.seen := by rw [h.see, hl]; rfl
  obtain ⟨a, b, c, l⟩ := d
  simp only at h2 hl ⊢
  rw [h2, hl]
/-- the store is opened again -/
theorem StI.open_ (h : StI nm size R N e s L) (hnm : Nm nm) (hR : R ≤ MX) (hN : 4 * N + 10 ≤ lim) {sz : Int} (hs : size = max sz 16) : m_store_Open e nm sz = some (e, some s, 0) := by
  obtain ⟨d', o1, o2, o3, o4, o5⟩ := open_only h.di hR hN hnm sz h.on
  rw [scan_bsOf _ h.rk] at o1 o5
  rw [o5 rfl, List.length_map, ← hs] at o1
  rw [e_SOpen o1 h.rt, h.st]
/-- behind a crash the store is what it was after the trimming -/
theorem trim_crash (h : StI nm size R N e s L) (hnm : Nm nm) (hR : R ≤ MX) {v : List Int} {M : Nat} (hL : 8 * M + 20 ≤ lim) {z : Ostore_Store × Dk × Int} (hz : TrimR nm size R M e s L v z) (keep torn sz : Int) :
    ∃ d' g L', m_store_Open (dCrash z.2.1 keep torn) nm sz = some (d', some ⟨g, keysOf L'⟩, 0) ∧ z.1.keys = keysOf L' ∧ (∀ r ∈ L', Rt r) ∧ L'.length ≤ L.length ∧ (z.2.2 ≠ 0 → L' = L) := by
  cases hz with
  | no e' c hc why hd ht =>
    have hcr := ht.crash keep torn
    have hdc := hd.crash keep torn
    have hmn : mget (mn nm) (crashM e' keep torn) = none := by
      rw [hcr _ (fun ⟨j, _, _, e1⟩ => mn_fn hnm hnm e1)]
      have := h.on.list hnm
      cases hs : mget (mn nm) e.seen with
      | none => rfl
      | some w =>
        obtain ⟨j, _, _, e1⟩ := h.on.2 _ (by rw [hs]; rfl)
        exact absurd e1 (mn_fn hnm hnm)
    have hown : ∀ k, (mget k (crashM e' keep torn)).isSome = true → ∃ g j, g ≤ 1 ∧ 1 ≤ j ∧ j ≤ 999999 ∧ k = fn nm g j := fun k hk => by
      by_cases hg : Gf nm 1 k
      · obtain ⟨j, j1, j2, e1⟩ := hg
        exact ⟨1, j, Nat.le_refl _, j1, j2, e1⟩
      · rw [hcr k hg] at hk
        obtain ⟨j, j1, j2, e1⟩ := h.on.2 k hk
        exact ⟨0, j, Nat.zero_le _, j1, j2, e1⟩
    obtain ⟨d', o1⟩ := e_Open2 hdc hR (by omega) hnm (fun k hk => by
      obtain ⟨g, j, g1, j1, j2, e1⟩ := hown k hk
      rw [e1]; exact okn_fn hnm (by omega) j2) sz (gl := []) (e0 := 0) (g := 0) (bs := bsOf size (L.map reB)) (Nat.zero_le _) (by
        have : fb (dCrash e' keep torn) (mn nm) = [] := by unfold fb; rw [show (dCrash e' keep torn).seen = crashM e' keep torn from rfl, hmn]; rfl
        rw [this]; rfl) rfl ⟨h.on.1.1, fun k k1 k2 => by
          rw [show (dCrash e' keep torn).seen = crashM e' keep torn from rfl, hcr _ (fun ⟨j, _, _, e1⟩ => by have := (fn_inj hnm hnm e1).2.1; omega)]
          exact h.on.1.2 k k1 k2⟩ (fun k hk => by
            obtain ⟨g, j, g1, j1, j2, e1⟩ := hown k hk
            exact .inr ⟨g, j, by omega, j1, j2, e1⟩)
    rw [scan_bsOf _ h.rk] at o1
    exact ⟨d', _, L, e_SOpen o1 h.rt, by rw [h.st], h.rt, Nat.le_refl _, fun _ => rfl⟩
  | ok e' hrk hd hlo hhas hown hmn hks =>
    simp only
    rw [dcrash_clean hd hlo]
    have hp1 : pn 1 = [1] := by rw [pn_lt (by decide)]; rfl
    have hfe : fb e' (mn nm) = frs [pn 1] := by unfold fb; rw [hmn]; simp [frs]
    obtain ⟨d', o1, _⟩ := e_Open hd hR (by omega) hnm hks sz (gl := [pn 1]) (e0 := 0) (g := 1) (by omega) (by rw [hfe]; exact all_frs0 (by intro x hx; rw [List.mem_singleton.1 hx, hp1]; decide)) (by rw [hp1]; rfl) hhas hown
    rw [scan_bsOf _ hrk] at o1
    exact ⟨d', _, kept v L, e_SOpen o1 (kept_rt h.rt), rfl, kept_rt h.rt, kept_len v L, fun h => absurd rfl h⟩
end
end Fw
end Go.Proofs.YtmafjpdiplfcmaaGreat

namespace Go.Proofs.YtmafjpdiplfcmaaGreat
namespace Fw
set_option linter.unusedVariables false
set_option linter.unusedSimpArgs false
set_option linter.unusedSectionVars false

theorem TrimR.di {nm : ByteArray} {size : Int} {R M : Nat} {d : Dk} {s : Ostore_Store} {L : List Rec} {v : List Int} {z : Ostore_Store × Dk × Int} (h : TrimR nm size R M d s L v z) : DI R M z.2.1 := by
  cases h with
  | no e c _ _ h _ => exact h
  | ok e _ h _ _ _ _ _ => exact h
/-- a store on a disk that has nothing -/
theorem sti0 {nm : ByteArray} (hnm : Nm nm) (room : Int) {sz : Int} : StI nm (max sz 16) (rm room) 0 (d0 room) ⟨lg nm 0 (max sz 16) [] 0, []⟩ [] ∧ m_store_Open (d0 room) nm sz = some (d0 room, some ⟨lg nm 0 (max sz 16) [] 0, []⟩, 0) :=
  ⟨⟨di0 room, rfl, rfl, (fun r hr => by cases hr), (fun x hx => by cases hx), Only.nil, Nat.le_refl _⟩, e_SOpen (L := []) (open_new hnm room sz) (fun r hr => by cases hr)⟩

/-! ### the answers that are fixed -/
def aK : Rec := ⟨⟨#[107]⟩, [⟨⟨1, 1⟩, [], false, ByteArray.empty⟩]⟩
def aL : Rec := ⟨⟨#[108]⟩, [⟨⟨2, 1⟩, [], true, ByteArray.empty⟩]⟩
theorem rt_aK : Rt aK := by
  have h : m_code_RightRec aK = some true := by decide
  obtain ⟨b, h1, h2⟩ := e_RightRec2 (r := aK) (by decide)
  rw [h] at h1
  injection h1 with h1
  exact ⟨h, h2 h1.symm⟩
theorem rt_aL : Rt aL := by
  have h : m_code_RightRec aL = some true := by decide
  obtain ⟨b, h1, h2⟩ := e_RightRec2 (r := aL) (by decide)
  rw [h] at h1
  injection h1 with h1
  exact ⟨h, h2 h1.symm⟩
theorem pz1 {n : Int} (h : n < 128) : (pz n).length = 1 := by unfold pz; rw [pn_lt (by omega)]; rfl
theorem len_aK : (reB aK).length = 8 := by
  unfold reB vesB aK veB spsB txB
  simp only [List.map_cons, List.map_nil, List.flatten_cons, List.flatten_nil, cond_false, List.length_append, List.length_nil]
  rw [pz1 (by decide), pz1 (by decide), pz1 (by decide), pz1 (by decide), pz1 (by decide), pz1 (by decide)]
  rfl
theorem len_aL : (reB aL).length = 7 := by
  unfold reB vesB aL veB spsB txB
  simp only [List.map_cons, List.map_nil, List.flatten_cons, List.flatten_nil, cond_true, List.length_append, List.length_nil]
  rw [pz1 (by decide), pz1 (by decide), pz1 (by decide), pz1 (by decide), pz1 (by decide)]
  rfl
theorem fr_aK : (fr (reB aK)).length = 13 := by rw [fr_len, len_aK, pn_lt (by decide)]; rfl
theorem fr_aL : (fr (reB aL)).length = 12 := by rw [fr_len, len_aL, pn_lt (by decide)]; rfl
theorem rec_inj {a b : Rec} (ha : Rt a) (hb : Rt b) (h : reB a = reB b) : a = b := by
  have h1 := e_Rec ha.2 ha.1
  rw [h, e_Rec hb.2 hb.1] at h1
  injection h1 with h1
  injection h1 with h1
  exact h1.symm
theorem keys_a : keysOf [aK, aL] = [(⟨#[107]⟩, reB aK), (⟨#[108]⟩, reB aL)] := rfl
theorem keys_a1 : keysOf [aK] = [(⟨#[107]⟩, reB aK)] := rfl
theorem kept_a : kept [9, 1] [aK, aL] = [aK] := by
  have hrt : ∀ r ∈ [aK, aL], Rt r := fun r hr => by
    rcases List.mem_cons.1 hr with e | hr
    · rw [e]; exact rt_aK
    · rw [List.mem_singleton.1 hr]; exact rt_aL
  have hK := KI.of hrt
  have hmem : ∀ x, x ∈ recsOf (keysOf [aK, aL]) → x = aK ∨ x = aL := fun x hx => by
    obtain ⟨h1, _, h3⟩ := rec_mem hK hx
    have h4 := mem_of_mget h3
    rw [keys_a] at h4
    rcases List.mem_cons.1 h4 with e | h4
    · injection e with e1 e2
      exact .inl (rec_inj h1 rt_aK e2)
    · have e := List.mem_singleton.1 h4
      injection e with e1 e2
      exact .inr (rec_inj h1 rt_aL e2)
  have hall : ∀ x ∈ kept [9, 1] [aK, aL], x = aK := fun x hx => by
    obtain ⟨h1, h2⟩ := List.mem_filter.1 hx
    rcases hmem x h1 with e | e
    · exact e
    · exfalso; rw [e] at h2
      exact absurd h2 (by decide)
  have hin : aK ∈ kept [9, 1] [aK, aL] := by
    refine List.mem_filter.2 ⟨?_, by decide⟩
    unfold recsOf
    refine List.mem_map.2 ⟨⟨#[107]⟩, ?_, ?_⟩
    · rw [mem_skeys, keys_a]; exact List.mem_cons_self
    · have : (mget (⟨#[107]⟩ : ByteArray) (keysOf [aK, aL])).getD [] = reB aK := rfl
      rw [this]
      unfold decV
      rw [e_Rec rt_aK.2 rt_aK.1]; rfl
  have hp : (kept [9, 1] [aK, aL]).Pairwise fun a b => a.key ≠ b.key := (recs_nd hK).filter _
  match hq : kept [9, 1] [aK, aL], hall, hin, hp with
  | [], _, hin, _ => cases hin
  | [x], hall, _, _ => rw [hall x List.mem_cons_self]
  | x :: y :: l, hall, _, hp =>
    rw [List.pairwise_cons] at hp
    exact absurd (by rw [hall x List.mem_cons_self, hall y (List.mem_cons_of_mem _ List.mem_cons_self)]) (hp.1 y List.mem_cons_self)
theorem nmS : Nm ⟨#[115]⟩ := nm1 (by decide)
theorem e_awake10 : m_firthlaw10_awake = some true := by
  have l := lim_eq
  unfold m_firthlaw10_awake
  obtain ⟨S0, O0⟩ := sti0 nmS 1000 (sz := 64)
  rw [e_New, Option.bind_some, O0, Option.bind_some]
  simp only [Option.isNone_some]
  rw [bif_t (by decide), Option.bind_some]
  have z0 : Fw.sz (d0 1000).seen = 0 := rfl
  generalize d0 1000 = e0 at S0 z0 ⊢
  obtain ⟨R, hR⟩ : ∃ R, rm 1000 = R := ⟨_, rfl⟩
  have hRv : R = 1000 := by rw [← hR]; decide
  have hRM : R ≤ MX := by rw [← hR]; exact rm_le _
  rw [hR] at S0
  clear hR
  have v1 : m_firthlaw10_ver 1 1 false = some ⟨⟨1, 1⟩, [], false, ByteArray.empty⟩ := rfl
  have v2 : m_firthlaw10_ver 2 1 true = some ⟨⟨2, 1⟩, [], true, ByteArray.empty⟩ := rfl
  rw [v1, Option.bind_some, show (⟨⟨#[107]⟩, [⟨⟨1, 1⟩, [], false, ByteArray.empty⟩]⟩ : Rec) = aK from rfl]
  obtain ⟨s1, e1, c1, L1, p1, S1, q1⟩ := e_SPut S0 nmS hRM (by decide) (by decide) (by omega) (r := aK) (by decide)
  obtain ⟨rfl, rfl, z1⟩ := q1 rt_aK (by rw [len_aK]; decide) (by decide) (by rw [fr_aK]; omega)
  rw [p1, Option.bind_some]
  simp only
  rw [bif_t (by decide), v2, Option.bind_some, show (⟨⟨#[108]⟩, [⟨⟨2, 1⟩, [], true, ByteArray.empty⟩]⟩ : Rec) = aL from rfl]
  obtain ⟨s2, e2, c2, L2, p2, S2, q2⟩ := e_SPut S1 nmS hRM (by decide) (by decide) (by omega) (r := aL) (by decide)
  obtain ⟨rfl, rfl, z2⟩ := q2 rt_aL (by rw [len_aL]; decide) (by decide) (by rw [fr_aL, z1, fr_aK]; omega)
  rw [p2, Option.bind_some]
  simp only
  rw [bif_f (by decide)]
  have hLL : [] ++ [aK] ++ [aL] = [aK, aL] := rfl
  rw [hLL] at S2
  obtain ⟨z, t1, t2⟩ := e_Trim S2 nmS hRM (by decide) (by decide) (v := [9, 1]) (by rw [l]; decide) (M := 4 * (0 + 1 + 1 + (0 + 1 + 1) + 2)) rfl (by omega)
  have hst := S2.st
  have hkeys : m_store_Store_Keys s2 = some (skeys (keysOf [aK, aL])) := by rw [hst]; exact e_Keys (by rw [keys_a, l]; decide)
  rw [hkeys, Option.bind_some, t1, Option.bind_some, skeys_len]
  cases t2 with
  | no e c hc why _ _ =>
    exfalso
    rw [kept_a] at why
    rcases why with q | q | q
    · exact q (by intro x hx; rw [List.map_singleton, List.mem_singleton] at hx; rw [hx, len_aK]; decide)
    · have : (frs ([aK].map reB)).length = 13 := by rw [List.map_singleton, frs_cons, frs_nil, List.append_nil, fr_aK]
      rw [this, z2, z1, fr_aK, fr_aL] at q
      omega
    · exact absurd q (by decide)
  | ok e _ _ _ _ _ _ _ =>
    simp only
    rw [kept_a]
    have hk1 : KI (keysOf [aK]) := KI.of fun r hr => by rw [List.mem_singleton.1 hr]; exact rt_aK
    rw [bif_t (by rw [keys_a]; decide), e_Keys (by rw [keys_a1, l]; decide), Option.bind_some, skeys_len]
    have hw : m_store_Store_Waste ⟨lg ⟨#[115]⟩ 1 (max 64 16) (bsOf (max 64 16) (List.map reB [aK])) [aK].length, keysOf [aK]⟩ = some 0 := by
      unfold m_store_Store_Waste m_seglog_Log_Count lg
      rw [keys_a1]; decide
    rw [hw, gcall_s, Option.bind_some, bif_t (by rw [keys_a1]; decide), e_Get hk1, Option.bind_some]
    have g1 : (mget (⟨#[107]⟩ : ByteArray) (keysOf [aK])).getD [] = reB aK := rfl
    have g2 : (mget (⟨#[108]⟩ : ByteArray) (keysOf [aK])).getD [] = [] := rfl
    have d1 : decV (reB aK) = aK.vers := by unfold decV; rw [e_Rec rt_aK.2 rt_aK.1]
    have d2 : decV [] = [] := by unfold decV; rw [e_Rec_nil]
    rw [g1, d1, bif_t (by decide), e_Get hk1, Option.bind_some, g2, d2]; rfl

/-! ### the law -/
theorem p_firthlaw10_StoreCrash {Γ : Gh} {Alist : Option Addr} {clist : Nat} {list : List Rec} (hlist : Sl recT Γ Alist list) (hlistc : list.length ≤ clist) {Afloor : Option Addr} {cfloor : Nat} {floor : List Int} (hfloor : Sl intT Γ Afloor floor) (hfloorc : floor.length ≤ cfloor) (fate0 : Int) (hfate0 : I64 fate0) (fate1 : Int) (hfate1 : I64 fate1) (hb : bkL Rec.bk list ≤ 1048576) (hb2 : bkL bkOne floor ≤ 1048576) : m_firthlaw10_StoreCrash list floor fate0 fate1 = some true := by
  have l := lim_eq
  have hll : list.length ≤ 1048576 := Nat.le_trans (bkL_len (fun r => by unfold Rec.bk; omega) list) hb
  have hfl := hfloor.le
  have hvl : ∀ i, i < list.length → (gt list i).vers.length ≤ lim := fun i hi => by
    obtain ⟨A2, c2, h2⟩ := hlist.recT_at i
    exact (h2 hi).1.2.2.le
  unfold m_firthlaw10_StoreCrash
  obtain ⟨S0, O0⟩ := sti0 nmS 1048576 (sz := 200)
  rw [e_awake10, Option.bind_some, show (!true) = false from rfl, bif_f rfl, e_New, Option.bind_some, O0, Option.bind_some]
  simp only [Option.isNone_some]
  rw [bif_f (by decide), Option.bind_some]
  obtain ⟨R, hR⟩ : ∃ R, rm 1048576 = R := ⟨_, rfl⟩
  have hRM : R ≤ MX := by rw [← hR]; exact rm_le _
  rw [hR] at S0
  clear hR
  refine forI_run (fun i (s : Dk × Ostore_Store) => ∃ L, StI ⟨#[115]⟩ (max 200 16) R i s.1 s.2 L) (fun s hI => ?_) (fun f i s hi hI hf => ?_) (s := (_, _)) ⟨[], S0⟩
  · obtain ⟨e, s⟩ := s
    obtain ⟨L, S⟩ := hI
    simp only at S ⊢
    have hln := S.ln
    rw [S.recs (by omega), Option.bind_some, e_Crash S.di hRM, Option.bind_some, dcrash_clean S.di S.lo, S.open_ nmS hRM (by omega) rfl, Option.bind_some]
    simp only [Option.isNone_some]
    rw [bif_t (by decide), Option.bind_some, S.recs (by omega), Option.bind_some, e_same, Option.bind_some, show (!true) = false from rfl, bif_f rfl]
    obtain ⟨z, t1, t2⟩ := e_Trim S nmS hRM (by decide) (by decide) (v := floor) hfl (M := 4 * (list.length + list.length + 2)) rfl (by omega)
    rw [t1, Option.bind_some]
    obtain ⟨d', g, L', o1, o2, o3, o4, o5⟩ := trim_crash S nmS hRM (by omega) t2 fate0 fate1 200
    have hk := KI.of o3
    have hkl := keysOf_len L'
    obtain ⟨⟨zl, zk⟩, zd, zc⟩ := z
    simp only at o1 o2 o5 ⊢
    have hdi := t2.di
    simp only at hdi
    subst o2
    rw [e_Recs hk (by omega), Option.bind_some, e_Crash hdi hRM, Option.bind_some, o1, Option.bind_some]
    simp only [Option.isNone_some]
    rw [bif_t (by decide), Option.bind_some, e_Recs hk (by omega), Option.bind_some, e_same, Option.bind_some]
    by_cases hc : zc = 0
    · subst hc
      obtain ⟨b, hb⟩ : ∃ b, gcall (true && !((0 : Int) == 0)) (m_firthref06_SameRecs (recsOf (keysOf L')) (recsOf (keysOf L))) = some b := ⟨_, rfl⟩
      rw [hb]; rfl
    · rw [o5 hc, e_same, gcall_s, Option.bind_some]
      have : (zc == 0) = false := by rw [beq_eq_false_iff_ne]; exact hc
      rw [this]; rfl
  · obtain ⟨e, s⟩ := s
    obtain ⟨L, S⟩ := hI
    simp only at S
    unfold m_firthlaw10_StoreCrash_b1
    simp only
    obtain ⟨s', e', c, L', p1, S', _⟩ := e_SPut S nmS hRM (by decide) (by decide) (by omega) (r := gt list i) (hvl i hi)
    rw [p1, Option.bind_some]
    exact hf (e', s') ⟨L', S'⟩
end Fw
end Go.Proofs.YtmafjpdiplfcmaaGreat
