/- The plain side: what the models come to. No condition. -/
import Derived.Test.YtmafjpdiplfcmaaGreatPJ1
namespace Go.Proofs.YtmafjpdiplfcmaaGreat
namespace Fw
set_option linter.unusedVariables false
set_option linter.unusedSimpArgs false
set_option linter.unusedSectionVars false

def cov (v : List Int) (d : Dot) : Bool := ((((decide (1 ≤ d.s)) && (decide (d.s ≤ ((v.length : Nat) : Int)))) && (decide (1 ≤ d.n))) && (decide (d.n ≤ (gt v ((w64 (d.s - 1)).toNat)))))
def keepB (v : List Int) (r : Rec) : Bool := !((((((r.vers).length : Nat) : Int) == 1) && (gt (r.vers) 0).gone) && cov v (gt (r.vers) 0).dot)
theorem e_Covers {v : List Int} (hv : v.length ≤ lim) (d : Dot) : m_vect_Covers v d = some (cov v d) := by
  rw [lim_eq] at hv
  unfold m_vect_Covers
  rw [chk_t]; · rfl
  by_cases h : 1 ≤ d.s ∧ d.s ≤ ((v.length : Nat) : Int)
  · have hi : inb (w64 (d.s - 1)) v.length = true := by
      rw [w64_i (by unfold I64; omega)]
      unfold inb
      rw [Bool.and_eq_true, decide_eq_true_eq, decide_eq_true_eq]; omega
    rw [hi]
    generalize (((decide (1 ≤ d.s)) && (decide (d.s ≤ ((v.length : Nat) : Int)))) && (decide (1 ≤ d.n))) = c
    cases c <;> rfl
  · have hc : ((decide (1 ≤ d.s)) && (decide (d.s ≤ ((v.length : Nat) : Int)))) = false := by
      rw [Bool.and_eq_false_iff, decide_eq_false_iff_not, decide_eq_false_iff_not]
      omega
    rw [hc]; rfl
theorem trim_loop {v : List Int} (hv : v.length ≤ lim) {g : Oseglog_Log} {m : Mp} {K : Bs × Mp → Option (Ostore_Store × Dk × Int)} : ∀ (l : List Rec) (i : Nat) (acc : List Rec), (∀ x ∈ l, mget x.key m = some (reB x)) → acc.length + l.length ≤ lim →
    forI (m_store_Store_Trim_b4 ⟨g, m⟩ v) K i l (acc.map reB, acc.foldl putM []) = K ((acc ++ l.filter (keepB v)).map reB, (acc ++ l.filter (keepB v)).foldl putM [])
  | [], i, acc, _, _ => by show K _ = _; rw [List.filter_nil, List.append_nil]
  | x :: l, i, acc, h, hl => by
    rw [List.length_cons] at hl
    have hx := h x List.mem_cons_self
    have ih0 := trim_loop hv (g := g) (m := m) (K := K) l (i + 1) acc (fun y hy => h y (List.mem_cons_of_mem _ hy)) (by omega)
    have ih1 := trim_loop hv (g := g) (m := m) (K := K) l (i + 1) (acc ++ [x]) (fun y hy => h y (List.mem_cons_of_mem _ hy)) (by rw [List.length_append, List.length_singleton]; omega)
    show m_store_Store_Trim_b4 ⟨g, m⟩ v (forI (m_store_Store_Trim_b4 ⟨g, m⟩ v) K (i + 1) l) i x _ = _
    generalize forI (m_store_Store_Trim_b4 ⟨g, m⟩ v) K (i + 1) l = f at ih0 ih1 ⊢
    unfold m_store_Store_Trim_b4 m_store_Store_Trim_j5
    simp only
    have c1 : imp ((((x.vers).length : Nat) : Int) == 1) (decide (0 < (x.vers).length)) = true := by
      cases hv : x.vers with
      | nil => rfl
      | cons a b => rw [decide_eq_true (by simp)]; generalize ((((a :: b).length : Nat) : Int) == 1) = c; cases c <;> rfl
    have c2 : imp (((((x.vers).length : Nat) : Int) == 1) && (gt (x.vers) 0).gone) (decide (0 < (x.vers).length)) = true := by
      cases hv : x.vers with
      | nil => rfl
      | cons a b => rw [decide_eq_true (by simp)]; generalize ((((a :: b).length : Nat) : Int) == 1) = c; cases c <;> cases (gt (a :: b) 0).gone <;> rfl
    rw [chk_t c1, chk_t c2, e_Covers hv, gcall_s, Option.bind_some, List.filter_cons]
    have hk : (((((x.vers).length : Nat) : Int) == 1) && (gt (x.vers) 0).gone && (bif ((((x.vers).length : Nat) : Int) == 1) && (gt (x.vers) 0).gone then cov v (gt (x.vers) 0).dot else default)) = !keepB v x := by
      unfold keepB
      generalize (((((x.vers).length : Nat) : Int) == 1) && (gt (x.vers) 0).gone) = a
      cases a <;> simp
    rw [hk]
    cases hq : keepB v x with
    | false =>
      rw [show (!false) = true from rfl, bif_t rfl, ih0]; rfl
    | true =>
      rw [show (!true) = false from rfl, bif_f rfl, List.length_map, chk_t (decide_eq_true (by omega)), hx, mget_mput, if_pos rfl, if_pos rfl, Option.getD_some, Option.getD_some]
      rw [List.map_append, List.map_singleton, List.foldl_append, List.append_assoc, List.singleton_append] at ih1
      exact ih1
theorem mdel_no {k : ByteArray} : ∀ {m : Mp}, mget k m = none → mdel k m = m
  | [], _ => rfl
  | p :: m, h => by
    unfold mget at h
    unfold mdel
    split at h
    · cases h
    · rename_i hc
      rw [if_neg hc, mdel_no h]
theorem put_lay : ∀ {l : List Rec} {m : Mp}, (∀ x ∈ l, x.vers ≠ [] ∧ mget x.key m = none) → (l.Pairwise fun a b => a.key ≠ b.key) → l.foldl putM m = l.foldl layM m
  | [], _, _, _ => rfl
  | x :: l, m, h, hp => by
    rw [List.pairwise_cons] at hp
    have hx := h x List.mem_cons_self
    have e : layM m x = putM m x := by unfold layM putM; rw [if_neg hx.1, mdel_no hx.2]
    rw [List.foldl_cons, List.foldl_cons, e]
    refine put_lay (fun y hy => ⟨(h y (List.mem_cons_of_mem _ hy)).1, ?_⟩) hp.2
    unfold putM
    rw [mget_mput, if_neg (fun e => hp.1 y hy e.symm)]
    exact (h y (List.mem_cons_of_mem _ hy)).2
def kept (v : List Int) (L : List Rec) : List Rec := (recsOf (keysOf L)).filter (keepB v)
theorem kept_put {v : List Int} {L : List Rec} (h : ∀ r ∈ L, Rt r) : (kept v L).foldl putM [] = keysOf (kept v L) :=
  put_lay (fun x hx => ⟨(rec_mem (KI.of h) (List.mem_filter.1 hx).1).2.1, rfl⟩) ((recs_nd (KI.of h)).filter _)
theorem kept_len (v : List Int) (L : List Rec) : (kept v L).length ≤ L.length := by
  have h1 := List.length_filter_le (keepB v) (recsOf (keysOf L))
  have h2 := recs_len (keysOf L)
  have h3 := keysOf_len L
  unfold kept; omega
section
variable {nm : ByteArray} {size : Int} {R N : Nat} {e : Dk} {s : Ostore_Store} {L : List Rec}
theorem StI.recs (h : StI nm size R N e s L) (hN : N ≤ lim) : m_store_Store_Recs s = some (recsOf (keysOf L)) := by
  have h1 := keysOf_len L
  have h2 := h.ln
  obtain rfl := h.st
  exact e_Recs (KI.of h.rt) (by omega)
/-- what a trimming comes to -/
inductive TrimR (nm : ByteArray) (size : Int) (R M : Nat) (d : Dk) (s : Ostore_Store) (L : List Rec) (v : List Int) : Ostore_Store × Dk × Int → Prop
  | no (e : Dk) (c : Int) : c ≠ 0 → (¬ Rk ((kept v L).map reB) ∨ R < Fw.sz d.seen + (frs ((kept v L).map reB)).length + 10 ∨ 999999 < (kept v L).length) → DI R M e → Tch (Gf nm 1) d.seen e → TrimR nm size R M d s L v (s, e, c)
  | ok (e : Dk) : Rk ((kept v L).map reB) → DI R M e → e.loose = [] → Has nm 1 (bsOf size ((kept v L).map reB)) e.seen → Own1 nm 1 e.seen → mget (mn nm) e.seen = some (fr (pn 1)) → Ks e.seen →
      TrimR nm size R M d s L v (⟨lg nm 1 size (bsOf size ((kept v L).map reB)) (kept v L).length, keysOf (kept v L)⟩, e, 0)
theorem e_Trim (h : StI nm size R N e s L) (hnm : Nm nm) (hR : R ≤ MX) (hs0 : 0 ≤ size) (hs1 : size ≤ 9223372036854775807) {v : List Int} (hv : v.length ≤ lim) {M : Nat} (hM : M = 4 * (N + N + 2)) (hL : M ≤ lim) :
    ∃ z, m_store_Store_Trim s v e = some z ∧ TrimR nm size R M e s L v z := by
  have hln := h.ln
  have hkl := kept_len v L
  have hrc := h.recs (by omega)
  obtain rfl := h.st
  unfold m_store_Store_Trim
  rw [hrc, Option.bind_some]
  have ht := trim_loop hv (g := lg nm 0 size (bsOf size (L.map reB)) L.length) (m := keysOf L) (K := fun (list_14, m19) => Option.bind (m_seglog_Log_Rewrite (lg nm 0 size (bsOf size (L.map reB)) L.length) list_14 e) fun z92 => bif (z92.2.2 != 0) then some ((⟨z92.1, keysOf L⟩ : Ostore_Store), z92.2.1, z92.2.2) else some ((⟨z92.1, m19⟩ : Ostore_Store), z92.2.1, 0)) (recsOf (keysOf L)) 0 [] (fun x hx => (rec_mem (KI.of h.rt) hx).2.2) (by rw [recs_len]; have := keysOf_len L; simp only [List.length_nil]; omega)
  suffices hh : ∃ z, (Option.bind (m_seglog_Log_Rewrite (lg nm 0 size (bsOf size (L.map reB)) L.length) ((kept v L).map reB) e) fun z92 => bif (z92.2.2 != 0) then some ((⟨z92.1, keysOf L⟩ : Ostore_Store), z92.2.1, z92.2.2) else some ((⟨z92.1, (kept v L).foldl putM []⟩ : Ostore_Store), z92.2.1, 0)) = some z ∧ TrimR nm size R M e ⟨lg nm 0 size (bsOf size (L.map reB)) L.length, keysOf L⟩ L v z by
    obtain ⟨z, h1, h2⟩ := hh
    exact ⟨z, ht.trans h1, h2⟩
  rw [kept_put h.rt]
  obtain ⟨z, a1, a2⟩ := e_Rewrite2 h.di hR hnm (g := 0) (by decide) hs0 hs1 (bs := bsOf size (L.map reB)) (cnt := L.length) (h.on.ks hnm (Nat.zero_le _)) h.on.own ((kept v L).map reB) (by rw [List.length_map]; omega) (B := N) (M := M) (.inl (by rw [List.length_map]; omega)) hM hL
  rw [a1, Option.bind_some]
  cases a2 with
  | no e' c hc why hd hs ht =>
    simp only
    rw [bif_t (by simpa using hc)]
    rw [List.length_map] at why
    exact ⟨_, rfl, .no e' c hc why hd (ht h.lo)⟩
  | ok e' hrk hd hlo hhas hown hmn hoth =>
    simp only
    rw [bif_f (by decide)]
    rw [h.on.list hnm, List.nil_append] at hmn
    rw [List.length_map]
    refine ⟨_, rfl, .ok e' hrk hd hlo hhas hown hmn fun k hk => ?_⟩
    rcases hown k hk with hp | ⟨j, _, j2, e1⟩
    · by_cases hkm : k = mn nm
      · rw [hkm]; exact okn_mn hnm
      · exfalso
        rw [hoth k hp hkm] at hk
        obtain ⟨j, j1, j2, e1⟩ := h.on.2 k hk
        rw [e1, pf_own ⟨by omega, j1, j2⟩] at hp; cases hp
    · rw [e1]; exact okn_fn hnm (by omega) j2
end
end Fw
end Go.Proofs.YtmafjpdiplfcmaaGreat

namespace Go.Proofs.YtmafjpdiplfcmaaGreat
namespace Fw
set_option linter.unusedVariables false
set_option linter.unusedSimpArgs false
set_option linter.unusedSectionVars false

theorem TrimR.di {nm : ByteArray} {size : Int} {R M : Nat} {d : Dk} {s : Ostore_Store} {L : List Rec} {v : List Int} {z : Ostore_Store × Dk × Int} (h : TrimR nm size R M d s L v z) : DI R M z.2.1 := by
  cases h with
  | no e c _ _ h _ => exact h
  | ok e _ h _ _ _ _ _ => exact h
/-- a store on a disk that has nothing -/
theorem sti0 {nm : ByteArray} (hnm : Nm nm) (room : Int) {sz : Int} : StI nm (max sz 16) (rm room) 0 (d0 room) ⟨lg nm 0 (max sz 16) [] 0, []⟩ [] ∧ m_store_Open (d0 room) nm sz = some (d0 room, some ⟨lg nm 0 (max sz 16) [] 0, []⟩, 0) :=
  ⟨⟨di0 room, rfl, rfl, (fun r hr => by cases hr), (fun x hx => by cases hx), Only.nil, Nat.le_refl _⟩, e_SOpen (L := []) (open_new hnm room sz) (fun r hr => by cases hr)⟩

/-! ### the answers that are fixed -/
def aK : Rec := ⟨⟨#[107]⟩, [⟨⟨1, 1⟩, [], false, ByteArray.empty⟩]⟩
def aL : Rec := ⟨⟨#[108]⟩, [⟨⟨2, 1⟩, [], true, ByteArray.empty⟩]⟩
theorem rt_aK : Rt aK := by
  have h : m_code_RightRec aK = some true := by decide
  obtain ⟨b, h1, h2⟩ := e_RightRec2 (r := aK) (by decide)
  rw [h] at h1
  injection h1 with h1
  exact ⟨h, h2 h1.symm⟩
theorem rt_aL : Rt aL := by
  have h : m_code_RightRec aL = some true := by decide
  obtain ⟨b, h1, h2⟩ := e_RightRec2 (r := aL) (by decide)
  rw [h] at h1
  injection h1 with h1
  exact ⟨h, h2 h1.symm⟩
theorem pz1 {n : Int} (h : n < 128) : (pz n).length = 1 := by unfold pz; rw [pn_lt (by omega)]; rfl
theorem len_aK : (reB aK).length = 8 := by
  unfold reB vesB aK veB spsB txB
  simp only [List.map_cons, List.map_nil, List.flatten_cons, List.flatten_nil, cond_false, List.length_append, List.length_nil]
  rw [pz1 (by decide), pz1 (by decide), pz1 (by decide), pz1 (by decide), pz1 (by decide), pz1 (by decide)]
  rfl
theorem len_aL : (reB aL).length = 7 := by
  unfold reB vesB aL veB spsB txB
  simp only [List.map_cons, List.map_nil, List.flatten_cons, List.flatten_nil, cond_true, List.length_append, List.length_nil]
  rw [pz1 (by decide), pz1 (by decide), pz1 (by decide), pz1 (by decide), pz1 (by decide)]
  rfl
theorem fr_aK : (fr (reB aK)).length = 13 := by rw [fr_len, len_aK, pn_lt (by decide)]; rfl
theorem fr_aL : (fr (reB aL)).length = 12 := by rw [fr_len, len_aL, pn_lt (by decide)]; rfl
theorem rec_inj {a b : Rec} (ha : Rt a) (hb : Rt b) (h : reB a = reB b) : a = b := by
  have h1 := e_Rec ha.2 ha.1
  rw [h, e_Rec hb.2 hb.1] at h1
  injection h1 with h1
  injection h1 with h1
  exact h1.symm
theorem keys_a : keysOf [aK, aL] = [(⟨#[107]⟩, reB aK), (⟨#[108]⟩, reB aL)] := rfl
theorem keys_a1 : keysOf [aK] = [(⟨#[107]⟩, reB aK)] := rfl
theorem kept_a : kept [9, 1] [aK, aL] = [aK] := by
  have hrt : ∀ r ∈ [aK, aL], Rt r := fun r hr => by
    rcases List.mem_cons.1 hr with e | hr
    · rw [e]; exact rt_aK
    · rw [List.mem_singleton.1 hr]; exact rt_aL
  have hK := KI.of hrt
  have hmem : ∀ x, x ∈ recsOf (keysOf [aK, aL]) → x = aK ∨ x = aL := fun x hx => by
    obtain ⟨h1, _, h3⟩ := rec_mem hK hx
    have h4 := mem_of_mget h3
    rw [keys_a] at h4
    rcases List.mem_cons.1 h4 with e | h4
    · injection e with e1 e2
      exact .inl (rec_inj h1 rt_aK e2)
    · have e := List.mem_singleton.1 h4
      injection e with e1 e2
      exact .inr (rec_inj h1 rt_aL e2)
  have hall : ∀ x ∈ kept [9, 1] [aK, aL], x = aK := fun x hx => by
    obtain ⟨h1, h2⟩ := List.mem_filter.1 hx
    rcases hmem x h1 with e | e
    · exact e
    · exfalso; rw [e] at h2
      exact absurd h2 (by decide)
  have hin : aK ∈ kept [9, 1] [aK, aL] := by
    refine List.mem_filter.2 ⟨?_, by decide⟩
    unfold recsOf
    refine List.mem_map.2 ⟨⟨#[107]⟩, ?_, ?_⟩
    · rw [mem_skeys, keys_a]; exact List.mem_cons_self
    · have : (mget (⟨#[107]⟩ : ByteArray) (keysOf [aK, aL])).getD [] = reB aK := rfl
      rw [this]
      unfold decV
      rw [e_Rec rt_aK.2 rt_aK.1]; rfl
  have hp : (kept [9, 1] [aK, aL]).Pairwise fun a b => a.key ≠ b.key := (recs_nd hK).filter _
  match hq : kept [9, 1] [aK, aL], hall, hin, hp with
  | [], _, hin, _ => cases hin
  | [x], hall, _, _ => rw [hall x List.mem_cons_self]
  | x :: y :: l, hall, _, hp =>
    rw [List.pairwise_cons] at hp
    exact absurd (by rw [hall x List.mem_cons_self, hall y (List.mem_cons_of_mem _ List.mem_cons_self)]) (hp.1 y List.mem_cons_self)
theorem nmS : Nm ⟨#[115]⟩ := nm1 (by decide)
theorem e_awake10 : m_firthlaw10_awake = some true := by
  have l := lim_eq
  unfold m_firthlaw10_awake
  obtain ⟨S0, O0⟩ := sti0 nmS 1000 (sz := 64)
  rw [e_New, Option.bind_some, O0, Option.bind_some]
  simp only [Option.isNone_some]
  rw [bif_t (by decide), Option.bind_some]
  have z0 : Fw.sz (d0 1000).seen = 0 := rfl
  generalize d0 1000 = e0 at S0 z0 ⊢
  obtain ⟨R, hR⟩ : ∃ R, rm 1000 = R := ⟨_, rfl⟩
  have hRv : R = 1000 := by rw [← hR]; decide
  have hRM : R ≤ MX := by rw [← hR]; exact rm_le _
  rw [hR] at S0
  clear hR
  have v1 : m_firthlaw10_ver 1 1 false = some ⟨⟨1, 1⟩, [], false, ByteArray.empty⟩ := rfl
  have v2 : m_firthlaw10_ver 2 1 true = some ⟨⟨2, 1⟩, [], true, ByteArray.empty⟩ := rfl
  rw [v1, Option.bind_some, show (⟨⟨#[107]⟩, [⟨⟨1, 1⟩, [], false, ByteArray.empty⟩]⟩ : Rec) = aK from rfl]
  obtain ⟨s1, e1, c1, L1, p1, S1, q1⟩ := e_SPut S0 nmS hRM (by decide) (by decide) (by omega) (r := aK) (by decide)
  obtain ⟨rfl, rfl, z1⟩ := q1 rt_aK (by rw [len_aK]; decide) (by decide) (by rw [fr_aK]; omega)
  rw [p1, Option.bind_some]
  simp only
  rw [bif_t (by decide), v2, Option.bind_some, show (⟨⟨#[108]⟩, [⟨⟨2, 1⟩, [], true, ByteArray.empty⟩]⟩ : Rec) = aL from rfl]
  obtain ⟨s2, e2, c2, L2, p2, S2, q2⟩ := e_SPut S1 nmS hRM (by decide) (by decide) (by omega) (r := aL) (by decide)
  obtain ⟨rfl, rfl, z2⟩ := q2 rt_aL (by rw [len_aL]; decide) (by decide) (by rw [fr_aL, z1, fr_aK]; omega)
  rw [p2, Option.bind_some]
  simp only
  rw [bif_f (by decide)]
  have hLL : [] ++ [aK] ++ [aL] = [aK, aL] := rfl
  rw [hLL] at S2
  obtain ⟨z, t1, t2⟩ := e_Trim S2 nmS hRM (by decide) (by decide) (v := [9, 1]) (by rw [l]; decide) (M := 4 * (0 + 1 + 1 + (0 + 1 + 1) + 2)) rfl (by omega)
  have hst := S2.st
  have hkeys : m_store_Store_Keys s2 = some (skeys (keysOf [aK, aL])) := by rw [hst]; exact e_Keys (by rw [keys_a, l]; decide)
  rw [hkeys, Option.bind_some, t1, Option.bind_some, skeys_len]
  cases t2 with
  | no e c hc why _ _ =>
    exfalso
    rw [kept_a] at why
    rcases why with q | q | q
    · exact q (by intro x hx; rw [List.map_singleton, List.mem_singleton] at hx; rw [hx, len_aK]; decide)
    · have : (frs ([aK].map reB)).length = 13 := by rw [List.map_singleton, frs_cons, frs_nil, List.append_nil, fr_aK]
      rw [this, z2, z1, fr_aK, fr_aL] at q
      omega
    · exact absurd q (by decide)
  | ok e _ _ _ _ _ _ _ =>
    simp only
    rw [kept_a]
    have hk1 : KI (keysOf [aK]) := KI.of fun r hr => by rw [List.mem_singleton.1 hr]; exact rt_aK
    rw [bif_t (by rw [keys_a]; decide), e_Keys (by rw [keys_a1, l]; decide), Option.bind_some, skeys_len]
    have hw : m_store_Store_Waste ⟨lg ⟨#[115]⟩ 1 (max 64 16) (bsOf (max 64 16) (List.map reB [aK])) [aK].length, keysOf [aK]⟩ = some 0 := by
      unfold m_store_Store_Waste m_seglog_Log_Count lg
      rw [keys_a1]; decide
    rw [hw, gcall_s, Option.bind_some, bif_t (by rw [keys_a1]; decide), e_Get hk1, Option.bind_some]
    have g1 : (mget (⟨#[107]⟩ : ByteArray) (keysOf [aK])).getD [] = reB aK := rfl
    have g2 : (mget (⟨#[108]⟩ : ByteArray) (keysOf [aK])).getD [] = [] := rfl
    have d1 : decV (reB aK) = aK.vers := by unfold decV; rw [e_Rec rt_aK.2 rt_aK.1]
    have d2 : decV [] = [] := by unfold decV; rw [e_Rec_nil]
    rw [g1, d1, bif_t (by decide), e_Get hk1, Option.bind_some, g2, d2]; rfl

end Fw
end Go.Proofs.YtmafjpdiplfcmaaGreat

namespace Go.Proofs.YtmafjpdiplfcmaaGreat
namespace Fw
set_option linter.unusedVariables false
set_option linter.unusedSimpArgs false
set_option linter.unusedSectionVars false

/-! ### no check fails -/
def Tot {R : Type} (x : Option R) : Prop := ∃ b, x = some b
theorem Tot.pure {R : Type} (b : R) : Tot (some b) := ⟨b, rfl⟩
theorem Tot.bind {α R : Type} {x : Option α} {f : α → Option R} (h : Tot x) (h2 : ∀ a, Tot (f a)) : Tot (x.bind f) := by
  obtain ⟨a, rfl⟩ := h; exact h2 a
theorem Tot.ite {R : Type} {c : Bool} {x y : Option R} (h : Tot x) (h2 : Tot y) : Tot (bif c then x else y) := by cases c <;> assumption
theorem Tot.gcall {R : Type} [Inhabited R] {g : Bool} {x : Option R} (h : g = true → Tot x) : Tot (gcall g x) := by
  cases g with
  | false => exact ⟨_, rfl⟩
  | true => exact h rfl
theorem Tot.chk {R : Type} {c : Bool} {k : Option R} (h : c = true) (h2 : Tot k) : Tot (chk c k) := by rw [chk_t h]; exact h2
theorem tot_for {α S R : Type} {B : (S → Option R) → Nat → α → S → Option R} {K : S → Option R} {n : Nat} (hB : ∀ f i x s, i < n → (∀ s, Tot (f s)) → Tot (B f i x s)) (hK : ∀ s, Tot (K s)) : ∀ (l : List α) (i : Nat) (s : S), i + l.length = n → Tot (forI B K i l s)
  | [], _, s, _ => hK s
  | x :: l, i, s, h => by
    rw [List.length_cons] at h
    exact hB _ i x s (by omega) fun s => tot_for hB hK l (i + 1) s (by omega)
theorem inb_prev {i n : Nat} (h0 : decide (0 < ((i : Nat) : Int)) = true) (hi : i < n) (hn : n ≤ 2147483648) : inb (w64 (((i : Nat) : Int) - 1)) n = true := by
  have h1 := of_decide_eq_true h0
  rw [w64_i (by unfold I64; omega)]
  unfold inb
  rw [decide_eq_true (by omega), decide_eq_true (by omega)]; rfl
theorem imp_t {g c : Bool} (h : g = true → c = true) : imp g c = true := by
  cases g with
  | false => rfl
  | true => exact h rfl
theorem t_dot3 (d : Dot) : Tot (m_firthref03_Dot d) := ⟨_, rfl⟩
theorem t_right3 (l : List Span) : Tot (m_firthref03_Right l) := by
  unfold m_firthref03_Right
  cases hc : decide (1024 < ((l.length : Nat) : Int)) with
  | true => exact ⟨_, rfl⟩
  | false =>
    have hl := of_decide_eq_false hc
    refine tot_for (n := l.length) (fun f i x s hi hf => ?_) (fun s => ⟨_, rfl⟩) l 0 () (by omega)
    unfold m_firthref03_Right_b1
    refine (t_dot3 _).bind fun z => (Tot.gcall fun _ => t_dot3 _).bind fun z2 => Tot.ite ⟨_, rfl⟩ (Tot.chk (imp_t fun h => inb_prev h hi (by omega)) (Tot.ite ⟨_, rfl⟩ (hf _)))
theorem t_top3 (l : List Span) (s : Int) : Tot (m_firthref03_Top l s) := by
  unfold m_firthref03_Top
  refine tot_for (n := l.length) (fun f i x s hi hf => ?_) (fun s => ⟨_, rfl⟩) l 0 _ (by omega)
  unfold m_firthref03_Top_b5 m_firthref03_Top_j6
  exact Tot.ite (hf _) (hf _)
theorem t_one5 (v : Ver) : Tot (m_firthref05_RightOne v) := by
  unfold m_firthref05_RightOne
  exact (t_dot3 _).bind fun z => (Tot.gcall fun _ => t_right3 _).bind fun z2 => (Tot.gcall fun _ => t_top3 _ _).bind fun z3 => Tot.ite ⟨_, rfl⟩ (Tot.ite ⟨_, rfl⟩ ⟨_, rfl⟩)
theorem t_has3 (l : List Span) (d : Dot) : Tot (m_firthref03_Has l d) := by
  unfold m_firthref03_Has
  refine tot_for (n := l.length) (fun f i x s hi hf => ?_) (fun s => ⟨_, rfl⟩) l 0 _ (by omega)
  unfold m_firthref03_Has_b1
  exact Tot.ite ⟨_, rfl⟩ (hf _)
theorem t_behind5 (l : List Ver) (d : Dot) : Tot (m_firthref05_Behind l d) := by
  unfold m_firthref05_Behind
  refine tot_for (n := l.length) (fun f i x s hi hf => ?_) (fun s => ⟨_, rfl⟩) l 0 _ (by omega)
  unfold m_firthref05_Behind_b1
  exact (t_has3 _ _).bind fun z => Tot.ite ⟨_, rfl⟩ (hf _)
theorem t_less5 (a b : Dot) : Tot (m_firthref05_Less a b) := Tot.ite ⟨_, rfl⟩ ⟨_, rfl⟩
theorem t_right5 (l : List Ver) : Tot (m_firthref05_Right l) := by
  unfold m_firthref05_Right
  cases hc : decide (512 < ((l.length : Nat) : Int)) with
  | true => exact ⟨_, rfl⟩
  | false =>
    have hl := of_decide_eq_false hc
    refine tot_for (n := l.length) (fun f i x s hi hf => ?_) (fun s => ⟨_, rfl⟩) l 0 () (by omega)
    unfold m_firthref05_Right_b1
    exact (t_one5 _).bind fun z => (Tot.gcall fun _ => t_behind5 _ _).bind fun z2 => Tot.ite ⟨_, rfl⟩ (Tot.chk (imp_t fun h => inb_prev h hi (by omega)) ((Tot.gcall fun _ => t_less5 _ _).bind fun z3 => Tot.ite ⟨_, rfl⟩ (hf _)))
theorem t_rec6 (r : Rec) : Tot (m_firthref06_RightRec r) := by
  unfold m_firthref06_RightRec
  exact (Tot.gcall fun _ => t_right5 _).bind fun z => ⟨_, rfl⟩

/-! ### a record in memory of its own -/
theorem own_loop {k : ByteArray} : ∀ (l : List Ver) (i : Nat) (out : List Ver), (∀ v ∈ l, v.past.length ≤ lim) → out.length + l.length ≤ lim → forI m_firthref10_Own_b1 (fun x6 => some (⟨k, x6⟩ : Rec)) i l out = some ⟨k, out ++ l⟩
  | [], i, out, _, _ => by rw [List.append_nil]; rfl
  | v :: l, i, out, h, hl => by
    rw [List.length_cons] at hl
    have ih := own_loop (k := k) l (i + 1) (out ++ [v]) (fun x hx => h x (List.mem_cons_of_mem _ hx)) (by rw [List.length_append, List.length_singleton]; omega)
    show chk (decide (0 + v.past.length ≤ lim)) (chk (decide (out.length + 1 ≤ lim)) (forI m_firthref10_Own_b1 (fun x6 => some (⟨k, x6⟩ : Rec)) (i + 1) l (out ++ [v]))) = _
    rw [chk_t (decide_eq_true (by rw [Nat.zero_add]; exact h v List.mem_cons_self)), chk_t (decide_eq_true (by omega)), ih, List.append_assoc]
    rfl
theorem e_Own {Γ : Gh} {A : Option Addr} {c : Nat} {r : Rec} (h : Rec.fits Γ A c r) : m_firthref10_Own r = some r := by
  have h2 := h.2.2
  unfold m_firthref10_Own
  rw [own_loop r.vers 0 [] (fun v hv => ?_) (by rw [List.length_nil, Nat.zero_add]; exact h2.le), List.nil_append]
  obtain ⟨i, hi, rfl⟩ := List.getElem_of_mem hv
  obtain ⟨A2, c2, h3⟩ := h2.verT_at i
  have h4 := (h3 hi).1
  rw [← gt_eq hi]
  exact h4.2.2.1.2.le

theorem get_new {g : Oseglog_Log} {r : Rec} (hr : Rt r) : m_store_Store_Get ⟨g, keysOf [r]⟩ r.key = some r.vers := by
  have hk : KI (keysOf [r]) := KI.of fun x hx => by rw [List.mem_singleton.1 hx]; exact hr
  rw [e_Get hk]
  have e : keysOf [r] = layM [] r := rfl
  rw [e]
  unfold layM
  by_cases hv : r.vers = []
  · rw [if_pos hv, hv]
    have : mget r.key (mdel r.key ([] : Mp)) = none := rfl
    rw [this]
    unfold decV
    rw [show (none : Option (List UInt8)).getD [] = [] from rfl, e_Rec_nil]
  · rw [if_neg hv]
    have h1 : mget r.key (mput r.key (reB r) (mdel r.key ([] : Mp))) = some (reB r) := by
      have : mdel r.key ([] : Mp) = [] := rfl
      rw [this]
      simp [mput, mget]
    rw [h1]
    unfold decV
    rw [show (some (reB r)).getD [] = reB r from rfl, e_Rec hr.2 hr.1]
theorem p_firthlaw10_StoreKeeps {Γ : Gh} {Ar_1 : Option Addr} {cr_1 : Nat} (r_ : Rec) (hr_ : Rec.fits Γ Ar_1 cr_1 r_) (hb : Rec.bk r_ ≤ 1048576) : m_firthlaw10_StoreKeeps r_ = some true := by
  have l := lim_eq
  unfold m_firthlaw10_StoreKeeps
  rw [e_awake10, Option.bind_some]
  obtain ⟨b, hb6⟩ := t_rec6 r_
  rw [hb6, gcall_s, Option.bind_some]
  cases b with
  | false => rw [bif_t (by decide), Option.bind_some]
  | true =>
    rw [bif_f (by decide)]
    obtain ⟨S0, O0⟩ := sti0 nmS 4194304 (sz := 64)
    rw [e_New, Option.bind_some, O0, Option.bind_some]
    simp only [Option.isNone_some]
    rw [bif_f (by decide), Option.bind_some, e_Own hr_, Option.bind_some]
    obtain ⟨s1, e1, c1, L1, p1, S1, q1, q2⟩ := e_SPutS S0 nmS (rm_le _) (by decide) (by decide) (by omega) (r := r_) hr_.2.2.le
    rw [p1, Option.bind_some]
    simp only
    by_cases hc : c1 = 0
    · subst hc
      rw [bif_f (by decide)]
      have hL := q2 rfl
      rw [List.nil_append] at hL
      subst hL
      obtain rfl := S1.st
      rw [get_new (S1.rt _ (List.mem_singleton.2 rfl)), Option.bind_some, Option.bind_some, e_ves, Option.bind_some]
    · rw [bif_t (by simpa using hc)]
end Fw
end Go.Proofs.YtmafjpdiplfcmaaGreat
