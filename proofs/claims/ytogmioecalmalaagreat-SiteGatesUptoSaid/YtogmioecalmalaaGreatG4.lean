/- The law SiteGates. No condition. -/
import Derived.Test.YtogmioecalmalaaGreatG3
namespace Go.Proofs.YtogmioecalmalaaGreat
namespace Fw
set_option linter.unusedVariables false
set_option linter.unusedSimpArgs false
set_option linter.unusedSectionVars false
def C0 : aC := ⟨2, [⟨1, 2⟩], 3, [1, 2, 3], 3, 2, 2, 0, ⟨#[115]⟩, 16777216, 4096, 100, 100, 100, 5, 2, 0⟩
def D0 : aa := ⟨65536, [], [], []⟩
def S0 : au := ⟨2, [⟨1, 2⟩], 3, [1, 2, 3], 3, 2, 2, 0, sec, 16777216, 4096, 100, 100, 100, 5, 2, 4, 1, [2], ⟨1, 2, [2], 100, 4, [1, 2, 3], ⟨⟨#[103]⟩, 0, 4096, 0, 0, 0, 0⟩, [4, 4], none, [], 1, [], [1, 2, 3]⟩, 0⟩
theorem yI : eG 2 = some C0 := by kernel_rfl
theorem zY : k0 ⟨C0.sites, C0.links, C0.nodes, C0.members, C0.n, C0.r, C0.w_, C0.group, C0.secret, C0.room, C0.seg, C0.cap, C0.pend, C0.wait, C0.timeout, C0.hintAfter, 4⟩ 1 0 D0 = some (D0, some S0, 0) := by kernel_rfl
def kb (key : ByteArray) : Bool := (decide ((key.size : Int) < 1)) || (decide (32 < (key.size : Int)))
theorem wH (s : ByteArray) : (s == ByteArray.empty) = decide ((s.size : Int) < 1) := by
 rw [Bool.eq_iff_iff, decide_eq_true_eq]
 constructor
 ·intro h
  have : s = ByteArray.empty := by
   have h2 : (s.data == ByteArray.empty.data) = true := h
   exact ByteArray.ext (by simpa using h2)
  rw [this]; decide
 ·intro h
  have h1 : s.data = #[] := by
   have : s.data.size = 0 := by show s.size = 0; omega
   exact Array.eq_empty_of_size_eq_zero this
  show (s.data == ByteArray.empty.data) = true
  rw [h1]; rfl
theorem zT {token : List UInt8} {key : ByteArray} {l : List Span} {e : Int} {v : Bool} (h : eL sec 0 token = some (l, e)) (hv : e = 0 → ec [4, 4] l = some v) :
  ∃ x w, cQ S0 token key = some (x, w) ∧ w = (bif kb key then 1 else bif e != 0 then e else bif !v then 200 else 0) := by
 unfold cQ
 show ∃ x w, (bif kb key then some ([], 1) else Option.bind (eL sec 0 token) fun z16 => du S0 z16.1 z16.2) = some (x, w) ∧ _
 cases kb key with
 | true => exact ⟨[], 1, rfl, rfl⟩
 | false =>
  rw [aP rfl, h, Option.bind_some]
  unfold du
  simp only
  cases he : (e != 0) with
  | true => exact ⟨[], e, rfl, rfl⟩
  | false =>
   rw [aP rfl, show dG S0.q = some [4, 4] from by kernel_rfl, Option.bind_some, hv (by simpa using he), Option.bind_some]
   cases v with
   | false => exact ⟨[], 200, rfl, rfl⟩
   | true => exact ⟨l, 0, rfl, rfl⟩
theorem wU {token : List UInt8} {key : ByteArray} {z : List UInt8 × Int} {f : Unit → Option Bool} {i : Nat} {want : Int} {x : List Span} (h : cQ S0 (gt [token, z.1] i) key = some (x, want)) : bj token key S0 z f i want = f () := by
 unfold bj bL
 cases hw : (want == 0) with
 | true => rfl
 | false =>
  have hw2 : (want != 0) = true := by rw [bne_iff_ne]; simpa using hw
  have hg : eA S0 1 (gt [token, z.1] i) key = some ([], want) := by
   unfold eA
   rw [h, Option.bind_some]
   simp only
   rw [hw2, bW rfl]
  have hp : eC S0 2 (gt [token, z.1] i) key (⟨#[118]⟩ : ByteArray) false = some ([], want) := by
   unfold eC dv
   rw [aP rfl, show decide (256 < ((((⟨#[118]⟩ : ByteArray).size : Nat)) : Int)) = false from by decide, aP rfl, h, Option.bind_some]
   simp only
   rw [hw2, bW rfl]
  rw [aP rfl, hg, Option.bind_some, hp, Option.bind_some]
  simp only
  rw [show (want != want) = false by simp, show dS S0 = some [] from rfl, show fy S0 = some true from by kernel_rfl]
  rfl
theorem vR {token : List UInt8} {key : ByteArray} {z : List UInt8 × Int} {f : Unit → Option Bool} {i : Nat} (h : (gt [token, z.1] i).length ≤ lim) : bg token key C0 S0 z f i () = f () := by
 obtain ⟨l, e, h1, h2, h3⟩ := vn h
 obtain ⟨v, hv⟩ : ∃ v : Bool, e = 0 → ec [4, 4] l = some v ∧ cL [4, 4] l = some v := by
  by_cases he : e = 0
  ·obtain ⟨v, v1, v2⟩ := tm (h3 he)
   exact ⟨v, fun _ => ⟨v1, v2⟩⟩
  ·exact ⟨true, fun h => absurd h he⟩
 obtain ⟨x, w, hm, hw⟩ := zT (key := key) h1 fun he => (hv he).1
 unfold bg
 rw [show C0.secret = sec from rfl, show C0.group = 0 from rfl, h2, Option.bind_some]
 simp only
 have hk : ((key == ByteArray.empty) || (decide (32 < (key.size : Int)))) = kb key := by unfold kb; rw [wH]
 have fin : ∀ u : Int, u = (bif e != 0 then e else bif !v then 200 else 0) → aT token key S0 z f i u = f () := by
  intro u hu
  unfold aT
  rw [hk]
  cases hkb : kb key with
  | true =>
   rw [hkb, bW rfl] at hw
   subst hw
   rw [bW rfl]
   exact wU hm
  | false =>
   rw [hkb, aP rfl, ← hu] at hw
   subst hw
   rw [aP rfl]
   exact wU hm
 cases he : (e == 0) with
 | true =>
  have he0 : e = 0 := by simpa using he
  subst he0
  rw [bW rfl, (hv rfl).2, Option.bind_some]
  cases v with
  | false => exact fin 200 rfl
  | true => exact fin 0 rfl
 | false =>
  rw [aP rfl]
  exact fin e (by rw [show (e != 0) = true by rw [bne_iff_ne]; simpa using he, bW rfl])
theorem xT {l : List Span} (h : ∀ x ∈ l, SpOk x) (hl : l.length ≤ 1024) : (spsB l).length ≤ 9 + 27 * l.length := by
 have key : ∀ l : List Span, (∀ x ∈ l, SpOk x) → ((l.map spB).flatten).length ≤ 27 * l.length := by
  intro l
  induction l with
  | nil => intro _; exact Nat.le_refl _
  | cons x l ih =>
   intro hx
   have h1 := xS (hx x List.mem_cons_self)
   have h2 := ih fun y hy => hx y (List.mem_cons_of_mem _ hy)
   rw [List.map_cons, List.flatten_cons, List.length_append, List.length_cons]; omega
 unfold spsB
 have h1 := pk (n := (l.length : Int)) (by omega)
 have h2 := key l h
 rw [List.length_append]; omega
theorem xW {past : List Span} (hl : past.length ≤ lim) (hr : ∀ x ∈ past, I64 x.f) : ∃ b f, dI sec 0 past = some (b, f) ∧ (f = 0 ∨ f = 1) ∧ b.length ≤ 100000 := by
 have may2 : df sec 0 = some true := by kernel_rfl
 unfold dI
 rw [may2, Option.bind_some, mO hl hr, ← l0, show (!(!true)) = true from rfl, kp, Option.bind_some, bW rfl]
 cases hs : fe past with
 | false => exact ⟨[], 1, rfl, .inr rfl, Nat.zero_le _⟩
 | true =>
  obtain ⟨h1, h2⟩ := o9 hs
  have h3 := xT h2 h1
  have hw := zq (b := []) h2 h1 (by rw [b9]; simp only [List.length_nil]; omega)
  rw [List.nil_append] at hw
  rw [show ((!true) || (!true)) = false from rfl, aP rfl, show aG 1 = some [1] from by kernel_rfl, Option.bind_some, show aG 0 = some [0] from by kernel_rfl, Option.bind_some, bb (by rw [decide_eq_true_eq, b9]; decide)]
  unfold ek
  rw [hw, Option.bind_some, Option.bind_some, bb (by rw [decide_eq_true_eq, b9]; simp only [List.length_append, List.length_cons, List.length_nil]; omega)]
  obtain ⟨m, m1, _, m2⟩ := q8 (b := ([1] ++ [0]) ++ spsB past) (by rw [b9]; simp only [List.length_append, List.length_cons, List.length_nil]; omega)
  rw [m2, Option.bind_some, bb (by rw [decide_eq_true_eq, b9]; simp only [List.length_append, List.length_cons, List.length_nil]; omega)]
  exact ⟨_, 0, rfl, .inl rfl, by simp only [List.length_append, List.length_cons, List.length_nil]; omega⟩
theorem j2 {Γ : Gh} {Atoken : Option Addr} {ctoken : Nat} {token : List UInt8} (htoken : Sl ar Γ Atoken token) (htokenc : token.length ≤ ctoken) {Apast : Option Addr} {cpast : Nat} {past : List Span} (hpast : Sl aW Γ Apast past) (hpastc : past.length ≤ cpast) (key : ByteArray) (hkey : key.size ≤ lim) (m0 : bkL ax token ≤ 1048576) (m1 : bkL Span.bk past ≤ 1048576) : dz token past key = some true := by
 have hI : ∀ x ∈ past, I64 x.f := by
  intro x hx
  obtain ⟨i, hi, rfl⟩ := List.getElem_of_mem hx
  have := (hpast.spanT_at hi).1
  rw [cm hi] at this
  exact this.2.1
 obtain ⟨b, f, h1, h2, h3⟩ := xW hpast.le hI
 unfold dz eH
 rw [Option.bind_some, show (!true) = false from rfl, aP rfl, yI, Option.bind_some, show l6 65536 = some D0 from by kernel_rfl, Option.bind_some, zY, Option.bind_some]
 simp only
 rw [show (Option.isNone (some S0) || ((0 : Int) != 0)) = false from rfl, aP rfl, Option.bind_some, show C0.secret = sec from rfl, show C0.group = 0 from rfl, h1, Option.bind_some]
 have hb : ∀ i, i < 2 → (gt [token, b] i).length ≤ lim := by
  intro i hi
  rcases (by omega : i = 0 ∨ i = 1) with rfl | rfl
  ·exact htoken.le
  ·show b.length ≤ lim
   rw [b9]; omega
 show bg token key C0 S0 (b, f) (fun _ => bg token key C0 S0 (b, f) (fun _ => some ((f == 0) || (f == 1))) 1 ()) 0 () = some true
 rw [vR (hb 0 (by decide)), vR (hb 1 (by decide))]
 rcases h2 with rfl | rfl <;> rfl
end Fw
end Go.Proofs.YtogmioecalmalaaGreat
