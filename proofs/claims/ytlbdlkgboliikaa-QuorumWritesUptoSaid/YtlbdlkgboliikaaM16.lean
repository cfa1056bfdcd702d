/- The plain models of layer 16. -/
import Derived.Test.YtlbdlkgboliikaaO
namespace Go.Proofs.Ytlbdlkgboliikaa
namespace Fw
set_option linter.unusedVariables false
set_option linter.unusedSimpArgs false

def firstFrom (p : Nat → Bool) (k n : Nat) : Int := match (List.range' k (n - k)).find? p with
  | some i => i
  | none => -1
theorem firstFrom_step {p : Nat → Bool} {k n : Nat} (h : k < n) : firstFrom p k n = bif p k then (k : Int) else firstFrom p (k + 1) n := by
  unfold firstFrom
  rw [show n - k = (n - (k + 1)) + 1 by omega, List.range'_succ, List.find?_cons]
  cases p k <;> rfl
theorem firstFrom_end {p : Nat → Bool} {k n : Nat} (h : n ≤ k) : firstFrom p k n = -1 := by
  unfold firstFrom
  rw [show n - k = 0 by omega]; rfl
theorem firstFrom_lt {p : Nat → Bool} {n : Nat} : ∀ {k : Nat}, -1 ≤ firstFrom p k n ∧ firstFrom p k n < (n : Int) := by
  intro k
  unfold firstFrom
  split
  · rename_i i h
    have := List.mem_of_find?_eq_some h
    have := List.mem_range'_1.1 this
    omega
  · omega

def sel (p : Nat → Bool) (f : Nat → Int) (n : Nat) : List Int := (List.range n).flatMap (fun k => bif p k then [f k] else [])
theorem sel_step (p : Nat → Bool) (f : Nat → Int) (k : Nat) : sel p f (k + 1) = sel p f k ++ (bif p k then [f k] else []) := by
  unfold sel
  rw [List.range_succ, List.flatMap_append]
  simp
theorem sel_len (p : Nat → Bool) (f : Nat → Int) (k : Nat) : (sel p f k).length ≤ k := by
  induction k with
  | zero => simp [sel]
  | succ k ih => rw [sel_step]; cases p k <;> simp <;> omega

def qBad (list : List Int) (need : Int) : Bool := ((decide ((list.length : Int) < 1) || decide ((8 : Int) < (list.length : Int))) || decide (need < 1)) || decide ((list.length : Int) < need)
def qOk (list : List Int) (need : Int) : Bool := bif qBad list need then false else allFrom (fun i => !((decide (gt list i < 1) || decide (8 < gt list i)) || decide (0 ≤ idxGo (list.take i) (gt list i) 0))) 0 list.length

def AskB.count (a : AskB) (node : Int) (x : Bool) : AskB × Bool := bif ((mget node a.got).isSome || (!(decide (0 ≤ idxGo a.list node 0)))) then (a, false) else (⟨a.list, a.need, mput node x a.got⟩, true)
def AskV.count (a : AskV) (node : Int) (x : List Ver) : AskV × Bool := bif ((mget node a.got).isSome || (!(decide (0 ≤ idxGo a.list node 0)))) then (a, false) else (⟨a.list, a.need, mput node x a.got⟩, true)
def AskB.waits (a : AskB) : List Int := sel (fun k => !(mget (gt a.list k) a.got).isSome) (gt a.list) a.list.length
def AskV.waits (a : AskV) : List Int := sel (fun k => !(mget (gt a.list k) a.got).isSome) (gt a.list) a.list.length
def versGo (got : List (Int × List Ver)) : List Int → List Ver → List Ver
  | [], out => out
  | n :: l, out => versGo got l (bif ((vsMerge out ((mget n got).getD [])).2 == 0) then (vsMerge out ((mget n got).getD [])).1 else out)
def AskV.vers (r : AskV) : List Ver := versGo r.got r.list []
def AskV.behind (r : AskV) : List Int := sel (fun k => (mget (gt r.list k) r.got).isSome && vsLacks ((mget (gt r.list k) r.got).getD []) r.vers) (gt r.list) r.list.length
def AskV.gotv (r : AskV) (node : Int) (l : List Ver) : AskV × Bool := bif ((vsMerge l []).2 == 0) then r.count node (vsMerge l []).1 else (r, false)

/-! the reference -/
def r16Right (list : List Int) (need : Int) : Bool := bif ((((list.length : Int) == 0) || decide ((8 : Int) < (list.length : Int))) || decide (need < 1)) || decide ((list.length : Int) < need) then false else
  allFrom (fun i => !((decide (gt list i < 1) || decide (8 < gt list i)) || inM (list.take i) (gt list i))) 0 list.length
def r16New (list : List Int) (need : Int) : Ask16 := ⟨list, need, List.replicate list.length false, List.replicate list.length [], List.replicate list.length []⟩
def Ask16.place (a : Ask16) (node : Int) : Int := firstFrom (fun i => (gt a.list i == node) && (!(gt a.isin i))) 0 a.list.length
def Ask16.ack (a : Ask16) (node : Int) : Ask16 := bif decide (0 ≤ a.place node) then ⟨a.list, a.need, a.isin.set (a.place node).toNat true, a.vers, a.recs⟩ else a
def Ask16.gotv (a : Ask16) (node : Int) (l : List Ver) : Ask16 × Bool := bif (decide (a.place node < 0) || (!(r5Right l))) then (a, false) else (⟨a.list, a.need, a.isin.set (a.place node).toNat true, a.vers.set (a.place node).toNat l, a.recs⟩, true)
def Ask16.waits (a : Ask16) : List Int := sel (fun k => !(gt a.isin k)) (gt a.list) a.list.length
def all16Go : List (List Ver) → List Ver → List Ver
  | [], out => out
  | v :: vs, out => all16Go vs (bif ((r5Merge out v).2 == 0) then (r5Merge out v).1 else out)
def Ask16.all (a : Ask16) : List Ver := all16Go a.vers []
def Ask16.behind (a : Ask16) : List Int := sel (fun k => gt a.isin k && r5Lacks (gt a.vers k) a.all) (gt a.list) a.list.length
theorem place_lt (a : Ask16) (node : Int) : -1 ≤ a.place node ∧ a.place node < (a.list.length : Int) := firstFrom_lt

end Fw
end Go.Proofs.Ytlbdlkgboliikaa
