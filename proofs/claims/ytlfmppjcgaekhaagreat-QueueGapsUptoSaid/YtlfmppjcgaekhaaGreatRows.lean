/-
  No cell of these rows narrows 'for every input' (looked for: loops, veiled, ifaces, maps, wideKeys, modest, calm, conditions, laid).
  DERIVED. THE GIVEN ROWS OF THIS SEAT. 3 by the template 'for every input the law returns true; each argument reads behind the call as it read before'; 0 by the template 'total and deterministic' (their statements: YtlfmppjcgaekhaaGreatTotals.lean).
  GIVEN WITH THE SEED: the statements are not yours to turn. If you find one false, say at which input.
  Laid BY PROGRAM, IN A SANDBOX (cutbox-rows.mjs): the forced cells as the released guide's own fill.sh prints them over the translation 0e6e693c6c44688b… (all of the seat's roots in one cut). By AI agents, Wed Nov 11 2026. No macro, syntax, notation, axiom, sorry.
-/
import Derived.Test.YtlfmppjcgaekhaaGreatChecked
import GoSem.Claim
import GoSem.ClaimJoined
import GoSem.ClaimMapViews
import Derived.JoinedTies
import Derived.KernelRfl
namespace Go.Proofs.YtlfmppjcgaekhaaGreat
/- THE CELL 'sum', in the pinned program and in every row, IS THE sha256 OF THE DUMP (.gsa) THAT YtlfmppjcgaekhaaGreatProg.lean LOADS. Nothing in Lean hashes anything: it is a label: what it is worth is what the hold of that sum in a sandbox is worth. -/
noncomputable def Tryz.pinned : Pinned := { name := "ytlfmppjcgaekhaagreat", sum := "0e6e693c6c44688b0eb4da6f9fce50eef204c4a4f861221791c7015ebaeb02b0", checked := Tryz.checked }
namespace Rows
def none {H : Type} : Left H := { results := [], args := [] }

/-- 'firthlaw17.QueueKeeps': WHATEVER THE INPUT: true; the input reads as it did. -/
def queueKeepsSpec : ChangeSpec := { name := "queueKeeps", fn := fun _ => fun
  | [d1, d2, d3] => { results := [.lit (.bool true)], args := [d1, d2, d3] }
  | _ => none }
def queueKeepsRow : OpenClaim := { program := "ytlfmppjcgaekhaagreat", sum := "0e6e693c6c44688b0eb4da6f9fce50eef204c4a4f861221791c7015ebaeb02b0", func := "firth/firthlaw17.QueueKeeps", spec := "queueKeeps", inPlace := ["internal/bytealg.IndexByteString", "internal/bytealg.IndexString", "maps.clone"], unfollowed := true, recurses := true, named := ["internal/bytealg.MaxLen"], apart := false }
def QueueKeepsSaid : Prop := queueKeepsRow.holds Tryz.pinned (OpenSpec.ofChange queueKeepsSpec)

/-- ITS FALSE NEIGHBOUR: 'it returns false'. Refute it at one input. -/
def queueKeepsWrong : ChangeSpec := { name := "queueKeeps", fn := fun _ => fun
  | [d1, d2, d3] => { results := [.lit (.bool false)], args := [d1, d2, d3] }
  | _ => none }
def QueueKeepsWrongFalsely : Prop := queueKeepsRow.holds Tryz.pinned (OpenSpec.ofChange queueKeepsWrong)

/-- 'firthlaw17.QueueGaps': WHATEVER THE INPUT: true; the input reads as it did. -/
def queueGapsSpec : ChangeSpec := { name := "queueGaps", fn := fun _ => fun
  | [d1, d2, d3] => { results := [.lit (.bool true)], args := [d1, d2, d3] }
  | _ => none }
def queueGapsRow : OpenClaim := { program := "ytlfmppjcgaekhaagreat", sum := "0e6e693c6c44688b0eb4da6f9fce50eef204c4a4f861221791c7015ebaeb02b0", func := "firth/firthlaw17.QueueGaps", spec := "queueGaps", inPlace := ["internal/bytealg.IndexByteString", "internal/bytealg.IndexString", "maps.clone"], unfollowed := true, recurses := true, named := ["internal/bytealg.MaxLen"], apart := false }
def QueueGapsSaid : Prop := queueGapsRow.holds Tryz.pinned (OpenSpec.ofChange queueGapsSpec)

/-- ITS FALSE NEIGHBOUR: 'it returns false'. Refute it at one input. -/
def queueGapsWrong : ChangeSpec := { name := "queueGaps", fn := fun _ => fun
  | [d1, d2, d3] => { results := [.lit (.bool false)], args := [d1, d2, d3] }
  | _ => none }
def QueueGapsWrongFalsely : Prop := queueGapsRow.holds Tryz.pinned (OpenSpec.ofChange queueGapsWrong)

/-- 'firthlaw17.QueueRises': WHATEVER THE INPUT: true; the input reads as it did. -/
def queueRisesSpec : ChangeSpec := { name := "queueRises", fn := fun _ => fun
  | [d1, d2] => { results := [.lit (.bool true)], args := [d1, d2] }
  | _ => none }
def queueRisesRow : OpenClaim := { program := "ytlfmppjcgaekhaagreat", sum := "0e6e693c6c44688b0eb4da6f9fce50eef204c4a4f861221791c7015ebaeb02b0", func := "firth/firthlaw17.QueueRises", spec := "queueRises", inPlace := ["internal/bytealg.IndexByteString", "internal/bytealg.IndexString", "maps.clone"], unfollowed := true, recurses := true, named := ["internal/bytealg.MaxLen"], apart := false }
def QueueRisesSaid : Prop := queueRisesRow.holds Tryz.pinned (OpenSpec.ofChange queueRisesSpec)

/-- ITS FALSE NEIGHBOUR: 'it returns false'. Refute it at one input. -/
def queueRisesWrong : ChangeSpec := { name := "queueRises", fn := fun _ => fun
  | [d1, d2] => { results := [.lit (.bool false)], args := [d1, d2] }
  | _ => none }
def QueueRisesWrongFalsely : Prop := queueRisesRow.holds Tryz.pinned (OpenSpec.ofChange queueRisesWrong)

/- THE SECOND FORM. 'bulk': how many values and letters a reading holds, each counted each time it is reached (what is shared counts as often as it is met; a slice's spare places count too). A statement '..UptoSaid' is the law's where the arguments, and the package variables that the reading takes, are together of bulk at most 1048576: NARROWER than '..Said'. Prove '..Said' where nothing that the law and all that it calls make is longer than what came in: it says more and counts as full. Else prove '..UptoSaid'. A law counts once. -/
mutual
def uptoBulk {H : Type} : DataW H → Nat
  | .lit (.string bytes) => bytes.length + 1
  | .lit _ => 1
  | .nil => 1
  | .ptr d => uptoBulk d + 1
  | .slice elems spare => uptoBulkAll elems + uptoBulkAll spare + 1
  | .agg parts => uptoBulkAll parts + 1
  | .iface _ d => uptoBulk d + 1
  | .map entries => uptoBulkEntries entries + 1
  | .held _ => 1
def uptoBulkAll {H : Type} : List (DataW H) → Nat
  | [] => 0
  | d :: r => uptoBulk d + uptoBulkAll r
def uptoBulkEntries {H : Type} : List (Lit × DataW H) → Nat
  | [] => 0
  | x :: r => uptoBulkEntry x + uptoBulkEntries r
def uptoBulkEntry {H : Type} : Lit × DataW H → Nat
  | (.string bytes, d) => bytes.length + uptoBulk d + 1
  | (_, d) => uptoBulk d + 1
 end
def uptoSmall : (H : Type) → List (DataW H) → Bool := fun _ ds => decide (uptoBulkAll ds ≤ 1048576)
def OpenSpec.upto (s : _root_.Go.ChangeSpec) : _root_.Go.OpenSpec := { _root_.Go.OpenSpec.ofChange s with cond := some uptoSmall }

/-- 'firthlaw17.QueueKeeps', WHERE WHAT IT READS IS OF BULK AT MOST 1048576: true; the input reads as it did. -/
def queueKeepsUptoRow : OpenClaim := { program := "ytlfmppjcgaekhaagreat", sum := "0e6e693c6c44688b0eb4da6f9fce50eef204c4a4f861221791c7015ebaeb02b0", func := "firth/firthlaw17.QueueKeeps", spec := "queueKeeps", inPlace := ["internal/bytealg.IndexByteString", "internal/bytealg.IndexString", "maps.clone"], unfollowed := true, recurses := true, named := ["internal/bytealg.MaxLen"], apart := false, narrowed := true }
def QueueKeepsUptoSaid : Prop := queueKeepsUptoRow.holds Tryz.pinned (OpenSpec.upto queueKeepsSpec)

/-- 'firthlaw17.QueueGaps', WHERE WHAT IT READS IS OF BULK AT MOST 1048576: true; the input reads as it did. -/
def queueGapsUptoRow : OpenClaim := { program := "ytlfmppjcgaekhaagreat", sum := "0e6e693c6c44688b0eb4da6f9fce50eef204c4a4f861221791c7015ebaeb02b0", func := "firth/firthlaw17.QueueGaps", spec := "queueGaps", inPlace := ["internal/bytealg.IndexByteString", "internal/bytealg.IndexString", "maps.clone"], unfollowed := true, recurses := true, named := ["internal/bytealg.MaxLen"], apart := false, narrowed := true }
def QueueGapsUptoSaid : Prop := queueGapsUptoRow.holds Tryz.pinned (OpenSpec.upto queueGapsSpec)

/-- 'firthlaw17.QueueRises', WHERE WHAT IT READS IS OF BULK AT MOST 1048576: true; the input reads as it did. -/
def queueRisesUptoRow : OpenClaim := { program := "ytlfmppjcgaekhaagreat", sum := "0e6e693c6c44688b0eb4da6f9fce50eef204c4a4f861221791c7015ebaeb02b0", func := "firth/firthlaw17.QueueRises", spec := "queueRises", inPlace := ["internal/bytealg.IndexByteString", "internal/bytealg.IndexString", "maps.clone"], unfollowed := true, recurses := true, named := ["internal/bytealg.MaxLen"], apart := false, narrowed := true }
def QueueRisesUptoSaid : Prop := queueRisesUptoRow.holds Tryz.pinned (OpenSpec.upto queueRisesSpec)

end Rows
end Go.Proofs.YtlfmppjcgaekhaaGreat
