/-
  No cell of these rows narrows 'for every input' (looked for: loops, veiled, ifaces, maps, wideKeys, modest, calm, conditions, laid).
  DERIVED. THE GIVEN ROWS OF THIS SEAT. 4 by the template 'for every input the law returns true; each argument reads behind the call as it read before'; 0 by the template 'total and deterministic' (their statements: YtogcoieekhbfdaaTotals.lean).
  GIVEN WITH THE SEED: the statements are not yours to turn. If you find one false, say at which input.
  Laid BY PROGRAM, IN A SANDBOX (cutbox-rows.mjs): the forced cells as the released guide's own fill.sh prints them over the translation 2d659de96133215d… (all of the seat's roots in one cut). By AI agents, Wed Nov 11 2026. No macro, syntax, notation, axiom, sorry.
-/
import Derived.Test.YtogcoieekhbfdaaChecked
import GoSem.Claim
import GoSem.ClaimJoined
import GoSem.ClaimMapViews
import Derived.JoinedTies
import Derived.KernelRfl
namespace Go.Proofs.Ytogcoieekhbfdaa
/- THE CELL 'sum', in the pinned program and in every row, IS THE sha256 OF THE DUMP (.gsa) THAT YtogcoieekhbfdaaProg.lean LOADS. Nothing in Lean hashes anything: it is a label: what it is worth is what the hold of that sum in a sandbox is worth. -/
noncomputable def Try.pinned : Pinned := { name := "ytogcoieekhbfdaa", sum := "2d659de96133215d75cf508c4311451d270c259328619631835b45596f42c45e", checked := Try.checked }
namespace Rows
def none {H : Type} : Left H := { results := [], args := [] }

/-- 'firthlaw09.SeglogRot': WHATEVER THE INPUT: true; the input reads as it did. -/
def seglogRotSpec : ChangeSpec := { name := "seglogRot", fn := fun _ => fun
  | [d1, d2, d3] => { results := [.lit (.bool true)], args := [d1, d2, d3] }
  | _ => none }
def seglogRotRow : OpenClaim := { program := "ytogcoieekhbfdaa", sum := "2d659de96133215d75cf508c4311451d270c259328619631835b45596f42c45e", func := "firth/firthlaw09.SeglogRot", spec := "seglogRot", inPlace := ["internal/bytealg.IndexByteString", "internal/bytealg.IndexString", "maps.clone"], unfollowed := true, recurses := true, named := ["internal/bytealg.MaxLen"], apart := false }
def SeglogRotSaid : Prop := seglogRotRow.holds Try.pinned (OpenSpec.ofChange seglogRotSpec)

/-- ITS FALSE NEIGHBOUR: 'it returns false'. Refute it at one input. -/
def seglogRotWrong : ChangeSpec := { name := "seglogRot", fn := fun _ => fun
  | [d1, d2, d3] => { results := [.lit (.bool false)], args := [d1, d2, d3] }
  | _ => none }
def SeglogRotWrongFalsely : Prop := seglogRotRow.holds Try.pinned (OpenSpec.ofChange seglogRotWrong)

/-- 'firthlaw09.SeglogApart': WHATEVER THE INPUT: true; the input reads as it did. -/
def seglogApartSpec : ChangeSpec := { name := "seglogApart", fn := fun _ => fun
  | [d1, d2, d3] => { results := [.lit (.bool true)], args := [d1, d2, d3] }
  | _ => none }
def seglogApartRow : OpenClaim := { program := "ytogcoieekhbfdaa", sum := "2d659de96133215d75cf508c4311451d270c259328619631835b45596f42c45e", func := "firth/firthlaw09.SeglogApart", spec := "seglogApart", inPlace := ["internal/bytealg.IndexByteString", "internal/bytealg.IndexString", "maps.clone"], unfollowed := true, recurses := true, named := ["internal/bytealg.MaxLen"], apart := false }
def SeglogApartSaid : Prop := seglogApartRow.holds Try.pinned (OpenSpec.ofChange seglogApartSpec)

/-- ITS FALSE NEIGHBOUR: 'it returns false'. Refute it at one input. -/
def seglogApartWrong : ChangeSpec := { name := "seglogApart", fn := fun _ => fun
  | [d1, d2, d3] => { results := [.lit (.bool false)], args := [d1, d2, d3] }
  | _ => none }
def SeglogApartWrongFalsely : Prop := seglogApartRow.holds Try.pinned (OpenSpec.ofChange seglogApartWrong)

/-- 'firthlaw09.SeglogParts': WHATEVER THE INPUT: true; the input reads as it did. -/
def seglogPartsSpec : ChangeSpec := { name := "seglogParts", fn := fun _ => fun
  | [d1, d2] => { results := [.lit (.bool true)], args := [d1, d2] }
  | _ => none }
def seglogPartsRow : OpenClaim := { program := "ytogcoieekhbfdaa", sum := "2d659de96133215d75cf508c4311451d270c259328619631835b45596f42c45e", func := "firth/firthlaw09.SeglogParts", spec := "seglogParts", inPlace := ["internal/bytealg.IndexByteString", "internal/bytealg.IndexString", "maps.clone"], unfollowed := true, recurses := true, named := ["internal/bytealg.MaxLen"], apart := false }
def SeglogPartsSaid : Prop := seglogPartsRow.holds Try.pinned (OpenSpec.ofChange seglogPartsSpec)

/-- ITS FALSE NEIGHBOUR: 'it returns false'. Refute it at one input. -/
def seglogPartsWrong : ChangeSpec := { name := "seglogParts", fn := fun _ => fun
  | [d1, d2] => { results := [.lit (.bool false)], args := [d1, d2] }
  | _ => none }
def SeglogPartsWrongFalsely : Prop := seglogPartsRow.holds Try.pinned (OpenSpec.ofChange seglogPartsWrong)

/-- 'firthlaw09.SeglogCrash': WHATEVER THE INPUT: true; the input reads as it did. -/
def seglogCrashSpec : ChangeSpec := { name := "seglogCrash", fn := fun _ => fun
  | [d1, d2, d3] => { results := [.lit (.bool true)], args := [d1, d2, d3] }
  | _ => none }
def seglogCrashRow : OpenClaim := { program := "ytogcoieekhbfdaa", sum := "2d659de96133215d75cf508c4311451d270c259328619631835b45596f42c45e", func := "firth/firthlaw09.SeglogCrash", spec := "seglogCrash", inPlace := ["internal/bytealg.IndexByteString", "internal/bytealg.IndexString", "maps.clone"], unfollowed := true, recurses := true, named := ["internal/bytealg.MaxLen"], apart := false }
def SeglogCrashSaid : Prop := seglogCrashRow.holds Try.pinned (OpenSpec.ofChange seglogCrashSpec)

/-- ITS FALSE NEIGHBOUR: 'it returns false'. Refute it at one input. -/
def seglogCrashWrong : ChangeSpec := { name := "seglogCrash", fn := fun _ => fun
  | [d1, d2, d3] => { results := [.lit (.bool false)], args := [d1, d2, d3] }
  | _ => none }
def SeglogCrashWrongFalsely : Prop := seglogCrashRow.holds Try.pinned (OpenSpec.ofChange seglogCrashWrong)

/- THE SECOND FORM. 'bulk': how many values and letters a reading holds, each counted each time it is reached (what is shared counts as often as it is met; a slice's spare places count too). A statement '..UptoSaid' is the law's where the arguments, and the package variables that the reading takes, are together of bulk at most 1048576: NARROWER than '..Said'. Prove '..Said' where nothing that the law and all that it calls make is longer than what came in: it says more and counts as full. Else prove '..UptoSaid'. A law counts once. -/
mutual
def uptoBulk {H : Type} : DataW H → Nat
  | .lit (.string bytes) => bytes.length + 1
  | .lit _ => 1
  | .nil => 1
  | .ptr d => uptoBulk d + 1
  | .slice elems spare => uptoBulkAll elems + uptoBulkAll spare + 1
  | .agg parts => uptoBulkAll parts + 1
  | .iface _ d => uptoBulk d + 1
  | .map entries => uptoBulkEntries entries + 1
  | .held _ => 1
def uptoBulkAll {H : Type} : List (DataW H) → Nat
  | [] => 0
  | d :: r => uptoBulk d + uptoBulkAll r
def uptoBulkEntries {H : Type} : List (Lit × DataW H) → Nat
  | [] => 0
  | x :: r => uptoBulkEntry x + uptoBulkEntries r
def uptoBulkEntry {H : Type} : Lit × DataW H → Nat
  | (.string bytes, d) => bytes.length + uptoBulk d + 1
  | (_, d) => uptoBulk d + 1
 end
def uptoSmall : (H : Type) → List (DataW H) → Bool := fun _ ds => decide (uptoBulkAll ds ≤ 1048576)
def OpenSpec.upto (s : _root_.Go.ChangeSpec) : _root_.Go.OpenSpec := { _root_.Go.OpenSpec.ofChange s with cond := some uptoSmall }

/-- 'firthlaw09.SeglogRot', WHERE WHAT IT READS IS OF BULK AT MOST 1048576: true; the input reads as it did. -/
def seglogRotUptoRow : OpenClaim := { program := "ytogcoieekhbfdaa", sum := "2d659de96133215d75cf508c4311451d270c259328619631835b45596f42c45e", func := "firth/firthlaw09.SeglogRot", spec := "seglogRot", inPlace := ["internal/bytealg.IndexByteString", "internal/bytealg.IndexString", "maps.clone"], unfollowed := true, recurses := true, named := ["internal/bytealg.MaxLen"], apart := false, narrowed := true }
def SeglogRotUptoSaid : Prop := seglogRotUptoRow.holds Try.pinned (OpenSpec.upto seglogRotSpec)

/-- 'firthlaw09.SeglogApart', WHERE WHAT IT READS IS OF BULK AT MOST 1048576: true; the input reads as it did. -/
def seglogApartUptoRow : OpenClaim := { program := "ytogcoieekhbfdaa", sum := "2d659de96133215d75cf508c4311451d270c259328619631835b45596f42c45e", func := "firth/firthlaw09.SeglogApart", spec := "seglogApart", inPlace := ["internal/bytealg.IndexByteString", "internal/bytealg.IndexString", "maps.clone"], unfollowed := true, recurses := true, named := ["internal/bytealg.MaxLen"], apart := false, narrowed := true }
def SeglogApartUptoSaid : Prop := seglogApartUptoRow.holds Try.pinned (OpenSpec.upto seglogApartSpec)

/-- 'firthlaw09.SeglogParts', WHERE WHAT IT READS IS OF BULK AT MOST 1048576: true; the input reads as it did. -/
def seglogPartsUptoRow : OpenClaim := { program := "ytogcoieekhbfdaa", sum := "2d659de96133215d75cf508c4311451d270c259328619631835b45596f42c45e", func := "firth/firthlaw09.SeglogParts", spec := "seglogParts", inPlace := ["internal/bytealg.IndexByteString", "internal/bytealg.IndexString", "maps.clone"], unfollowed := true, recurses := true, named := ["internal/bytealg.MaxLen"], apart := false, narrowed := true }
def SeglogPartsUptoSaid : Prop := seglogPartsUptoRow.holds Try.pinned (OpenSpec.upto seglogPartsSpec)

/-- 'firthlaw09.SeglogCrash', WHERE WHAT IT READS IS OF BULK AT MOST 1048576: true; the input reads as it did. -/
def seglogCrashUptoRow : OpenClaim := { program := "ytogcoieekhbfdaa", sum := "2d659de96133215d75cf508c4311451d270c259328619631835b45596f42c45e", func := "firth/firthlaw09.SeglogCrash", spec := "seglogCrash", inPlace := ["internal/bytealg.IndexByteString", "internal/bytealg.IndexString", "maps.clone"], unfollowed := true, recurses := true, named := ["internal/bytealg.MaxLen"], apart := false, narrowed := true }
def SeglogCrashUptoSaid : Prop := seglogCrashUptoRow.holds Try.pinned (OpenSpec.upto seglogCrashSpec)

end Rows
end Go.Proofs.Ytogcoieekhbfdaa
