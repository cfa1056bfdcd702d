/-
  No cell of these rows narrows 'for every input' (looked for: loops, veiled, ifaces, maps, wideKeys, modest, calm, conditions, laid).
  DERIVED. THE GIVEN ROWS OF THIS SEAT. 4 by the template 'for every input the law returns true; each argument reads behind the call as it read before'; 0 by the template 'total and deterministic' (their statements: YtogmioecalmalaaGreatTotals.lean).
  GIVEN WITH THE SEED: the statements are not yours to turn. If you find one false, say at which input.
  Laid BY PROGRAM, IN A SANDBOX (cutbox-rows.mjs): the forced cells as the released guide's own fill.sh prints them over the translation a4ea850b8d75b739… (all of the seat's roots in one cut). By AI agents, Wed Nov 11 2026. No macro, syntax, notation, axiom, sorry.
-/
import Derived.Test.YtogmioecalmalaaGreatChecked
import GoSem.Claim
import GoSem.ClaimJoined
import GoSem.ClaimMapViews
import Derived.JoinedTies
import Derived.KernelRfl
namespace Go.Proofs.YtogmioecalmalaaGreat
/- THE CELL 'sum', in the pinned program and in every row, IS THE sha256 OF THE DUMP (.gsa) THAT YtogmioecalmalaaGreatProg.lean LOADS. Nothing in Lean hashes anything: it is a label: what it is worth is what the hold of that sum in a sandbox is worth. -/
noncomputable def Tryz.pinned : Pinned := { name := "ytogmioecalmalaagreat", sum := "a4ea850b8d75b739a38c3c7dcc4222cd06d3c28f2475a5e006e191882ede4c27", checked := Tryz.checked }
namespace Rows
def none {H : Type} : Left H := { results := [], args := [] }

/-- 'firthlaw20.SiteConfs': WHATEVER THE INPUT: true; the input reads as it did. -/
def siteConfsSpec : ChangeSpec := { name := "siteConfs", fn := fun _ => fun
  | [d1, d2, d3] => { results := [.lit (.bool true)], args := [d1, d2, d3] }
  | _ => none }
def siteConfsRow : OpenClaim := { program := "ytogmioecalmalaagreat", sum := "a4ea850b8d75b739a38c3c7dcc4222cd06d3c28f2475a5e006e191882ede4c27", func := "firth/firthlaw20.SiteConfs", spec := "siteConfs", inPlace := ["internal/bytealg.IndexByteString", "internal/bytealg.IndexString", "maps.clone", "sync/atomic.LoadUint32", "(*internal/sync.Mutex).Lock", "internal/race.Disable", "sync/atomic.CompareAndSwapInt32", "internal/race.Enable", "internal/race.Acquire", "(*internal/sync.Mutex).lockSlow", "internal/sync.runtime_canSpin", "internal/sync.runtime_doSpin", "internal/sync.throw", "internal/sync.runtime_nanotime", "internal/sync.runtime_SemacquireMutex", "sync/atomic.AddInt32", "(*internal/sync.Mutex).Unlock", "internal/race.ReleaseMerge", "(*internal/sync.Mutex).unlockSlow", "internal/sync.fatal", "internal/sync.runtime_Semrelease", "sync/atomic.StoreUint32"], unfollowed := true, recurses := true, named := ["internal/bytealg.MaxLen"], plainKeys := false, apart := false }
def SiteConfsSaid : Prop := siteConfsRow.holds Tryz.pinned (OpenSpec.ofChange siteConfsSpec)

/-- ITS FALSE NEIGHBOUR: 'it returns false'. Refute it at one input. -/
def siteConfsWrong : ChangeSpec := { name := "siteConfs", fn := fun _ => fun
  | [d1, d2, d3] => { results := [.lit (.bool false)], args := [d1, d2, d3] }
  | _ => none }
def SiteConfsWrongFalsely : Prop := siteConfsRow.holds Tryz.pinned (OpenSpec.ofChange siteConfsWrong)

/-- 'firthlaw20.SiteWrites': WHATEVER THE INPUT: true; the input reads as it did. -/
def siteWritesSpec : ChangeSpec := { name := "siteWrites", fn := fun _ => fun
  | [d1, d2, d3] => { results := [.lit (.bool true)], args := [d1, d2, d3] }
  | _ => none }
def siteWritesRow : OpenClaim := { program := "ytogmioecalmalaagreat", sum := "a4ea850b8d75b739a38c3c7dcc4222cd06d3c28f2475a5e006e191882ede4c27", func := "firth/firthlaw20.SiteWrites", spec := "siteWrites", inPlace := ["internal/bytealg.IndexByteString", "internal/bytealg.IndexString", "maps.clone", "sync/atomic.LoadUint32", "(*internal/sync.Mutex).Lock", "internal/race.Disable", "sync/atomic.CompareAndSwapInt32", "internal/race.Enable", "internal/race.Acquire", "(*internal/sync.Mutex).lockSlow", "internal/sync.runtime_canSpin", "internal/sync.runtime_doSpin", "internal/sync.throw", "internal/sync.runtime_nanotime", "internal/sync.runtime_SemacquireMutex", "sync/atomic.AddInt32", "(*internal/sync.Mutex).Unlock", "internal/race.ReleaseMerge", "(*internal/sync.Mutex).unlockSlow", "internal/sync.fatal", "internal/sync.runtime_Semrelease", "sync/atomic.StoreUint32"], unfollowed := true, recurses := true, named := ["internal/bytealg.MaxLen"], plainKeys := false, apart := false }
def SiteWritesSaid : Prop := siteWritesRow.holds Tryz.pinned (OpenSpec.ofChange siteWritesSpec)

/-- ITS FALSE NEIGHBOUR: 'it returns false'. Refute it at one input. -/
def siteWritesWrong : ChangeSpec := { name := "siteWrites", fn := fun _ => fun
  | [d1, d2, d3] => { results := [.lit (.bool false)], args := [d1, d2, d3] }
  | _ => none }
def SiteWritesWrongFalsely : Prop := siteWritesRow.holds Tryz.pinned (OpenSpec.ofChange siteWritesWrong)

/-- 'firthlaw20.SiteGates': WHATEVER THE INPUT: true; the input reads as it did. -/
def siteGatesSpec : ChangeSpec := { name := "siteGates", fn := fun _ => fun
  | [d1, d2, d3] => { results := [.lit (.bool true)], args := [d1, d2, d3] }
  | _ => none }
def siteGatesRow : OpenClaim := { program := "ytogmioecalmalaagreat", sum := "a4ea850b8d75b739a38c3c7dcc4222cd06d3c28f2475a5e006e191882ede4c27", func := "firth/firthlaw20.SiteGates", spec := "siteGates", inPlace := ["internal/bytealg.IndexByteString", "internal/bytealg.IndexString", "maps.clone", "sync/atomic.LoadUint32", "(*internal/sync.Mutex).Lock", "internal/race.Disable", "sync/atomic.CompareAndSwapInt32", "internal/race.Enable", "internal/race.Acquire", "(*internal/sync.Mutex).lockSlow", "internal/sync.runtime_canSpin", "internal/sync.runtime_doSpin", "internal/sync.throw", "internal/sync.runtime_nanotime", "internal/sync.runtime_SemacquireMutex", "sync/atomic.AddInt32", "(*internal/sync.Mutex).Unlock", "internal/race.ReleaseMerge", "(*internal/sync.Mutex).unlockSlow", "internal/sync.fatal", "internal/sync.runtime_Semrelease", "sync/atomic.StoreUint32"], unfollowed := true, recurses := true, named := ["internal/bytealg.MaxLen"], plainKeys := false, apart := false }
def SiteGatesSaid : Prop := siteGatesRow.holds Tryz.pinned (OpenSpec.ofChange siteGatesSpec)

/-- ITS FALSE NEIGHBOUR: 'it returns false'. Refute it at one input. -/
def siteGatesWrong : ChangeSpec := { name := "siteGates", fn := fun _ => fun
  | [d1, d2, d3] => { results := [.lit (.bool false)], args := [d1, d2, d3] }
  | _ => none }
def SiteGatesWrongFalsely : Prop := siteGatesRow.holds Tryz.pinned (OpenSpec.ofChange siteGatesWrong)

/-- 'firthlaw20.SiteTimes': WHATEVER THE INPUT: true; the input reads as it did. -/
def siteTimesSpec : ChangeSpec := { name := "siteTimes", fn := fun _ => fun
  | [d1, d2, d3] => { results := [.lit (.bool true)], args := [d1, d2, d3] }
  | _ => none }
def siteTimesRow : OpenClaim := { program := "ytogmioecalmalaagreat", sum := "a4ea850b8d75b739a38c3c7dcc4222cd06d3c28f2475a5e006e191882ede4c27", func := "firth/firthlaw20.SiteTimes", spec := "siteTimes", inPlace := ["internal/bytealg.IndexByteString", "internal/bytealg.IndexString", "maps.clone", "sync/atomic.LoadUint32", "(*internal/sync.Mutex).Lock", "internal/race.Disable", "sync/atomic.CompareAndSwapInt32", "internal/race.Enable", "internal/race.Acquire", "(*internal/sync.Mutex).lockSlow", "internal/sync.runtime_canSpin", "internal/sync.runtime_doSpin", "internal/sync.throw", "internal/sync.runtime_nanotime", "internal/sync.runtime_SemacquireMutex", "sync/atomic.AddInt32", "(*internal/sync.Mutex).Unlock", "internal/race.ReleaseMerge", "(*internal/sync.Mutex).unlockSlow", "internal/sync.fatal", "internal/sync.runtime_Semrelease", "sync/atomic.StoreUint32"], unfollowed := true, recurses := true, named := ["internal/bytealg.MaxLen"], plainKeys := false, apart := false }
def SiteTimesSaid : Prop := siteTimesRow.holds Tryz.pinned (OpenSpec.ofChange siteTimesSpec)

/-- ITS FALSE NEIGHBOUR: 'it returns false'. Refute it at one input. -/
def siteTimesWrong : ChangeSpec := { name := "siteTimes", fn := fun _ => fun
  | [d1, d2, d3] => { results := [.lit (.bool false)], args := [d1, d2, d3] }
  | _ => none }
def SiteTimesWrongFalsely : Prop := siteTimesRow.holds Tryz.pinned (OpenSpec.ofChange siteTimesWrong)

/- THE SECOND FORM. 'bulk': how many values and letters a reading holds, each counted each time it is reached (what is shared counts as often as it is met; a slice's spare places count too). A statement '..UptoSaid' is the law's where the arguments, and the package variables that the reading takes, are together of bulk at most 1048576: NARROWER than '..Said'. Prove '..Said' where nothing that the law and all that it calls make is longer than what came in: it says more and counts as full. Else prove '..UptoSaid'. A law counts once. -/
mutual
def uptoBulk {H : Type} : DataW H → Nat
  | .lit (.string bytes) => bytes.length + 1
  | .lit _ => 1
  | .nil => 1
  | .ptr d => uptoBulk d + 1
  | .slice elems spare => uptoBulkAll elems + uptoBulkAll spare + 1
  | .agg parts => uptoBulkAll parts + 1
  | .iface _ d => uptoBulk d + 1
  | .map entries => uptoBulkEntries entries + 1
  | .held _ => 1
def uptoBulkAll {H : Type} : List (DataW H) → Nat
  | [] => 0
  | d :: r => uptoBulk d + uptoBulkAll r
def uptoBulkEntries {H : Type} : List (Lit × DataW H) → Nat
  | [] => 0
  | x :: r => uptoBulkEntry x + uptoBulkEntries r
def uptoBulkEntry {H : Type} : Lit × DataW H → Nat
  | (.string bytes, d) => bytes.length + uptoBulk d + 1
  | (_, d) => uptoBulk d + 1
 end
def uptoSmall : (H : Type) → List (DataW H) → Bool := fun _ ds => decide (uptoBulkAll ds ≤ 1048576)
def OpenSpec.upto (s : _root_.Go.ChangeSpec) : _root_.Go.OpenSpec := { _root_.Go.OpenSpec.ofChange s with cond := some uptoSmall }

/-- 'firthlaw20.SiteConfs', WHERE WHAT IT READS IS OF BULK AT MOST 1048576: true; the input reads as it did. -/
def siteConfsUptoRow : OpenClaim := { program := "ytogmioecalmalaagreat", sum := "a4ea850b8d75b739a38c3c7dcc4222cd06d3c28f2475a5e006e191882ede4c27", func := "firth/firthlaw20.SiteConfs", spec := "siteConfs", inPlace := ["internal/bytealg.IndexByteString", "internal/bytealg.IndexString", "maps.clone", "sync/atomic.LoadUint32", "(*internal/sync.Mutex).Lock", "internal/race.Disable", "sync/atomic.CompareAndSwapInt32", "internal/race.Enable", "internal/race.Acquire", "(*internal/sync.Mutex).lockSlow", "internal/sync.runtime_canSpin", "internal/sync.runtime_doSpin", "internal/sync.throw", "internal/sync.runtime_nanotime", "internal/sync.runtime_SemacquireMutex", "sync/atomic.AddInt32", "(*internal/sync.Mutex).Unlock", "internal/race.ReleaseMerge", "(*internal/sync.Mutex).unlockSlow", "internal/sync.fatal", "internal/sync.runtime_Semrelease", "sync/atomic.StoreUint32"], unfollowed := true, recurses := true, named := ["internal/bytealg.MaxLen"], plainKeys := false, apart := false, narrowed := true }
def SiteConfsUptoSaid : Prop := siteConfsUptoRow.holds Tryz.pinned (OpenSpec.upto siteConfsSpec)

/-- 'firthlaw20.SiteWrites', WHERE WHAT IT READS IS OF BULK AT MOST 1048576: true; the input reads as it did. -/
def siteWritesUptoRow : OpenClaim := { program := "ytogmioecalmalaagreat", sum := "a4ea850b8d75b739a38c3c7dcc4222cd06d3c28f2475a5e006e191882ede4c27", func := "firth/firthlaw20.SiteWrites", spec := "siteWrites", inPlace := ["internal/bytealg.IndexByteString", "internal/bytealg.IndexString", "maps.clone", "sync/atomic.LoadUint32", "(*internal/sync.Mutex).Lock", "internal/race.Disable", "sync/atomic.CompareAndSwapInt32", "internal/race.Enable", "internal/race.Acquire", "(*internal/sync.Mutex).lockSlow", "internal/sync.runtime_canSpin", "internal/sync.runtime_doSpin", "internal/sync.throw", "internal/sync.runtime_nanotime", "internal/sync.runtime_SemacquireMutex", "sync/atomic.AddInt32", "(*internal/sync.Mutex).Unlock", "internal/race.ReleaseMerge", "(*internal/sync.Mutex).unlockSlow", "internal/sync.fatal", "internal/sync.runtime_Semrelease", "sync/atomic.StoreUint32"], unfollowed := true, recurses := true, named := ["internal/bytealg.MaxLen"], plainKeys := false, apart := false, narrowed := true }
def SiteWritesUptoSaid : Prop := siteWritesUptoRow.holds Tryz.pinned (OpenSpec.upto siteWritesSpec)

/-- 'firthlaw20.SiteGates', WHERE WHAT IT READS IS OF BULK AT MOST 1048576: true; the input reads as it did. -/
def siteGatesUptoRow : OpenClaim := { program := "ytogmioecalmalaagreat", sum := "a4ea850b8d75b739a38c3c7dcc4222cd06d3c28f2475a5e006e191882ede4c27", func := "firth/firthlaw20.SiteGates", spec := "siteGates", inPlace := ["internal/bytealg.IndexByteString", "internal/bytealg.IndexString", "maps.clone", "sync/atomic.LoadUint32", "(*internal/sync.Mutex).Lock", "internal/race.Disable", "sync/atomic.CompareAndSwapInt32", "internal/race.Enable", "internal/race.Acquire", "(*internal/sync.Mutex).lockSlow", "internal/sync.runtime_canSpin", "internal/sync.runtime_doSpin", "internal/sync.throw", "internal/sync.runtime_nanotime", "internal/sync.runtime_SemacquireMutex", "sync/atomic.AddInt32", "(*internal/sync.Mutex).Unlock", "internal/race.ReleaseMerge", "(*internal/sync.Mutex).unlockSlow", "internal/sync.fatal", "internal/sync.runtime_Semrelease", "sync/atomic.StoreUint32"], unfollowed := true, recurses := true, named := ["internal/bytealg.MaxLen"], plainKeys := false, apart := false, narrowed := true }
def SiteGatesUptoSaid : Prop := siteGatesUptoRow.holds Tryz.pinned (OpenSpec.upto siteGatesSpec)

/-- 'firthlaw20.SiteTimes', WHERE WHAT IT READS IS OF BULK AT MOST 1048576: true; the input reads as it did. -/
def siteTimesUptoRow : OpenClaim := { program := "ytogmioecalmalaagreat", sum := "a4ea850b8d75b739a38c3c7dcc4222cd06d3c28f2475a5e006e191882ede4c27", func := "firth/firthlaw20.SiteTimes", spec := "siteTimes", inPlace := ["internal/bytealg.IndexByteString", "internal/bytealg.IndexString", "maps.clone", "sync/atomic.LoadUint32", "(*internal/sync.Mutex).Lock", "internal/race.Disable", "sync/atomic.CompareAndSwapInt32", "internal/race.Enable", "internal/race.Acquire", "(*internal/sync.Mutex).lockSlow", "internal/sync.runtime_canSpin", "internal/sync.runtime_doSpin", "internal/sync.throw", "internal/sync.runtime_nanotime", "internal/sync.runtime_SemacquireMutex", "sync/atomic.AddInt32", "(*internal/sync.Mutex).Unlock", "internal/race.ReleaseMerge", "(*internal/sync.Mutex).unlockSlow", "internal/sync.fatal", "internal/sync.runtime_Semrelease", "sync/atomic.StoreUint32"], unfollowed := true, recurses := true, named := ["internal/bytealg.MaxLen"], plainKeys := false, apart := false, narrowed := true }
def SiteTimesUptoSaid : Prop := siteTimesUptoRow.holds Tryz.pinned (OpenSpec.upto siteTimesSpec)

end Rows
end Go.Proofs.YtogmioecalmalaaGreat
