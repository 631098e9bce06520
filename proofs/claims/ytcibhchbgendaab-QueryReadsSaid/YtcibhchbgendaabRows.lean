/-
  No cell of these rows narrows 'for every input' (looked for: loops, veiled, ifaces, maps, wideKeys, modest, calm, conditions, laid).
  DERIVED. THE GIVEN ROWS OF THIS SEAT. 6 by the template 'for every input the law returns true; each argument reads behind the call as it read before'; 0 by the template 'total and deterministic' (their statements: YtcibhchbgendaabTotals.lean).
  GIVEN WITH THE SEED: the statements are not yours to turn. If you find one false, say at which input.
  Laid BY PROGRAM, IN A SANDBOX (cutbox-rows.mjs): the forced cells as the released guide's own fill.sh prints them over the translation ade257dd35308bff… (all of the seat's roots in one cut). By AI agents, Wed Nov 11 2026. No macro, syntax, notation, axiom, sorry.
-/
import Derived.Test.YtcibhchbgendaabChecked
import GoSem.Claim
import GoSem.ClaimJoined
import GoSem.ClaimMapViews
import Derived.JoinedTies
import Derived.KernelRfl
namespace Go.Proofs.Ytcibhchbgendaab
/- THE CELL 'sum', in the pinned program and in every row, IS THE sha256 OF THE DUMP (.gsa) THAT YtcibhchbgendaabProg.lean LOADS. Nothing in Lean hashes anything: it is a label: what it is worth is what the hold of that sum in a sandbox is worth. -/
noncomputable def Try.pinned : Pinned := { name := "ytcibhchbgendaab", sum := "ade257dd35308bffc6a501239fa22920043f51a89af6e2dd368d83bdedcc7f53", checked := Try.checked }
namespace Rows
def none {H : Type} : Left H := { results := [], args := [] }

/-- 'vitrinelaw02.ClassCounts': WHATEVER THE INPUT: true; the input reads as it did. -/
def classCountsSpec : ChangeSpec := { name := "classCounts", fn := fun _ => fun
  | [d1, d2] => { results := [.lit (.bool true)], args := [d1, d2] }
  | _ => none }
def classCountsRow : OpenClaim := { program := "ytcibhchbgendaab", sum := "ade257dd35308bffc6a501239fa22920043f51a89af6e2dd368d83bdedcc7f53", func := "vitrine/vitrinelaw02.ClassCounts", spec := "classCounts", inPlace := ["sync/atomic.LoadUint32", "(*internal/sync.Mutex).Lock", "internal/race.Disable", "sync/atomic.CompareAndSwapInt32", "internal/race.Enable", "internal/race.Acquire", "(*internal/sync.Mutex).lockSlow", "internal/sync.runtime_canSpin", "internal/sync.runtime_doSpin", "internal/sync.throw", "internal/sync.runtime_nanotime", "internal/sync.runtime_SemacquireMutex", "sync/atomic.AddInt32", "(*internal/sync.Mutex).Unlock", "internal/race.ReleaseMerge", "(*internal/sync.Mutex).unlockSlow", "internal/sync.fatal", "internal/sync.runtime_Semrelease", "sync/atomic.StoreUint32"], unfollowed := true, recurses := true, apart := false }
def ClassCountsSaid : Prop := classCountsRow.holds Try.pinned (OpenSpec.ofChange classCountsSpec)

/-- ITS FALSE NEIGHBOUR: 'it returns false'. Refute it at one input. -/
def classCountsWrong : ChangeSpec := { name := "classCounts", fn := fun _ => fun
  | [d1, d2] => { results := [.lit (.bool false)], args := [d1, d2] }
  | _ => none }
def ClassCountsWrongFalsely : Prop := classCountsRow.holds Try.pinned (OpenSpec.ofChange classCountsWrong)

/-- 'vitrinelaw02.ClassUses': WHATEVER THE INPUT: true; the input reads as it did. -/
def classUsesSpec : ChangeSpec := { name := "classUses", fn := fun _ => fun
  | [d] => { results := [.lit (.bool true)], args := [d] }
  | _ => none }
def classUsesRow : OpenClaim := { program := "ytcibhchbgendaab", sum := "ade257dd35308bffc6a501239fa22920043f51a89af6e2dd368d83bdedcc7f53", func := "vitrine/vitrinelaw02.ClassUses", spec := "classUses", inPlace := ["sync/atomic.LoadUint32", "(*internal/sync.Mutex).Lock", "internal/race.Disable", "sync/atomic.CompareAndSwapInt32", "internal/race.Enable", "internal/race.Acquire", "(*internal/sync.Mutex).lockSlow", "internal/sync.runtime_canSpin", "internal/sync.runtime_doSpin", "internal/sync.throw", "internal/sync.runtime_nanotime", "internal/sync.runtime_SemacquireMutex", "sync/atomic.AddInt32", "(*internal/sync.Mutex).Unlock", "internal/race.ReleaseMerge", "(*internal/sync.Mutex).unlockSlow", "internal/sync.fatal", "internal/sync.runtime_Semrelease", "sync/atomic.StoreUint32"], unfollowed := true, recurses := true, apart := false }
def ClassUsesSaid : Prop := classUsesRow.holds Try.pinned (OpenSpec.ofChange classUsesSpec)

/-- ITS FALSE NEIGHBOUR: 'it returns false'. Refute it at one input. -/
def classUsesWrong : ChangeSpec := { name := "classUses", fn := fun _ => fun
  | [d] => { results := [.lit (.bool false)], args := [d] }
  | _ => none }
def ClassUsesWrongFalsely : Prop := classUsesRow.holds Try.pinned (OpenSpec.ofChange classUsesWrong)

/-- 'vitrinelaw01.PageTexts': WHATEVER THE INPUT: true; the input reads as it did. -/
def pageTextsSpec : ChangeSpec := { name := "pageTexts", fn := fun _ => fun
  | [d1, d2] => { results := [.lit (.bool true)], args := [d1, d2] }
  | _ => none }
def pageTextsRow : OpenClaim := { program := "ytcibhchbgendaab", sum := "ade257dd35308bffc6a501239fa22920043f51a89af6e2dd368d83bdedcc7f53", func := "vitrine/vitrinelaw01.PageTexts", spec := "pageTexts", inPlace := ["sync/atomic.LoadUint32", "(*internal/sync.Mutex).Lock", "internal/race.Disable", "sync/atomic.CompareAndSwapInt32", "internal/race.Enable", "internal/race.Acquire", "(*internal/sync.Mutex).lockSlow", "internal/sync.runtime_canSpin", "internal/sync.runtime_doSpin", "internal/sync.throw", "internal/sync.runtime_nanotime", "internal/sync.runtime_SemacquireMutex", "sync/atomic.AddInt32", "(*internal/sync.Mutex).Unlock", "internal/race.ReleaseMerge", "(*internal/sync.Mutex).unlockSlow", "internal/sync.fatal", "internal/sync.runtime_Semrelease", "sync/atomic.StoreUint32", "internal/abi.NoEscape"], unfollowed := true, recurses := true, apart := false }
def PageTextsSaid : Prop := pageTextsRow.holds Try.pinned (OpenSpec.ofChange pageTextsSpec)

/-- ITS FALSE NEIGHBOUR: 'it returns false'. Refute it at one input. -/
def pageTextsWrong : ChangeSpec := { name := "pageTexts", fn := fun _ => fun
  | [d1, d2] => { results := [.lit (.bool false)], args := [d1, d2] }
  | _ => none }
def PageTextsWrongFalsely : Prop := pageTextsRow.holds Try.pinned (OpenSpec.ofChange pageTextsWrong)

/-- 'vitrinelaw22.QueryReads': WHATEVER THE INPUT: true; the input reads as it did. -/
def queryReadsSpec : ChangeSpec := { name := "queryReads", fn := fun _ => fun
  | [d1, d2, d3] => { results := [.lit (.bool true)], args := [d1, d2, d3] }
  | _ => none }
def queryReadsRow : OpenClaim := { program := "ytcibhchbgendaab", sum := "ade257dd35308bffc6a501239fa22920043f51a89af6e2dd368d83bdedcc7f53", func := "vitrine/vitrinelaw22.QueryReads", spec := "queryReads", inPlace := ["internal/bytealg.IndexByte"], unfollowed := true, recurses := true, apart := false }
def QueryReadsSaid : Prop := queryReadsRow.holds Try.pinned (OpenSpec.ofChange queryReadsSpec)

/-- ITS FALSE NEIGHBOUR: 'it returns false'. Refute it at one input. -/
def queryReadsWrong : ChangeSpec := { name := "queryReads", fn := fun _ => fun
  | [d1, d2, d3] => { results := [.lit (.bool false)], args := [d1, d2, d3] }
  | _ => none }
def QueryReadsWrongFalsely : Prop := queryReadsRow.holds Try.pinned (OpenSpec.ofChange queryReadsWrong)

/-- 'vitrinelaw22.QueryParses': WHATEVER THE INPUT: true; the input reads as it did. -/
def queryParsesSpec : ChangeSpec := { name := "queryParses", fn := fun _ => fun
  | [d1, d2] => { results := [.lit (.bool true)], args := [d1, d2] }
  | _ => none }
def queryParsesRow : OpenClaim := { program := "ytcibhchbgendaab", sum := "ade257dd35308bffc6a501239fa22920043f51a89af6e2dd368d83bdedcc7f53", func := "vitrine/vitrinelaw22.QueryParses", spec := "queryParses", unfollowed := true, recurses := true, apart := false }
def QueryParsesSaid : Prop := queryParsesRow.holds Try.pinned (OpenSpec.ofChange queryParsesSpec)

/-- ITS FALSE NEIGHBOUR: 'it returns false'. Refute it at one input. -/
def queryParsesWrong : ChangeSpec := { name := "queryParses", fn := fun _ => fun
  | [d1, d2] => { results := [.lit (.bool false)], args := [d1, d2] }
  | _ => none }
def QueryParsesWrongFalsely : Prop := queryParsesRow.holds Try.pinned (OpenSpec.ofChange queryParsesWrong)

/-- 'vitrinelaw01.PageNumbers': WHATEVER THE INPUT: true; the input reads as it did. -/
def pageNumbersSpec : ChangeSpec := { name := "pageNumbers", fn := fun _ => fun
  | [d1, d2] => { results := [.lit (.bool true)], args := [d1, d2] }
  | _ => none }
def pageNumbersRow : OpenClaim := { program := "ytcibhchbgendaab", sum := "ade257dd35308bffc6a501239fa22920043f51a89af6e2dd368d83bdedcc7f53", func := "vitrine/vitrinelaw01.PageNumbers", spec := "pageNumbers", inPlace := ["sync/atomic.LoadUint32", "(*internal/sync.Mutex).Lock", "internal/race.Disable", "sync/atomic.CompareAndSwapInt32", "internal/race.Enable", "internal/race.Acquire", "(*internal/sync.Mutex).lockSlow", "internal/sync.runtime_canSpin", "internal/sync.runtime_doSpin", "internal/sync.throw", "internal/sync.runtime_nanotime", "internal/sync.runtime_SemacquireMutex", "sync/atomic.AddInt32", "(*internal/sync.Mutex).Unlock", "internal/race.ReleaseMerge", "(*internal/sync.Mutex).unlockSlow", "internal/sync.fatal", "internal/sync.runtime_Semrelease", "sync/atomic.StoreUint32", "internal/abi.NoEscape"], unfollowed := true, recurses := true, apart := false }
def PageNumbersSaid : Prop := pageNumbersRow.holds Try.pinned (OpenSpec.ofChange pageNumbersSpec)

/-- ITS FALSE NEIGHBOUR: 'it returns false'. Refute it at one input. -/
def pageNumbersWrong : ChangeSpec := { name := "pageNumbers", fn := fun _ => fun
  | [d1, d2] => { results := [.lit (.bool false)], args := [d1, d2] }
  | _ => none }
def PageNumbersWrongFalsely : Prop := pageNumbersRow.holds Try.pinned (OpenSpec.ofChange pageNumbersWrong)

/- THE SECOND FORM. 'bulk': how many values and letters a reading holds, each counted each time it is reached (what is shared counts as often as it is met; a slice's spare places count too). A statement '..UptoSaid' is the law's where the arguments, and the package variables that the reading takes, are together of bulk at most 1048576: NARROWER than '..Said'. Prove '..Said' where nothing that the law and all that it calls make is longer than what came in: it says more and counts as full. Else prove '..UptoSaid'. A law counts once. -/
mutual
def uptoBulk {H : Type} : DataW H → Nat
  | .lit (.string bytes) => bytes.length + 1
  | .lit _ => 1
  | .nil => 1
  | .ptr d => uptoBulk d + 1
  | .slice elems spare => uptoBulkAll elems + uptoBulkAll spare + 1
  | .agg parts => uptoBulkAll parts + 1
  | .iface _ d => uptoBulk d + 1
  | .map entries => uptoBulkEntries entries + 1
  | .held _ => 1
def uptoBulkAll {H : Type} : List (DataW H) → Nat
  | [] => 0
  | d :: r => uptoBulk d + uptoBulkAll r
def uptoBulkEntries {H : Type} : List (Lit × DataW H) → Nat
  | [] => 0
  | x :: r => uptoBulkEntry x + uptoBulkEntries r
def uptoBulkEntry {H : Type} : Lit × DataW H → Nat
  | (.string bytes, d) => bytes.length + uptoBulk d + 1
  | (_, d) => uptoBulk d + 1
 end
def uptoSmall : (H : Type) → List (DataW H) → Bool := fun _ ds => decide (uptoBulkAll ds ≤ 1048576)
def OpenSpec.upto (s : _root_.Go.ChangeSpec) : _root_.Go.OpenSpec := { _root_.Go.OpenSpec.ofChange s with cond := some uptoSmall }

/-- 'vitrinelaw02.ClassCounts', WHERE WHAT IT READS IS OF BULK AT MOST 1048576: true; the input reads as it did. -/
def classCountsUptoRow : OpenClaim := { program := "ytcibhchbgendaab", sum := "ade257dd35308bffc6a501239fa22920043f51a89af6e2dd368d83bdedcc7f53", func := "vitrine/vitrinelaw02.ClassCounts", spec := "classCounts", inPlace := ["sync/atomic.LoadUint32", "(*internal/sync.Mutex).Lock", "internal/race.Disable", "sync/atomic.CompareAndSwapInt32", "internal/race.Enable", "internal/race.Acquire", "(*internal/sync.Mutex).lockSlow", "internal/sync.runtime_canSpin", "internal/sync.runtime_doSpin", "internal/sync.throw", "internal/sync.runtime_nanotime", "internal/sync.runtime_SemacquireMutex", "sync/atomic.AddInt32", "(*internal/sync.Mutex).Unlock", "internal/race.ReleaseMerge", "(*internal/sync.Mutex).unlockSlow", "internal/sync.fatal", "internal/sync.runtime_Semrelease", "sync/atomic.StoreUint32"], unfollowed := true, recurses := true, apart := false, narrowed := true }
def ClassCountsUptoSaid : Prop := classCountsUptoRow.holds Try.pinned (OpenSpec.upto classCountsSpec)

/-- 'vitrinelaw02.ClassUses', WHERE WHAT IT READS IS OF BULK AT MOST 1048576: true; the input reads as it did. -/
def classUsesUptoRow : OpenClaim := { program := "ytcibhchbgendaab", sum := "ade257dd35308bffc6a501239fa22920043f51a89af6e2dd368d83bdedcc7f53", func := "vitrine/vitrinelaw02.ClassUses", spec := "classUses", inPlace := ["sync/atomic.LoadUint32", "(*internal/sync.Mutex).Lock", "internal/race.Disable", "sync/atomic.CompareAndSwapInt32", "internal/race.Enable", "internal/race.Acquire", "(*internal/sync.Mutex).lockSlow", "internal/sync.runtime_canSpin", "internal/sync.runtime_doSpin", "internal/sync.throw", "internal/sync.runtime_nanotime", "internal/sync.runtime_SemacquireMutex", "sync/atomic.AddInt32", "(*internal/sync.Mutex).Unlock", "internal/race.ReleaseMerge", "(*internal/sync.Mutex).unlockSlow", "internal/sync.fatal", "internal/sync.runtime_Semrelease", "sync/atomic.StoreUint32"], unfollowed := true, recurses := true, apart := false, narrowed := true }
def ClassUsesUptoSaid : Prop := classUsesUptoRow.holds Try.pinned (OpenSpec.upto classUsesSpec)

/-- 'vitrinelaw01.PageTexts', WHERE WHAT IT READS IS OF BULK AT MOST 1048576: true; the input reads as it did. -/
def pageTextsUptoRow : OpenClaim := { program := "ytcibhchbgendaab", sum := "ade257dd35308bffc6a501239fa22920043f51a89af6e2dd368d83bdedcc7f53", func := "vitrine/vitrinelaw01.PageTexts", spec := "pageTexts", inPlace := ["sync/atomic.LoadUint32", "(*internal/sync.Mutex).Lock", "internal/race.Disable", "sync/atomic.CompareAndSwapInt32", "internal/race.Enable", "internal/race.Acquire", "(*internal/sync.Mutex).lockSlow", "internal/sync.runtime_canSpin", "internal/sync.runtime_doSpin", "internal/sync.throw", "internal/sync.runtime_nanotime", "internal/sync.runtime_SemacquireMutex", "sync/atomic.AddInt32", "(*internal/sync.Mutex).Unlock", "internal/race.ReleaseMerge", "(*internal/sync.Mutex).unlockSlow", "internal/sync.fatal", "internal/sync.runtime_Semrelease", "sync/atomic.StoreUint32", "internal/abi.NoEscape"], unfollowed := true, recurses := true, apart := false, narrowed := true }
def PageTextsUptoSaid : Prop := pageTextsUptoRow.holds Try.pinned (OpenSpec.upto pageTextsSpec)

/-- 'vitrinelaw22.QueryReads', WHERE WHAT IT READS IS OF BULK AT MOST 1048576: true; the input reads as it did. -/
def queryReadsUptoRow : OpenClaim := { program := "ytcibhchbgendaab", sum := "ade257dd35308bffc6a501239fa22920043f51a89af6e2dd368d83bdedcc7f53", func := "vitrine/vitrinelaw22.QueryReads", spec := "queryReads", inPlace := ["internal/bytealg.IndexByte"], unfollowed := true, recurses := true, apart := false, narrowed := true }
def QueryReadsUptoSaid : Prop := queryReadsUptoRow.holds Try.pinned (OpenSpec.upto queryReadsSpec)

/-- 'vitrinelaw22.QueryParses', WHERE WHAT IT READS IS OF BULK AT MOST 1048576: true; the input reads as it did. -/
def queryParsesUptoRow : OpenClaim := { program := "ytcibhchbgendaab", sum := "ade257dd35308bffc6a501239fa22920043f51a89af6e2dd368d83bdedcc7f53", func := "vitrine/vitrinelaw22.QueryParses", spec := "queryParses", unfollowed := true, recurses := true, apart := false, narrowed := true }
def QueryParsesUptoSaid : Prop := queryParsesUptoRow.holds Try.pinned (OpenSpec.upto queryParsesSpec)

/-- 'vitrinelaw01.PageNumbers', WHERE WHAT IT READS IS OF BULK AT MOST 1048576: true; the input reads as it did. -/
def pageNumbersUptoRow : OpenClaim := { program := "ytcibhchbgendaab", sum := "ade257dd35308bffc6a501239fa22920043f51a89af6e2dd368d83bdedcc7f53", func := "vitrine/vitrinelaw01.PageNumbers", spec := "pageNumbers", inPlace := ["sync/atomic.LoadUint32", "(*internal/sync.Mutex).Lock", "internal/race.Disable", "sync/atomic.CompareAndSwapInt32", "internal/race.Enable", "internal/race.Acquire", "(*internal/sync.Mutex).lockSlow", "internal/sync.runtime_canSpin", "internal/sync.runtime_doSpin", "internal/sync.throw", "internal/sync.runtime_nanotime", "internal/sync.runtime_SemacquireMutex", "sync/atomic.AddInt32", "(*internal/sync.Mutex).Unlock", "internal/race.ReleaseMerge", "(*internal/sync.Mutex).unlockSlow", "internal/sync.fatal", "internal/sync.runtime_Semrelease", "sync/atomic.StoreUint32", "internal/abi.NoEscape"], unfollowed := true, recurses := true, apart := false, narrowed := true }
def PageNumbersUptoSaid : Prop := pageNumbersUptoRow.holds Try.pinned (OpenSpec.upto pageNumbersSpec)

end Rows
end Go.Proofs.Ytcibhchbgendaab
