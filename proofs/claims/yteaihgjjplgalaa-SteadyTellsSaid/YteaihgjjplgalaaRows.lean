/-
  No cell of these rows narrows 'for every input' (looked for: loops, veiled, ifaces, maps, wideKeys, modest, calm, conditions, laid).
  DERIVED. THE GIVEN ROWS OF THIS SEAT. 8 by the template 'for every input the law returns true; each argument reads behind the call as it read before'; 0 by the template 'total and deterministic' (their statements: YteaihgjjplgalaaTotals.lean).
  GIVEN WITH THE SEED: the statements are not yours to turn. If you find one false, say at which input.
  Laid BY PROGRAM, IN A SANDBOX (cutbox-rows.mjs): the forced cells as the released guide's own fill.sh prints them over the translation e355a738da1d5e2f… (all of the seat's roots in one cut). By AI agents, Wed Nov 11 2026. No macro, syntax, notation, axiom, sorry.
-/
import Derived.Test.YteaihgjjplgalaaChecked
import GoSem.Claim
import GoSem.ClaimJoined
import GoSem.ClaimMapViews
import Derived.JoinedTies
import Derived.KernelRfl
namespace Go.Proofs.Yteaihgjjplgalaa
/- THE CELL 'sum', in the pinned program and in every row, IS THE sha256 OF THE DUMP (.gsa) THAT YteaihgjjplgalaaProg.lean LOADS. Nothing in Lean hashes anything: it is a label: what it is worth is what the hold of that sum in a sandbox is worth. -/
noncomputable def Try.pinned : Pinned := { name := "yteaihgjjplgalaa", sum := "e355a738da1d5e2f43e37717f40d5c9393e2a393ad11eb40140c74be3abb11bd", checked := Try.checked }
namespace Rows
def none {H : Type} : Left H := { results := [], args := [] }

/-- 'overfalllaw19.LockPlays': WHATEVER THE INPUT: true; the input reads as it did. -/
def lockPlaysSpec : ChangeSpec := { name := "lockPlays", fn := fun _ => fun
  | [d] => { results := [.lit (.bool true)], args := [d] }
  | _ => none }
def lockPlaysRow : OpenClaim := { program := "yteaihgjjplgalaa", sum := "e355a738da1d5e2f43e37717f40d5c9393e2a393ad11eb40140c74be3abb11bd", func := "overfall/overfalllaw19.LockPlays", spec := "lockPlays", inPlace := ["sync/atomic.CompareAndSwapInt64", "sync/atomic.LoadInt64"], apart := false }
def LockPlaysSaid : Prop := lockPlaysRow.holds Try.pinned (OpenSpec.ofChange lockPlaysSpec)

/-- ITS FALSE NEIGHBOUR: 'it returns false'. Refute it at one input. -/
def lockPlaysWrong : ChangeSpec := { name := "lockPlays", fn := fun _ => fun
  | [d] => { results := [.lit (.bool false)], args := [d] }
  | _ => none }
def LockPlaysWrongFalsely : Prop := lockPlaysRow.holds Try.pinned (OpenSpec.ofChange lockPlaysWrong)

/-- 'overfalllaw19.LockBoxes': WHATEVER THE INPUT: true; the input reads as it did. -/
def lockBoxesSpec : ChangeSpec := { name := "lockBoxes", fn := fun _ => fun
  | [d] => { results := [.lit (.bool true)], args := [d] }
  | _ => none }
def lockBoxesRow : OpenClaim := { program := "yteaihgjjplgalaa", sum := "e355a738da1d5e2f43e37717f40d5c9393e2a393ad11eb40140c74be3abb11bd", func := "overfall/overfalllaw19.LockBoxes", spec := "lockBoxes", inPlace := ["sync/atomic.CompareAndSwapInt64", "sync/atomic.LoadInt32", "sync/atomic.StoreInt32"], apart := false }
def LockBoxesSaid : Prop := lockBoxesRow.holds Try.pinned (OpenSpec.ofChange lockBoxesSpec)

/-- ITS FALSE NEIGHBOUR: 'it returns false'. Refute it at one input. -/
def lockBoxesWrong : ChangeSpec := { name := "lockBoxes", fn := fun _ => fun
  | [d] => { results := [.lit (.bool false)], args := [d] }
  | _ => none }
def LockBoxesWrongFalsely : Prop := lockBoxesRow.holds Try.pinned (OpenSpec.ofChange lockBoxesWrong)

/-- 'overfalllaw19.LockRounds': WHATEVER THE INPUT: true; the input reads as it did. -/
def lockRoundsSpec : ChangeSpec := { name := "lockRounds", fn := fun _ => fun
  | [d1, d2] => { results := [.lit (.bool true)], args := [d1, d2] }
  | _ => none }
def lockRoundsRow : OpenClaim := { program := "yteaihgjjplgalaa", sum := "e355a738da1d5e2f43e37717f40d5c9393e2a393ad11eb40140c74be3abb11bd", func := "overfall/overfalllaw19.LockRounds", spec := "lockRounds", inPlace := ["sync/atomic.CompareAndSwapInt64", "sync/atomic.LoadInt32", "sync/atomic.StoreInt32"], apart := false }
def LockRoundsSaid : Prop := lockRoundsRow.holds Try.pinned (OpenSpec.ofChange lockRoundsSpec)

/-- ITS FALSE NEIGHBOUR: 'it returns false'. Refute it at one input. -/
def lockRoundsWrong : ChangeSpec := { name := "lockRounds", fn := fun _ => fun
  | [d1, d2] => { results := [.lit (.bool false)], args := [d1, d2] }
  | _ => none }
def LockRoundsWrongFalsely : Prop := lockRoundsRow.holds Try.pinned (OpenSpec.ofChange lockRoundsWrong)

/-- 'overfalllaw24.SteadyBursts': WHATEVER THE INPUT: true; the input reads as it did. -/
def steadyBurstsSpec : ChangeSpec := { name := "steadyBursts", fn := fun _ => fun
  | [d1, d2, d3] => { results := [.lit (.bool true)], args := [d1, d2, d3] }
  | _ => none }
def steadyBurstsRow : OpenClaim := { program := "yteaihgjjplgalaa", sum := "e355a738da1d5e2f43e37717f40d5c9393e2a393ad11eb40140c74be3abb11bd", func := "overfall/overfalllaw24.SteadyBursts", spec := "steadyBursts", unfollowed := true, recurses := true, apart := false }
def SteadyBurstsSaid : Prop := steadyBurstsRow.holds Try.pinned (OpenSpec.ofChange steadyBurstsSpec)

/-- ITS FALSE NEIGHBOUR: 'it returns false'. Refute it at one input. -/
def steadyBurstsWrong : ChangeSpec := { name := "steadyBursts", fn := fun _ => fun
  | [d1, d2, d3] => { results := [.lit (.bool false)], args := [d1, d2, d3] }
  | _ => none }
def SteadyBurstsWrongFalsely : Prop := steadyBurstsRow.holds Try.pinned (OpenSpec.ofChange steadyBurstsWrong)

/-- 'overfalllaw24.SteadyLater': WHATEVER THE INPUT: true; the input reads as it did. -/
def steadyLaterSpec : ChangeSpec := { name := "steadyLater", fn := fun _ => fun
  | [d1, d2, d3, d4, d5] => { results := [.lit (.bool true)], args := [d1, d2, d3, d4, d5] }
  | _ => none }
def steadyLaterRow : OpenClaim := { program := "yteaihgjjplgalaa", sum := "e355a738da1d5e2f43e37717f40d5c9393e2a393ad11eb40140c74be3abb11bd", func := "overfall/overfalllaw24.SteadyLater", spec := "steadyLater", unfollowed := true, recurses := true, apart := false }
def SteadyLaterSaid : Prop := steadyLaterRow.holds Try.pinned (OpenSpec.ofChange steadyLaterSpec)

/-- ITS FALSE NEIGHBOUR: 'it returns false'. Refute it at one input. -/
def steadyLaterWrong : ChangeSpec := { name := "steadyLater", fn := fun _ => fun
  | [d1, d2, d3, d4, d5] => { results := [.lit (.bool false)], args := [d1, d2, d3, d4, d5] }
  | _ => none }
def SteadyLaterWrongFalsely : Prop := steadyLaterRow.holds Try.pinned (OpenSpec.ofChange steadyLaterWrong)

/-- 'overfalllaw19.LockNil': WHATEVER THE INPUT: true; the input reads as it did. -/
def lockNilSpec : ChangeSpec := { name := "lockNil", fn := fun _ => fun
  | [d1, d2, d3] => { results := [.lit (.bool true)], args := [d1, d2, d3] }
  | _ => none }
def lockNilRow : OpenClaim := { program := "yteaihgjjplgalaa", sum := "e355a738da1d5e2f43e37717f40d5c9393e2a393ad11eb40140c74be3abb11bd", func := "overfall/overfalllaw19.LockNil", spec := "lockNil", inPlace := ["sync/atomic.CompareAndSwapInt64", "sync/atomic.LoadInt64", "sync/atomic.LoadInt32", "sync/atomic.StoreInt32"], apart := false }
def LockNilSaid : Prop := lockNilRow.holds Try.pinned (OpenSpec.ofChange lockNilSpec)

/-- ITS FALSE NEIGHBOUR: 'it returns false'. Refute it at one input. -/
def lockNilWrong : ChangeSpec := { name := "lockNil", fn := fun _ => fun
  | [d1, d2, d3] => { results := [.lit (.bool false)], args := [d1, d2, d3] }
  | _ => none }
def LockNilWrongFalsely : Prop := lockNilRow.holds Try.pinned (OpenSpec.ofChange lockNilWrong)

/-- 'overfalllaw23.PaceTells': WHATEVER THE INPUT: true; the input reads as it did. -/
def paceTellsSpec : ChangeSpec := { name := "paceTells", fn := fun _ => fun
  | [d1, d2, d3, d4] => { results := [.lit (.bool true)], args := [d1, d2, d3, d4] }
  | _ => none }
def paceTellsRow : OpenClaim := { program := "yteaihgjjplgalaa", sum := "e355a738da1d5e2f43e37717f40d5c9393e2a393ad11eb40140c74be3abb11bd", func := "overfall/overfalllaw23.PaceTells", spec := "paceTells", inPlace := ["math/bits.Add64"], apart := false }
def PaceTellsSaid : Prop := paceTellsRow.holds Try.pinned (OpenSpec.ofChange paceTellsSpec)

/-- ITS FALSE NEIGHBOUR: 'it returns false'. Refute it at one input. -/
def paceTellsWrong : ChangeSpec := { name := "paceTells", fn := fun _ => fun
  | [d1, d2, d3, d4] => { results := [.lit (.bool false)], args := [d1, d2, d3, d4] }
  | _ => none }
def PaceTellsWrongFalsely : Prop := paceTellsRow.holds Try.pinned (OpenSpec.ofChange paceTellsWrong)

/-- 'overfalllaw24.SteadyTells': WHATEVER THE INPUT: true; the input reads as it did. -/
def steadyTellsSpec : ChangeSpec := { name := "steadyTells", fn := fun _ => fun
  | [d1, d2, d3] => { results := [.lit (.bool true)], args := [d1, d2, d3] }
  | _ => none }
def steadyTellsRow : OpenClaim := { program := "yteaihgjjplgalaa", sum := "e355a738da1d5e2f43e37717f40d5c9393e2a393ad11eb40140c74be3abb11bd", func := "overfall/overfalllaw24.SteadyTells", spec := "steadyTells", inPlace := ["math/bits.Add64"], unfollowed := true, recurses := true, apart := false }
def SteadyTellsSaid : Prop := steadyTellsRow.holds Try.pinned (OpenSpec.ofChange steadyTellsSpec)

/-- ITS FALSE NEIGHBOUR: 'it returns false'. Refute it at one input. -/
def steadyTellsWrong : ChangeSpec := { name := "steadyTells", fn := fun _ => fun
  | [d1, d2, d3] => { results := [.lit (.bool false)], args := [d1, d2, d3] }
  | _ => none }
def SteadyTellsWrongFalsely : Prop := steadyTellsRow.holds Try.pinned (OpenSpec.ofChange steadyTellsWrong)

/- THE SECOND FORM. 'bulk': how many values and letters a reading holds, each counted each time it is reached (what is shared counts as often as it is met; a slice's spare places count too). A statement '..UptoSaid' is the law's where the arguments, and the package variables that the reading takes, are together of bulk at most 1048576: NARROWER than '..Said'. Prove '..Said' where nothing that the law and all that it calls make is longer than what came in: it says more and counts as full. Else prove '..UptoSaid'. A law counts once. -/
mutual
def uptoBulk {H : Type} : DataW H → Nat
  | .lit (.string bytes) => bytes.length + 1
  | .lit _ => 1
  | .nil => 1
  | .ptr d => uptoBulk d + 1
  | .slice elems spare => uptoBulkAll elems + uptoBulkAll spare + 1
  | .agg parts => uptoBulkAll parts + 1
  | .iface _ d => uptoBulk d + 1
  | .map entries => uptoBulkEntries entries + 1
  | .held _ => 1
def uptoBulkAll {H : Type} : List (DataW H) → Nat
  | [] => 0
  | d :: r => uptoBulk d + uptoBulkAll r
def uptoBulkEntries {H : Type} : List (Lit × DataW H) → Nat
  | [] => 0
  | x :: r => uptoBulkEntry x + uptoBulkEntries r
def uptoBulkEntry {H : Type} : Lit × DataW H → Nat
  | (.string bytes, d) => bytes.length + uptoBulk d + 1
  | (_, d) => uptoBulk d + 1
 end
def uptoSmall : (H : Type) → List (DataW H) → Bool := fun _ ds => decide (uptoBulkAll ds ≤ 1048576)
def OpenSpec.upto (s : _root_.Go.ChangeSpec) : _root_.Go.OpenSpec := { _root_.Go.OpenSpec.ofChange s with cond := some uptoSmall }

/-- 'overfalllaw19.LockPlays', WHERE WHAT IT READS IS OF BULK AT MOST 1048576: true; the input reads as it did. -/
def lockPlaysUptoRow : OpenClaim := { program := "yteaihgjjplgalaa", sum := "e355a738da1d5e2f43e37717f40d5c9393e2a393ad11eb40140c74be3abb11bd", func := "overfall/overfalllaw19.LockPlays", spec := "lockPlays", inPlace := ["sync/atomic.CompareAndSwapInt64", "sync/atomic.LoadInt64"], apart := false, narrowed := true }
def LockPlaysUptoSaid : Prop := lockPlaysUptoRow.holds Try.pinned (OpenSpec.upto lockPlaysSpec)

/-- 'overfalllaw19.LockBoxes', WHERE WHAT IT READS IS OF BULK AT MOST 1048576: true; the input reads as it did. -/
def lockBoxesUptoRow : OpenClaim := { program := "yteaihgjjplgalaa", sum := "e355a738da1d5e2f43e37717f40d5c9393e2a393ad11eb40140c74be3abb11bd", func := "overfall/overfalllaw19.LockBoxes", spec := "lockBoxes", inPlace := ["sync/atomic.CompareAndSwapInt64", "sync/atomic.LoadInt32", "sync/atomic.StoreInt32"], apart := false, narrowed := true }
def LockBoxesUptoSaid : Prop := lockBoxesUptoRow.holds Try.pinned (OpenSpec.upto lockBoxesSpec)

/-- 'overfalllaw19.LockRounds', WHERE WHAT IT READS IS OF BULK AT MOST 1048576: true; the input reads as it did. -/
def lockRoundsUptoRow : OpenClaim := { program := "yteaihgjjplgalaa", sum := "e355a738da1d5e2f43e37717f40d5c9393e2a393ad11eb40140c74be3abb11bd", func := "overfall/overfalllaw19.LockRounds", spec := "lockRounds", inPlace := ["sync/atomic.CompareAndSwapInt64", "sync/atomic.LoadInt32", "sync/atomic.StoreInt32"], apart := false, narrowed := true }
def LockRoundsUptoSaid : Prop := lockRoundsUptoRow.holds Try.pinned (OpenSpec.upto lockRoundsSpec)

/-- 'overfalllaw24.SteadyBursts', WHERE WHAT IT READS IS OF BULK AT MOST 1048576: true; the input reads as it did. -/
def steadyBurstsUptoRow : OpenClaim := { program := "yteaihgjjplgalaa", sum := "e355a738da1d5e2f43e37717f40d5c9393e2a393ad11eb40140c74be3abb11bd", func := "overfall/overfalllaw24.SteadyBursts", spec := "steadyBursts", unfollowed := true, recurses := true, apart := false, narrowed := true }
def SteadyBurstsUptoSaid : Prop := steadyBurstsUptoRow.holds Try.pinned (OpenSpec.upto steadyBurstsSpec)

/-- 'overfalllaw24.SteadyLater', WHERE WHAT IT READS IS OF BULK AT MOST 1048576: true; the input reads as it did. -/
def steadyLaterUptoRow : OpenClaim := { program := "yteaihgjjplgalaa", sum := "e355a738da1d5e2f43e37717f40d5c9393e2a393ad11eb40140c74be3abb11bd", func := "overfall/overfalllaw24.SteadyLater", spec := "steadyLater", unfollowed := true, recurses := true, apart := false, narrowed := true }
def SteadyLaterUptoSaid : Prop := steadyLaterUptoRow.holds Try.pinned (OpenSpec.upto steadyLaterSpec)

/-- 'overfalllaw19.LockNil', WHERE WHAT IT READS IS OF BULK AT MOST 1048576: true; the input reads as it did. -/
def lockNilUptoRow : OpenClaim := { program := "yteaihgjjplgalaa", sum := "e355a738da1d5e2f43e37717f40d5c9393e2a393ad11eb40140c74be3abb11bd", func := "overfall/overfalllaw19.LockNil", spec := "lockNil", inPlace := ["sync/atomic.CompareAndSwapInt64", "sync/atomic.LoadInt64", "sync/atomic.LoadInt32", "sync/atomic.StoreInt32"], apart := false, narrowed := true }
def LockNilUptoSaid : Prop := lockNilUptoRow.holds Try.pinned (OpenSpec.upto lockNilSpec)

/-- 'overfalllaw23.PaceTells', WHERE WHAT IT READS IS OF BULK AT MOST 1048576: true; the input reads as it did. -/
def paceTellsUptoRow : OpenClaim := { program := "yteaihgjjplgalaa", sum := "e355a738da1d5e2f43e37717f40d5c9393e2a393ad11eb40140c74be3abb11bd", func := "overfall/overfalllaw23.PaceTells", spec := "paceTells", inPlace := ["math/bits.Add64"], apart := false, narrowed := true }
def PaceTellsUptoSaid : Prop := paceTellsUptoRow.holds Try.pinned (OpenSpec.upto paceTellsSpec)

/-- 'overfalllaw24.SteadyTells', WHERE WHAT IT READS IS OF BULK AT MOST 1048576: true; the input reads as it did. -/
def steadyTellsUptoRow : OpenClaim := { program := "yteaihgjjplgalaa", sum := "e355a738da1d5e2f43e37717f40d5c9393e2a393ad11eb40140c74be3abb11bd", func := "overfall/overfalllaw24.SteadyTells", spec := "steadyTells", inPlace := ["math/bits.Add64"], unfollowed := true, recurses := true, apart := false, narrowed := true }
def SteadyTellsUptoSaid : Prop := steadyTellsUptoRow.holds Try.pinned (OpenSpec.upto steadyTellsSpec)

end Rows
end Go.Proofs.Yteaihgjjplgalaa
