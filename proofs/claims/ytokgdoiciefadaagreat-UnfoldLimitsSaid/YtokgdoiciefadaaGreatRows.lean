/-
  No cell of these rows narrows 'for every input' (looked for: loops, veiled, ifaces, maps, wideKeys, modest, calm, conditions, laid).
  DERIVED. THE GIVEN ROWS OF THIS SEAT. 7 by the template 'for every input the law returns true; each argument reads behind the call as it read before'; 0 by the template 'total and deterministic' (their statements: YtokgdoiciefadaaGreatTotals.lean).
  GIVEN WITH THE SEED: the statements are not yours to turn. If you find one false, say at which input.
  Laid BY PROGRAM, IN A SANDBOX (cutbox-rows.mjs): the forced cells as the released guide's own fill.sh prints them over the translation 5abc6851c46e7970… (all of the seat's roots in one cut). By AI agents, Wed Nov 11 2026. No macro, syntax, notation, axiom, sorry.
-/
import Derived.Test.YtokgdoiciefadaaGreatChecked
import GoSem.Claim
import GoSem.ClaimJoined
import GoSem.ClaimMapViews
import Derived.JoinedTies
import Derived.KernelRfl
namespace Go.Proofs.YtokgdoiciefadaaGreat
/- THE CELL 'sum', in the pinned program and in every row, IS THE sha256 OF THE DUMP (.gsa) THAT YtokgdoiciefadaaGreatProg.lean LOADS. Nothing in Lean hashes anything: it is a label: what it is worth is what the hold of that sum in a sandbox is worth. -/
noncomputable def Tryz.pinned : Pinned := { name := "ytokgdoiciefadaagreat", sum := "5abc6851c46e7970910dbcefbb2f0f177221a7032e88971c4cc7b3211490ec4a", checked := Tryz.checked }
namespace Rows
def none {H : Type} : Left H := { results := [], args := [] }

/-- 'exactppllaw14.UnfoldStraight': WHATEVER THE INPUT: true; the input reads as it did. -/
def unfoldStraightSpec : ChangeSpec := { name := "unfoldStraight", fn := fun _ => fun
  | [d1, d2, d3] => { results := [.lit (.bool true)], args := [d1, d2, d3] }
  | _ => none }
def unfoldStraightRow : OpenClaim := { program := "ytokgdoiciefadaagreat", sum := "5abc6851c46e7970910dbcefbb2f0f177221a7032e88971c4cc7b3211490ec4a", func := "exactppl/exactppllaw14.UnfoldStraight", spec := "unfoldStraight", unfollowed := true, recurses := true, named := ["math/bits.overflowError"], plainKeys := false, apart := false }
def UnfoldStraightSaid : Prop := unfoldStraightRow.holds Tryz.pinned (OpenSpec.ofChange unfoldStraightSpec)

/-- ITS FALSE NEIGHBOUR: 'it returns false'. Refute it at one input. -/
def unfoldStraightWrong : ChangeSpec := { name := "unfoldStraight", fn := fun _ => fun
  | [d1, d2, d3] => { results := [.lit (.bool false)], args := [d1, d2, d3] }
  | _ => none }
def UnfoldStraightWrongFalsely : Prop := unfoldStraightRow.holds Tryz.pinned (OpenSpec.ofChange unfoldStraightWrong)

/-- 'exactppllaw14.UnfoldLimits': WHATEVER THE INPUT: true; the input reads as it did. -/
def unfoldLimitsSpec : ChangeSpec := { name := "unfoldLimits", fn := fun _ => fun
  | [d] => { results := [.lit (.bool true)], args := [d] }
  | _ => none }
def unfoldLimitsRow : OpenClaim := { program := "ytokgdoiciefadaagreat", sum := "5abc6851c46e7970910dbcefbb2f0f177221a7032e88971c4cc7b3211490ec4a", func := "exactppl/exactppllaw14.UnfoldLimits", spec := "unfoldLimits", unfollowed := true, recurses := true, named := ["math/bits.overflowError"], plainKeys := false, apart := false }
def UnfoldLimitsSaid : Prop := unfoldLimitsRow.holds Tryz.pinned (OpenSpec.ofChange unfoldLimitsSpec)

/-- ITS FALSE NEIGHBOUR: 'it returns false'. Refute it at one input. -/
def unfoldLimitsWrong : ChangeSpec := { name := "unfoldLimits", fn := fun _ => fun
  | [d] => { results := [.lit (.bool false)], args := [d] }
  | _ => none }
def UnfoldLimitsWrongFalsely : Prop := unfoldLimitsRow.holds Tryz.pinned (OpenSpec.ofChange unfoldLimitsWrong)

/-- 'exactppllaw14.UnfoldBuilt': WHATEVER THE INPUT: true; the input reads as it did. -/
def unfoldBuiltSpec : ChangeSpec := { name := "unfoldBuilt", fn := fun _ => fun
  | [d1, d2, d3] => { results := [.lit (.bool true)], args := [d1, d2, d3] }
  | _ => none }
def unfoldBuiltRow : OpenClaim := { program := "ytokgdoiciefadaagreat", sum := "5abc6851c46e7970910dbcefbb2f0f177221a7032e88971c4cc7b3211490ec4a", func := "exactppl/exactppllaw14.UnfoldBuilt", spec := "unfoldBuilt", unfollowed := true, recurses := true, named := ["math/bits.overflowError"], plainKeys := false, apart := false }
def UnfoldBuiltSaid : Prop := unfoldBuiltRow.holds Tryz.pinned (OpenSpec.ofChange unfoldBuiltSpec)

/-- ITS FALSE NEIGHBOUR: 'it returns false'. Refute it at one input. -/
def unfoldBuiltWrong : ChangeSpec := { name := "unfoldBuilt", fn := fun _ => fun
  | [d1, d2, d3] => { results := [.lit (.bool false)], args := [d1, d2, d3] }
  | _ => none }
def UnfoldBuiltWrongFalsely : Prop := unfoldBuiltRow.holds Tryz.pinned (OpenSpec.ofChange unfoldBuiltWrong)

/-- 'exactppllaw14.UnfoldNothing': WHATEVER THE INPUT: true; the input reads as it did. -/
def unfoldNothingSpec : ChangeSpec := { name := "unfoldNothing", fn := fun _ => fun
  | [d1, d2, d3] => { results := [.lit (.bool true)], args := [d1, d2, d3] }
  | _ => none }
def unfoldNothingRow : OpenClaim := { program := "ytokgdoiciefadaagreat", sum := "5abc6851c46e7970910dbcefbb2f0f177221a7032e88971c4cc7b3211490ec4a", func := "exactppl/exactppllaw14.UnfoldNothing", spec := "unfoldNothing", unfollowed := true, recurses := true, named := ["math/bits.overflowError"], plainKeys := false, apart := false }
def UnfoldNothingSaid : Prop := unfoldNothingRow.holds Tryz.pinned (OpenSpec.ofChange unfoldNothingSpec)

/-- ITS FALSE NEIGHBOUR: 'it returns false'. Refute it at one input. -/
def unfoldNothingWrong : ChangeSpec := { name := "unfoldNothing", fn := fun _ => fun
  | [d1, d2, d3] => { results := [.lit (.bool false)], args := [d1, d2, d3] }
  | _ => none }
def UnfoldNothingWrongFalsely : Prop := unfoldNothingRow.holds Tryz.pinned (OpenSpec.ofChange unfoldNothingWrong)

/-- 'exactppllaw14.UnfoldLoop': WHATEVER THE INPUT: true; the input reads as it did. -/
def unfoldLoopSpec : ChangeSpec := { name := "unfoldLoop", fn := fun _ => fun
  | [d1, d2] => { results := [.lit (.bool true)], args := [d1, d2] }
  | _ => none }
def unfoldLoopRow : OpenClaim := { program := "ytokgdoiciefadaagreat", sum := "5abc6851c46e7970910dbcefbb2f0f177221a7032e88971c4cc7b3211490ec4a", func := "exactppl/exactppllaw14.UnfoldLoop", spec := "unfoldLoop", unfollowed := true, recurses := true, named := ["math/bits.overflowError"], plainKeys := false, apart := false }
def UnfoldLoopSaid : Prop := unfoldLoopRow.holds Tryz.pinned (OpenSpec.ofChange unfoldLoopSpec)

/-- ITS FALSE NEIGHBOUR: 'it returns false'. Refute it at one input. -/
def unfoldLoopWrong : ChangeSpec := { name := "unfoldLoop", fn := fun _ => fun
  | [d1, d2] => { results := [.lit (.bool false)], args := [d1, d2] }
  | _ => none }
def UnfoldLoopWrongFalsely : Prop := unfoldLoopRow.holds Tryz.pinned (OpenSpec.ofChange unfoldLoopWrong)

/-- 'exactppllaw14.UnfoldDepth': WHATEVER THE INPUT: true; the input reads as it did. -/
def unfoldDepthSpec : ChangeSpec := { name := "unfoldDepth", fn := fun _ => fun
  | [d1, d2] => { results := [.lit (.bool true)], args := [d1, d2] }
  | _ => none }
def unfoldDepthRow : OpenClaim := { program := "ytokgdoiciefadaagreat", sum := "5abc6851c46e7970910dbcefbb2f0f177221a7032e88971c4cc7b3211490ec4a", func := "exactppl/exactppllaw14.UnfoldDepth", spec := "unfoldDepth", unfollowed := true, recurses := true, named := ["math/bits.overflowError"], plainKeys := false, apart := false }
def UnfoldDepthSaid : Prop := unfoldDepthRow.holds Tryz.pinned (OpenSpec.ofChange unfoldDepthSpec)

/-- ITS FALSE NEIGHBOUR: 'it returns false'. Refute it at one input. -/
def unfoldDepthWrong : ChangeSpec := { name := "unfoldDepth", fn := fun _ => fun
  | [d1, d2] => { results := [.lit (.bool false)], args := [d1, d2] }
  | _ => none }
def UnfoldDepthWrongFalsely : Prop := unfoldDepthRow.holds Tryz.pinned (OpenSpec.ofChange unfoldDepthWrong)

/-- 'exactppllaw14.UnfoldFrames': WHATEVER THE INPUT: true; the input reads as it did. -/
def unfoldFramesSpec : ChangeSpec := { name := "unfoldFrames", fn := fun _ => fun
  | [d1, d2] => { results := [.lit (.bool true)], args := [d1, d2] }
  | _ => none }
def unfoldFramesRow : OpenClaim := { program := "ytokgdoiciefadaagreat", sum := "5abc6851c46e7970910dbcefbb2f0f177221a7032e88971c4cc7b3211490ec4a", func := "exactppl/exactppllaw14.UnfoldFrames", spec := "unfoldFrames", unfollowed := true, recurses := true, named := ["math/bits.overflowError"], plainKeys := false, apart := false }
def UnfoldFramesSaid : Prop := unfoldFramesRow.holds Tryz.pinned (OpenSpec.ofChange unfoldFramesSpec)

/-- ITS FALSE NEIGHBOUR: 'it returns false'. Refute it at one input. -/
def unfoldFramesWrong : ChangeSpec := { name := "unfoldFrames", fn := fun _ => fun
  | [d1, d2] => { results := [.lit (.bool false)], args := [d1, d2] }
  | _ => none }
def UnfoldFramesWrongFalsely : Prop := unfoldFramesRow.holds Tryz.pinned (OpenSpec.ofChange unfoldFramesWrong)

/- THE SECOND FORM. 'bulk': how many values and letters a reading holds, each counted each time it is reached (what is shared counts as often as it is met; a slice's spare places count too). A statement '..UptoSaid' is the law's where the arguments, and the package variables that the reading takes, are together of bulk at most 1048576: NARROWER than '..Said'. Prove '..Said' where nothing that the law and all that it calls make is longer than what came in: it says more and counts as full. Else prove '..UptoSaid'. A law counts once. -/
mutual
def uptoBulk {H : Type} : DataW H → Nat
  | .lit (.string bytes) => bytes.length + 1
  | .lit _ => 1
  | .nil => 1
  | .ptr d => uptoBulk d + 1
  | .slice elems spare => uptoBulkAll elems + uptoBulkAll spare + 1
  | .agg parts => uptoBulkAll parts + 1
  | .iface _ d => uptoBulk d + 1
  | .map entries => uptoBulkEntries entries + 1
  | .held _ => 1
def uptoBulkAll {H : Type} : List (DataW H) → Nat
  | [] => 0
  | d :: r => uptoBulk d + uptoBulkAll r
def uptoBulkEntries {H : Type} : List (Lit × DataW H) → Nat
  | [] => 0
  | x :: r => uptoBulkEntry x + uptoBulkEntries r
def uptoBulkEntry {H : Type} : Lit × DataW H → Nat
  | (.string bytes, d) => bytes.length + uptoBulk d + 1
  | (_, d) => uptoBulk d + 1
 end
def uptoSmall : (H : Type) → List (DataW H) → Bool := fun _ ds => decide (uptoBulkAll ds ≤ 1048576)
def OpenSpec.upto (s : _root_.Go.ChangeSpec) : _root_.Go.OpenSpec := { _root_.Go.OpenSpec.ofChange s with cond := some uptoSmall }

/-- 'exactppllaw14.UnfoldStraight', WHERE WHAT IT READS IS OF BULK AT MOST 1048576: true; the input reads as it did. -/
def unfoldStraightUptoRow : OpenClaim := { program := "ytokgdoiciefadaagreat", sum := "5abc6851c46e7970910dbcefbb2f0f177221a7032e88971c4cc7b3211490ec4a", func := "exactppl/exactppllaw14.UnfoldStraight", spec := "unfoldStraight", unfollowed := true, recurses := true, named := ["math/bits.overflowError"], plainKeys := false, apart := false, narrowed := true }
def UnfoldStraightUptoSaid : Prop := unfoldStraightUptoRow.holds Tryz.pinned (OpenSpec.upto unfoldStraightSpec)

/-- 'exactppllaw14.UnfoldLimits', WHERE WHAT IT READS IS OF BULK AT MOST 1048576: true; the input reads as it did. -/
def unfoldLimitsUptoRow : OpenClaim := { program := "ytokgdoiciefadaagreat", sum := "5abc6851c46e7970910dbcefbb2f0f177221a7032e88971c4cc7b3211490ec4a", func := "exactppl/exactppllaw14.UnfoldLimits", spec := "unfoldLimits", unfollowed := true, recurses := true, named := ["math/bits.overflowError"], plainKeys := false, apart := false, narrowed := true }
def UnfoldLimitsUptoSaid : Prop := unfoldLimitsUptoRow.holds Tryz.pinned (OpenSpec.upto unfoldLimitsSpec)

/-- 'exactppllaw14.UnfoldBuilt', WHERE WHAT IT READS IS OF BULK AT MOST 1048576: true; the input reads as it did. -/
def unfoldBuiltUptoRow : OpenClaim := { program := "ytokgdoiciefadaagreat", sum := "5abc6851c46e7970910dbcefbb2f0f177221a7032e88971c4cc7b3211490ec4a", func := "exactppl/exactppllaw14.UnfoldBuilt", spec := "unfoldBuilt", unfollowed := true, recurses := true, named := ["math/bits.overflowError"], plainKeys := false, apart := false, narrowed := true }
def UnfoldBuiltUptoSaid : Prop := unfoldBuiltUptoRow.holds Tryz.pinned (OpenSpec.upto unfoldBuiltSpec)

/-- 'exactppllaw14.UnfoldNothing', WHERE WHAT IT READS IS OF BULK AT MOST 1048576: true; the input reads as it did. -/
def unfoldNothingUptoRow : OpenClaim := { program := "ytokgdoiciefadaagreat", sum := "5abc6851c46e7970910dbcefbb2f0f177221a7032e88971c4cc7b3211490ec4a", func := "exactppl/exactppllaw14.UnfoldNothing", spec := "unfoldNothing", unfollowed := true, recurses := true, named := ["math/bits.overflowError"], plainKeys := false, apart := false, narrowed := true }
def UnfoldNothingUptoSaid : Prop := unfoldNothingUptoRow.holds Tryz.pinned (OpenSpec.upto unfoldNothingSpec)

/-- 'exactppllaw14.UnfoldLoop', WHERE WHAT IT READS IS OF BULK AT MOST 1048576: true; the input reads as it did. -/
def unfoldLoopUptoRow : OpenClaim := { program := "ytokgdoiciefadaagreat", sum := "5abc6851c46e7970910dbcefbb2f0f177221a7032e88971c4cc7b3211490ec4a", func := "exactppl/exactppllaw14.UnfoldLoop", spec := "unfoldLoop", unfollowed := true, recurses := true, named := ["math/bits.overflowError"], plainKeys := false, apart := false, narrowed := true }
def UnfoldLoopUptoSaid : Prop := unfoldLoopUptoRow.holds Tryz.pinned (OpenSpec.upto unfoldLoopSpec)

/-- 'exactppllaw14.UnfoldDepth', WHERE WHAT IT READS IS OF BULK AT MOST 1048576: true; the input reads as it did. -/
def unfoldDepthUptoRow : OpenClaim := { program := "ytokgdoiciefadaagreat", sum := "5abc6851c46e7970910dbcefbb2f0f177221a7032e88971c4cc7b3211490ec4a", func := "exactppl/exactppllaw14.UnfoldDepth", spec := "unfoldDepth", unfollowed := true, recurses := true, named := ["math/bits.overflowError"], plainKeys := false, apart := false, narrowed := true }
def UnfoldDepthUptoSaid : Prop := unfoldDepthUptoRow.holds Tryz.pinned (OpenSpec.upto unfoldDepthSpec)

/-- 'exactppllaw14.UnfoldFrames', WHERE WHAT IT READS IS OF BULK AT MOST 1048576: true; the input reads as it did. -/
def unfoldFramesUptoRow : OpenClaim := { program := "ytokgdoiciefadaagreat", sum := "5abc6851c46e7970910dbcefbb2f0f177221a7032e88971c4cc7b3211490ec4a", func := "exactppl/exactppllaw14.UnfoldFrames", spec := "unfoldFrames", unfollowed := true, recurses := true, named := ["math/bits.overflowError"], plainKeys := false, apart := false, narrowed := true }
def UnfoldFramesUptoSaid : Prop := unfoldFramesUptoRow.holds Tryz.pinned (OpenSpec.upto unfoldFramesSpec)

end Rows
end Go.Proofs.YtokgdoiciefadaaGreat
