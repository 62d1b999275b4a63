/-
  No cell of these rows narrows 'for every input' (looked for: loops, veiled, ifaces, maps, wideKeys, modest, calm, conditions, laid).
  DERIVED. THE GIVEN ROWS OF THIS SEAT. 8 by the template 'for every input the law returns true; each argument reads behind the call as it read before'; 0 by the template 'total and deterministic' (their statements: YtboekhenldifhaaGreatTotals.lean).
  GIVEN WITH THE SEED: the statements are not yours to turn. If you find one false, say at which input.
  Laid BY PROGRAM, IN A SANDBOX (cutbox-rows.mjs): the forced cells as the released guide's own fill.sh prints them over the translation 8a923c25d83a728e… (all of the seat's roots in one cut). By AI agents, Wed Nov 11 2026. No macro, syntax, notation, axiom, sorry.
-/
import Derived.Test.YtboekhenldifhaaGreatChecked
import GoSem.Claim
import GoSem.ClaimJoined
import GoSem.ClaimMapViews
import Derived.JoinedTies
import Derived.KernelRfl
namespace Go.Proofs.YtboekhenldifhaaGreat
/- THE CELL 'sum', in the pinned program and in every row, IS THE sha256 OF THE DUMP (.gsa) THAT YtboekhenldifhaaGreatProg.lean LOADS. Nothing in Lean hashes anything: it is a label: what it is worth is what the hold of that sum in a sandbox is worth. -/
noncomputable def Tryz.pinned : Pinned := { name := "ytboekhenldifhaagreat", sum := "8a923c25d83a728eb06c71732c8e2cce01b54c1c273129227c43e6e0604446dc", checked := Tryz.checked }
namespace Rows
def none {H : Type} : Left H := { results := [], args := [] }

/-- 'exactppllaw16.TraceOrder': WHATEVER THE INPUT: true; the input reads as it did. -/
def traceOrderSpec : ChangeSpec := { name := "traceOrder", fn := fun _ => fun
  | [d1, d2] => { results := [.lit (.bool true)], args := [d1, d2] }
  | _ => none }
def traceOrderRow : OpenClaim := { program := "ytboekhenldifhaagreat", sum := "8a923c25d83a728eb06c71732c8e2cce01b54c1c273129227c43e6e0604446dc", func := "exactppl/exactppllaw16.TraceOrder", spec := "traceOrder", unfollowed := true, recurses := true, named := ["math/bits.overflowError"], plainKeys := false, apart := false }
def TraceOrderSaid : Prop := traceOrderRow.holds Tryz.pinned (OpenSpec.ofChange traceOrderSpec)

/-- ITS FALSE NEIGHBOUR: 'it returns false'. Refute it at one input. -/
def traceOrderWrong : ChangeSpec := { name := "traceOrder", fn := fun _ => fun
  | [d1, d2] => { results := [.lit (.bool false)], args := [d1, d2] }
  | _ => none }
def TraceOrderWrongFalsely : Prop := traceOrderRow.holds Tryz.pinned (OpenSpec.ofChange traceOrderWrong)

/-- 'exactppllaw16.TraceLimits': WHATEVER THE INPUT: true; the input reads as it did. -/
def traceLimitsSpec : ChangeSpec := { name := "traceLimits", fn := fun _ => fun
  | [d1, d2] => { results := [.lit (.bool true)], args := [d1, d2] }
  | _ => none }
def traceLimitsRow : OpenClaim := { program := "ytboekhenldifhaagreat", sum := "8a923c25d83a728eb06c71732c8e2cce01b54c1c273129227c43e6e0604446dc", func := "exactppl/exactppllaw16.TraceLimits", spec := "traceLimits", unfollowed := true, recurses := true, named := ["math/bits.overflowError"], plainKeys := false, apart := false }
def TraceLimitsSaid : Prop := traceLimitsRow.holds Tryz.pinned (OpenSpec.ofChange traceLimitsSpec)

/-- ITS FALSE NEIGHBOUR: 'it returns false'. Refute it at one input. -/
def traceLimitsWrong : ChangeSpec := { name := "traceLimits", fn := fun _ => fun
  | [d1, d2] => { results := [.lit (.bool false)], args := [d1, d2] }
  | _ => none }
def TraceLimitsWrongFalsely : Prop := traceLimitsRow.holds Tryz.pinned (OpenSpec.ofChange traceLimitsWrong)

/-- 'exactppllaw16.TraceReplays': WHATEVER THE INPUT: true; the input reads as it did. -/
def traceReplaysSpec : ChangeSpec := { name := "traceReplays", fn := fun _ => fun
  | [d1, d2, d3] => { results := [.lit (.bool true)], args := [d1, d2, d3] }
  | _ => none }
def traceReplaysRow : OpenClaim := { program := "ytboekhenldifhaagreat", sum := "8a923c25d83a728eb06c71732c8e2cce01b54c1c273129227c43e6e0604446dc", func := "exactppl/exactppllaw16.TraceReplays", spec := "traceReplays", unfollowed := true, recurses := true, named := ["math/bits.overflowError"], plainKeys := false, apart := false }
def TraceReplaysSaid : Prop := traceReplaysRow.holds Tryz.pinned (OpenSpec.ofChange traceReplaysSpec)

/-- ITS FALSE NEIGHBOUR: 'it returns false'. Refute it at one input. -/
def traceReplaysWrong : ChangeSpec := { name := "traceReplays", fn := fun _ => fun
  | [d1, d2, d3] => { results := [.lit (.bool false)], args := [d1, d2, d3] }
  | _ => none }
def TraceReplaysWrongFalsely : Prop := traceReplaysRow.holds Tryz.pinned (OpenSpec.ofChange traceReplaysWrong)

/-- 'exactppllaw16.TraceSums': WHATEVER THE INPUT: true; the input reads as it did. -/
def traceSumsSpec : ChangeSpec := { name := "traceSums", fn := fun _ => fun
  | [d1, d2] => { results := [.lit (.bool true)], args := [d1, d2] }
  | _ => none }
def traceSumsRow : OpenClaim := { program := "ytboekhenldifhaagreat", sum := "8a923c25d83a728eb06c71732c8e2cce01b54c1c273129227c43e6e0604446dc", func := "exactppl/exactppllaw16.TraceSums", spec := "traceSums", unfollowed := true, recurses := true, named := ["math/bits.overflowError"], plainKeys := false, apart := false }
def TraceSumsSaid : Prop := traceSumsRow.holds Tryz.pinned (OpenSpec.ofChange traceSumsSpec)

/-- ITS FALSE NEIGHBOUR: 'it returns false'. Refute it at one input. -/
def traceSumsWrong : ChangeSpec := { name := "traceSums", fn := fun _ => fun
  | [d1, d2] => { results := [.lit (.bool false)], args := [d1, d2] }
  | _ => none }
def TraceSumsWrongFalsely : Prop := traceSumsRow.holds Tryz.pinned (OpenSpec.ofChange traceSumsWrong)

/-- 'exactppllaw16.TraceBuilt': WHATEVER THE INPUT: true; the input reads as it did. -/
def traceBuiltSpec : ChangeSpec := { name := "traceBuilt", fn := fun _ => fun
  | [d1, d2, d3] => { results := [.lit (.bool true)], args := [d1, d2, d3] }
  | _ => none }
def traceBuiltRow : OpenClaim := { program := "ytboekhenldifhaagreat", sum := "8a923c25d83a728eb06c71732c8e2cce01b54c1c273129227c43e6e0604446dc", func := "exactppl/exactppllaw16.TraceBuilt", spec := "traceBuilt", unfollowed := true, recurses := true, named := ["math/bits.overflowError"], plainKeys := false, apart := false }
def TraceBuiltSaid : Prop := traceBuiltRow.holds Tryz.pinned (OpenSpec.ofChange traceBuiltSpec)

/-- ITS FALSE NEIGHBOUR: 'it returns false'. Refute it at one input. -/
def traceBuiltWrong : ChangeSpec := { name := "traceBuilt", fn := fun _ => fun
  | [d1, d2, d3] => { results := [.lit (.bool false)], args := [d1, d2, d3] }
  | _ => none }
def TraceBuiltWrongFalsely : Prop := traceBuiltRow.holds Tryz.pinned (OpenSpec.ofChange traceBuiltWrong)

/-- 'exactppllaw16.TraceNatural': WHATEVER THE INPUT: true; the input reads as it did. -/
def traceNaturalSpec : ChangeSpec := { name := "traceNatural", fn := fun _ => fun
  | [d1, d2] => { results := [.lit (.bool true)], args := [d1, d2] }
  | _ => none }
def traceNaturalRow : OpenClaim := { program := "ytboekhenldifhaagreat", sum := "8a923c25d83a728eb06c71732c8e2cce01b54c1c273129227c43e6e0604446dc", func := "exactppl/exactppllaw16.TraceNatural", spec := "traceNatural", unfollowed := true, recurses := true, named := ["math/bits.overflowError"], plainKeys := false, apart := false }
def TraceNaturalSaid : Prop := traceNaturalRow.holds Tryz.pinned (OpenSpec.ofChange traceNaturalSpec)

/-- ITS FALSE NEIGHBOUR: 'it returns false'. Refute it at one input. -/
def traceNaturalWrong : ChangeSpec := { name := "traceNatural", fn := fun _ => fun
  | [d1, d2] => { results := [.lit (.bool false)], args := [d1, d2] }
  | _ => none }
def TraceNaturalWrongFalsely : Prop := traceNaturalRow.holds Tryz.pinned (OpenSpec.ofChange traceNaturalWrong)

/-- 'exactppllaw16.TraceIndependent': WHATEVER THE INPUT: true; the input reads as it did. -/
def traceIndependentSpec : ChangeSpec := { name := "traceIndependent", fn := fun _ => fun
  | [d] => { results := [.lit (.bool true)], args := [d] }
  | _ => none }
def traceIndependentRow : OpenClaim := { program := "ytboekhenldifhaagreat", sum := "8a923c25d83a728eb06c71732c8e2cce01b54c1c273129227c43e6e0604446dc", func := "exactppl/exactppllaw16.TraceIndependent", spec := "traceIndependent", unfollowed := true, recurses := true, named := ["math/bits.overflowError"], plainKeys := false, apart := false }
def TraceIndependentSaid : Prop := traceIndependentRow.holds Tryz.pinned (OpenSpec.ofChange traceIndependentSpec)

/-- ITS FALSE NEIGHBOUR: 'it returns false'. Refute it at one input. -/
def traceIndependentWrong : ChangeSpec := { name := "traceIndependent", fn := fun _ => fun
  | [d] => { results := [.lit (.bool false)], args := [d] }
  | _ => none }
def TraceIndependentWrongFalsely : Prop := traceIndependentRow.holds Tryz.pinned (OpenSpec.ofChange traceIndependentWrong)

/-- 'exactppllaw16.TracePoint': WHATEVER THE INPUT: true; the input reads as it did. -/
def tracePointSpec : ChangeSpec := { name := "tracePoint", fn := fun _ => fun
  | [d1, d2] => { results := [.lit (.bool true)], args := [d1, d2] }
  | _ => none }
def tracePointRow : OpenClaim := { program := "ytboekhenldifhaagreat", sum := "8a923c25d83a728eb06c71732c8e2cce01b54c1c273129227c43e6e0604446dc", func := "exactppl/exactppllaw16.TracePoint", spec := "tracePoint", inPlace := ["slices.overlaps[exactppl/api.Row]"], unfollowed := true, recurses := true, named := ["math/bits.overflowError"], plainKeys := false, apart := false }
def TracePointSaid : Prop := tracePointRow.holds Tryz.pinned (OpenSpec.ofChange tracePointSpec)

/-- ITS FALSE NEIGHBOUR: 'it returns false'. Refute it at one input. -/
def tracePointWrong : ChangeSpec := { name := "tracePoint", fn := fun _ => fun
  | [d1, d2] => { results := [.lit (.bool false)], args := [d1, d2] }
  | _ => none }
def TracePointWrongFalsely : Prop := tracePointRow.holds Tryz.pinned (OpenSpec.ofChange tracePointWrong)

/- THE SECOND FORM. 'bulk': how many values and letters a reading holds, each counted each time it is reached (what is shared counts as often as it is met; a slice's spare places count too). A statement '..UptoSaid' is the law's where the arguments, and the package variables that the reading takes, are together of bulk at most 1048576: NARROWER than '..Said'. Prove '..Said' where nothing that the law and all that it calls make is longer than what came in: it says more and counts as full. Else prove '..UptoSaid'. A law counts once. -/
mutual
def uptoBulk {H : Type} : DataW H → Nat
  | .lit (.string bytes) => bytes.length + 1
  | .lit _ => 1
  | .nil => 1
  | .ptr d => uptoBulk d + 1
  | .slice elems spare => uptoBulkAll elems + uptoBulkAll spare + 1
  | .agg parts => uptoBulkAll parts + 1
  | .iface _ d => uptoBulk d + 1
  | .map entries => uptoBulkEntries entries + 1
  | .held _ => 1
def uptoBulkAll {H : Type} : List (DataW H) → Nat
  | [] => 0
  | d :: r => uptoBulk d + uptoBulkAll r
def uptoBulkEntries {H : Type} : List (Lit × DataW H) → Nat
  | [] => 0
  | x :: r => uptoBulkEntry x + uptoBulkEntries r
def uptoBulkEntry {H : Type} : Lit × DataW H → Nat
  | (.string bytes, d) => bytes.length + uptoBulk d + 1
  | (_, d) => uptoBulk d + 1
 end
def uptoSmall : (H : Type) → List (DataW H) → Bool := fun _ ds => decide (uptoBulkAll ds ≤ 1048576)
def OpenSpec.upto (s : _root_.Go.ChangeSpec) : _root_.Go.OpenSpec := { _root_.Go.OpenSpec.ofChange s with cond := some uptoSmall }

/-- 'exactppllaw16.TraceOrder', WHERE WHAT IT READS IS OF BULK AT MOST 1048576: true; the input reads as it did. -/
def traceOrderUptoRow : OpenClaim := { program := "ytboekhenldifhaagreat", sum := "8a923c25d83a728eb06c71732c8e2cce01b54c1c273129227c43e6e0604446dc", func := "exactppl/exactppllaw16.TraceOrder", spec := "traceOrder", unfollowed := true, recurses := true, named := ["math/bits.overflowError"], plainKeys := false, apart := false, narrowed := true }
def TraceOrderUptoSaid : Prop := traceOrderUptoRow.holds Tryz.pinned (OpenSpec.upto traceOrderSpec)

/-- 'exactppllaw16.TraceLimits', WHERE WHAT IT READS IS OF BULK AT MOST 1048576: true; the input reads as it did. -/
def traceLimitsUptoRow : OpenClaim := { program := "ytboekhenldifhaagreat", sum := "8a923c25d83a728eb06c71732c8e2cce01b54c1c273129227c43e6e0604446dc", func := "exactppl/exactppllaw16.TraceLimits", spec := "traceLimits", unfollowed := true, recurses := true, named := ["math/bits.overflowError"], plainKeys := false, apart := false, narrowed := true }
def TraceLimitsUptoSaid : Prop := traceLimitsUptoRow.holds Tryz.pinned (OpenSpec.upto traceLimitsSpec)

/-- 'exactppllaw16.TraceReplays', WHERE WHAT IT READS IS OF BULK AT MOST 1048576: true; the input reads as it did. -/
def traceReplaysUptoRow : OpenClaim := { program := "ytboekhenldifhaagreat", sum := "8a923c25d83a728eb06c71732c8e2cce01b54c1c273129227c43e6e0604446dc", func := "exactppl/exactppllaw16.TraceReplays", spec := "traceReplays", unfollowed := true, recurses := true, named := ["math/bits.overflowError"], plainKeys := false, apart := false, narrowed := true }
def TraceReplaysUptoSaid : Prop := traceReplaysUptoRow.holds Tryz.pinned (OpenSpec.upto traceReplaysSpec)

/-- 'exactppllaw16.TraceSums', WHERE WHAT IT READS IS OF BULK AT MOST 1048576: true; the input reads as it did. -/
def traceSumsUptoRow : OpenClaim := { program := "ytboekhenldifhaagreat", sum := "8a923c25d83a728eb06c71732c8e2cce01b54c1c273129227c43e6e0604446dc", func := "exactppl/exactppllaw16.TraceSums", spec := "traceSums", unfollowed := true, recurses := true, named := ["math/bits.overflowError"], plainKeys := false, apart := false, narrowed := true }
def TraceSumsUptoSaid : Prop := traceSumsUptoRow.holds Tryz.pinned (OpenSpec.upto traceSumsSpec)

/-- 'exactppllaw16.TraceBuilt', WHERE WHAT IT READS IS OF BULK AT MOST 1048576: true; the input reads as it did. -/
def traceBuiltUptoRow : OpenClaim := { program := "ytboekhenldifhaagreat", sum := "8a923c25d83a728eb06c71732c8e2cce01b54c1c273129227c43e6e0604446dc", func := "exactppl/exactppllaw16.TraceBuilt", spec := "traceBuilt", unfollowed := true, recurses := true, named := ["math/bits.overflowError"], plainKeys := false, apart := false, narrowed := true }
def TraceBuiltUptoSaid : Prop := traceBuiltUptoRow.holds Tryz.pinned (OpenSpec.upto traceBuiltSpec)

/-- 'exactppllaw16.TraceNatural', WHERE WHAT IT READS IS OF BULK AT MOST 1048576: true; the input reads as it did. -/
def traceNaturalUptoRow : OpenClaim := { program := "ytboekhenldifhaagreat", sum := "8a923c25d83a728eb06c71732c8e2cce01b54c1c273129227c43e6e0604446dc", func := "exactppl/exactppllaw16.TraceNatural", spec := "traceNatural", unfollowed := true, recurses := true, named := ["math/bits.overflowError"], plainKeys := false, apart := false, narrowed := true }
def TraceNaturalUptoSaid : Prop := traceNaturalUptoRow.holds Tryz.pinned (OpenSpec.upto traceNaturalSpec)

/-- 'exactppllaw16.TraceIndependent', WHERE WHAT IT READS IS OF BULK AT MOST 1048576: true; the input reads as it did. -/
def traceIndependentUptoRow : OpenClaim := { program := "ytboekhenldifhaagreat", sum := "8a923c25d83a728eb06c71732c8e2cce01b54c1c273129227c43e6e0604446dc", func := "exactppl/exactppllaw16.TraceIndependent", spec := "traceIndependent", unfollowed := true, recurses := true, named := ["math/bits.overflowError"], plainKeys := false, apart := false, narrowed := true }
def TraceIndependentUptoSaid : Prop := traceIndependentUptoRow.holds Tryz.pinned (OpenSpec.upto traceIndependentSpec)

/-- 'exactppllaw16.TracePoint', WHERE WHAT IT READS IS OF BULK AT MOST 1048576: true; the input reads as it did. -/
def tracePointUptoRow : OpenClaim := { program := "ytboekhenldifhaagreat", sum := "8a923c25d83a728eb06c71732c8e2cce01b54c1c273129227c43e6e0604446dc", func := "exactppl/exactppllaw16.TracePoint", spec := "tracePoint", inPlace := ["slices.overlaps[exactppl/api.Row]"], unfollowed := true, recurses := true, named := ["math/bits.overflowError"], plainKeys := false, apart := false, narrowed := true }
def TracePointUptoSaid : Prop := tracePointUptoRow.holds Tryz.pinned (OpenSpec.upto tracePointSpec)

end Rows
end Go.Proofs.YtboekhenldifhaaGreat
