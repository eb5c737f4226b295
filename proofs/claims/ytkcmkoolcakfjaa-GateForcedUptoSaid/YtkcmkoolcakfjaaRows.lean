/-
  NARROWER THAN 'FOR EVERY INPUT', by the rows' own cells (each row's printed sentence says how): GateMakes: loops · GateAll: loops · GateParts: loops · GateFits: loops · GateMeans: loops · GateRuns: loops · GateForced: loops.
  DERIVED. THE GIVEN ROWS OF THIS SEAT. 7 by the template 'for every input the law returns true; each argument reads behind the call as it read before'; 0 by the template 'total and deterministic' (their statements: YtkcmkoolcakfjaaTotals.lean).
  GIVEN WITH THE SEED: the statements are not yours to turn. If you find one false, say at which input.
  Laid BY PROGRAM, IN A SANDBOX (cutbox-rows.mjs): the forced cells as the released guide's own fill.sh prints them over the translation 2cc8d6b056a725b1… (all of the seat's roots in one cut). By AI agents, Wed Nov 11 2026. No macro, syntax, notation, axiom, sorry.
-/
import Derived.Test.YtkcmkoolcakfjaaChecked
import GoSem.Claim
import GoSem.ClaimJoined
import GoSem.ClaimMapViews
import Derived.JoinedTies
import Derived.KernelRfl
namespace Go.Proofs.Ytkcmkoolcakfjaa
/- THE CELL 'sum', in the pinned program and in every row, IS THE sha256 OF THE DUMP (.gsa) THAT YtkcmkoolcakfjaaProg.lean LOADS. Nothing in Lean hashes anything: it is a label: what it is worth is what the hold of that sum in a sandbox is worth. -/
noncomputable def Try.pinned : Pinned := { name := "ytkcmkoolcakfjaa", sum := "2cc8d6b056a725b1177f120efc946039cbfe75280f11c678d84e3e154630e043", checked := Try.checked }
namespace Rows
def none {H : Type} : Left H := { results := [], args := [] }

/-- 'chalklinelaw13.GateMakes': WHATEVER THE INPUT: true; the input reads as it did. -/
def gateMakesSpec : ChangeSpec := { name := "gateMakes", fn := fun _ => fun
  | [d1, d2] => { results := [.lit (.bool true)], args := [d1, d2] }
  | _ => none }
def gateMakesRow : OpenClaim := { program := "ytkcmkoolcakfjaa", sum := "2cc8d6b056a725b1177f120efc946039cbfe75280f11c678d84e3e154630e043", func := "chalkline/chalklinelaw13.GateMakes", spec := "gateMakes", unfollowed := true, recurses := true, loops := true, apart := false }
def GateMakesSaid : Prop := gateMakesRow.holds Try.pinned (OpenSpec.ofChange gateMakesSpec)

/-- ITS FALSE NEIGHBOUR: 'it returns false'. Refute it at one input. -/
def gateMakesWrong : ChangeSpec := { name := "gateMakes", fn := fun _ => fun
  | [d1, d2] => { results := [.lit (.bool false)], args := [d1, d2] }
  | _ => none }
def GateMakesWrongFalsely : Prop := gateMakesRow.holds Try.pinned (OpenSpec.ofChange gateMakesWrong)

/-- 'chalklinelaw13.GateAll': WHATEVER THE INPUT: true; the input reads as it did. -/
def gateAllSpec : ChangeSpec := { name := "gateAll", fn := fun _ => fun
  | [d1, d2] => { results := [.lit (.bool true)], args := [d1, d2] }
  | _ => none }
def gateAllRow : OpenClaim := { program := "ytkcmkoolcakfjaa", sum := "2cc8d6b056a725b1177f120efc946039cbfe75280f11c678d84e3e154630e043", func := "chalkline/chalklinelaw13.GateAll", spec := "gateAll", unfollowed := true, recurses := true, loops := true, apart := false }
def GateAllSaid : Prop := gateAllRow.holds Try.pinned (OpenSpec.ofChange gateAllSpec)

/-- ITS FALSE NEIGHBOUR: 'it returns false'. Refute it at one input. -/
def gateAllWrong : ChangeSpec := { name := "gateAll", fn := fun _ => fun
  | [d1, d2] => { results := [.lit (.bool false)], args := [d1, d2] }
  | _ => none }
def GateAllWrongFalsely : Prop := gateAllRow.holds Try.pinned (OpenSpec.ofChange gateAllWrong)

/-- 'chalklinelaw13.GateParts': WHATEVER THE INPUT: true; the input reads as it did. -/
def gatePartsSpec : ChangeSpec := { name := "gateParts", fn := fun _ => fun
  | [d1, d2, d3] => { results := [.lit (.bool true)], args := [d1, d2, d3] }
  | _ => none }
def gatePartsRow : OpenClaim := { program := "ytkcmkoolcakfjaa", sum := "2cc8d6b056a725b1177f120efc946039cbfe75280f11c678d84e3e154630e043", func := "chalkline/chalklinelaw13.GateParts", spec := "gateParts", unfollowed := true, recurses := true, loops := true, apart := false }
def GatePartsSaid : Prop := gatePartsRow.holds Try.pinned (OpenSpec.ofChange gatePartsSpec)

/-- ITS FALSE NEIGHBOUR: 'it returns false'. Refute it at one input. -/
def gatePartsWrong : ChangeSpec := { name := "gateParts", fn := fun _ => fun
  | [d1, d2, d3] => { results := [.lit (.bool false)], args := [d1, d2, d3] }
  | _ => none }
def GatePartsWrongFalsely : Prop := gatePartsRow.holds Try.pinned (OpenSpec.ofChange gatePartsWrong)

/-- 'chalklinelaw13.GateFits': WHATEVER THE INPUT: true; the input reads as it did. -/
def gateFitsSpec : ChangeSpec := { name := "gateFits", fn := fun _ => fun
  | [d1, d2] => { results := [.lit (.bool true)], args := [d1, d2] }
  | _ => none }
def gateFitsRow : OpenClaim := { program := "ytkcmkoolcakfjaa", sum := "2cc8d6b056a725b1177f120efc946039cbfe75280f11c678d84e3e154630e043", func := "chalkline/chalklinelaw13.GateFits", spec := "gateFits", unfollowed := true, recurses := true, loops := true, apart := false }
def GateFitsSaid : Prop := gateFitsRow.holds Try.pinned (OpenSpec.ofChange gateFitsSpec)

/-- ITS FALSE NEIGHBOUR: 'it returns false'. Refute it at one input. -/
def gateFitsWrong : ChangeSpec := { name := "gateFits", fn := fun _ => fun
  | [d1, d2] => { results := [.lit (.bool false)], args := [d1, d2] }
  | _ => none }
def GateFitsWrongFalsely : Prop := gateFitsRow.holds Try.pinned (OpenSpec.ofChange gateFitsWrong)

/-- 'chalklinelaw13.GateMeans': WHATEVER THE INPUT: true; the input reads as it did. -/
def gateMeansSpec : ChangeSpec := { name := "gateMeans", fn := fun _ => fun
  | [d1, d2] => { results := [.lit (.bool true)], args := [d1, d2] }
  | _ => none }
def gateMeansRow : OpenClaim := { program := "ytkcmkoolcakfjaa", sum := "2cc8d6b056a725b1177f120efc946039cbfe75280f11c678d84e3e154630e043", func := "chalkline/chalklinelaw13.GateMeans", spec := "gateMeans", unfollowed := true, recurses := true, loops := true, apart := false }
def GateMeansSaid : Prop := gateMeansRow.holds Try.pinned (OpenSpec.ofChange gateMeansSpec)

/-- ITS FALSE NEIGHBOUR: 'it returns false'. Refute it at one input. -/
def gateMeansWrong : ChangeSpec := { name := "gateMeans", fn := fun _ => fun
  | [d1, d2] => { results := [.lit (.bool false)], args := [d1, d2] }
  | _ => none }
def GateMeansWrongFalsely : Prop := gateMeansRow.holds Try.pinned (OpenSpec.ofChange gateMeansWrong)

/-- 'chalklinelaw13.GateRuns': WHATEVER THE INPUT: true; the input reads as it did. -/
def gateRunsSpec : ChangeSpec := { name := "gateRuns", fn := fun _ => fun
  | [d1, d2, d3] => { results := [.lit (.bool true)], args := [d1, d2, d3] }
  | _ => none }
def gateRunsRow : OpenClaim := { program := "ytkcmkoolcakfjaa", sum := "2cc8d6b056a725b1177f120efc946039cbfe75280f11c678d84e3e154630e043", func := "chalkline/chalklinelaw13.GateRuns", spec := "gateRuns", unfollowed := true, recurses := true, loops := true, apart := false }
def GateRunsSaid : Prop := gateRunsRow.holds Try.pinned (OpenSpec.ofChange gateRunsSpec)

/-- ITS FALSE NEIGHBOUR: 'it returns false'. Refute it at one input. -/
def gateRunsWrong : ChangeSpec := { name := "gateRuns", fn := fun _ => fun
  | [d1, d2, d3] => { results := [.lit (.bool false)], args := [d1, d2, d3] }
  | _ => none }
def GateRunsWrongFalsely : Prop := gateRunsRow.holds Try.pinned (OpenSpec.ofChange gateRunsWrong)

/-- 'chalklinelaw13.GateForced': WHATEVER THE INPUT: true; the input reads as it did. -/
def gateForcedSpec : ChangeSpec := { name := "gateForced", fn := fun _ => fun
  | [d1, d2] => { results := [.lit (.bool true)], args := [d1, d2] }
  | _ => none }
def gateForcedRow : OpenClaim := { program := "ytkcmkoolcakfjaa", sum := "2cc8d6b056a725b1177f120efc946039cbfe75280f11c678d84e3e154630e043", func := "chalkline/chalklinelaw13.GateForced", spec := "gateForced", unfollowed := true, recurses := true, loops := true, apart := false }
def GateForcedSaid : Prop := gateForcedRow.holds Try.pinned (OpenSpec.ofChange gateForcedSpec)

/-- ITS FALSE NEIGHBOUR: 'it returns false'. Refute it at one input. -/
def gateForcedWrong : ChangeSpec := { name := "gateForced", fn := fun _ => fun
  | [d1, d2] => { results := [.lit (.bool false)], args := [d1, d2] }
  | _ => none }
def GateForcedWrongFalsely : Prop := gateForcedRow.holds Try.pinned (OpenSpec.ofChange gateForcedWrong)

/- THE SECOND FORM. 'bulk': how many values and letters a reading holds, each counted each time it is reached (what is shared counts as often as it is met; a slice's spare places count too). A statement '..UptoSaid' is the law's where the arguments, and the package variables that the reading takes, are together of bulk at most 1048576: NARROWER than '..Said'. Prove '..Said' where nothing that the law and all that it calls make is longer than what came in: it says more and counts as full. Else prove '..UptoSaid'. A law counts once. -/
mutual
def uptoBulk {H : Type} : DataW H → Nat
  | .lit (.string bytes) => bytes.length + 1
  | .lit _ => 1
  | .nil => 1
  | .ptr d => uptoBulk d + 1
  | .slice elems spare => uptoBulkAll elems + uptoBulkAll spare + 1
  | .agg parts => uptoBulkAll parts + 1
  | .iface _ d => uptoBulk d + 1
  | .map entries => uptoBulkEntries entries + 1
  | .held _ => 1
def uptoBulkAll {H : Type} : List (DataW H) → Nat
  | [] => 0
  | d :: r => uptoBulk d + uptoBulkAll r
def uptoBulkEntries {H : Type} : List (Lit × DataW H) → Nat
  | [] => 0
  | x :: r => uptoBulkEntry x + uptoBulkEntries r
def uptoBulkEntry {H : Type} : Lit × DataW H → Nat
  | (.string bytes, d) => bytes.length + uptoBulk d + 1
  | (_, d) => uptoBulk d + 1
 end
def uptoSmall : (H : Type) → List (DataW H) → Bool := fun _ ds => decide (uptoBulkAll ds ≤ 1048576)
def OpenSpec.upto (s : _root_.Go.ChangeSpec) : _root_.Go.OpenSpec := { _root_.Go.OpenSpec.ofChange s with cond := some uptoSmall }

/-- 'chalklinelaw13.GateMakes', WHERE WHAT IT READS IS OF BULK AT MOST 1048576: true; the input reads as it did. -/
def gateMakesUptoRow : OpenClaim := { program := "ytkcmkoolcakfjaa", sum := "2cc8d6b056a725b1177f120efc946039cbfe75280f11c678d84e3e154630e043", func := "chalkline/chalklinelaw13.GateMakes", spec := "gateMakes", unfollowed := true, recurses := true, loops := true, apart := false, narrowed := true }
def GateMakesUptoSaid : Prop := gateMakesUptoRow.holds Try.pinned (OpenSpec.upto gateMakesSpec)

/-- 'chalklinelaw13.GateAll', WHERE WHAT IT READS IS OF BULK AT MOST 1048576: true; the input reads as it did. -/
def gateAllUptoRow : OpenClaim := { program := "ytkcmkoolcakfjaa", sum := "2cc8d6b056a725b1177f120efc946039cbfe75280f11c678d84e3e154630e043", func := "chalkline/chalklinelaw13.GateAll", spec := "gateAll", unfollowed := true, recurses := true, loops := true, apart := false, narrowed := true }
def GateAllUptoSaid : Prop := gateAllUptoRow.holds Try.pinned (OpenSpec.upto gateAllSpec)

/-- 'chalklinelaw13.GateParts', WHERE WHAT IT READS IS OF BULK AT MOST 1048576: true; the input reads as it did. -/
def gatePartsUptoRow : OpenClaim := { program := "ytkcmkoolcakfjaa", sum := "2cc8d6b056a725b1177f120efc946039cbfe75280f11c678d84e3e154630e043", func := "chalkline/chalklinelaw13.GateParts", spec := "gateParts", unfollowed := true, recurses := true, loops := true, apart := false, narrowed := true }
def GatePartsUptoSaid : Prop := gatePartsUptoRow.holds Try.pinned (OpenSpec.upto gatePartsSpec)

/-- 'chalklinelaw13.GateFits', WHERE WHAT IT READS IS OF BULK AT MOST 1048576: true; the input reads as it did. -/
def gateFitsUptoRow : OpenClaim := { program := "ytkcmkoolcakfjaa", sum := "2cc8d6b056a725b1177f120efc946039cbfe75280f11c678d84e3e154630e043", func := "chalkline/chalklinelaw13.GateFits", spec := "gateFits", unfollowed := true, recurses := true, loops := true, apart := false, narrowed := true }
def GateFitsUptoSaid : Prop := gateFitsUptoRow.holds Try.pinned (OpenSpec.upto gateFitsSpec)

/-- 'chalklinelaw13.GateMeans', WHERE WHAT IT READS IS OF BULK AT MOST 1048576: true; the input reads as it did. -/
def gateMeansUptoRow : OpenClaim := { program := "ytkcmkoolcakfjaa", sum := "2cc8d6b056a725b1177f120efc946039cbfe75280f11c678d84e3e154630e043", func := "chalkline/chalklinelaw13.GateMeans", spec := "gateMeans", unfollowed := true, recurses := true, loops := true, apart := false, narrowed := true }
def GateMeansUptoSaid : Prop := gateMeansUptoRow.holds Try.pinned (OpenSpec.upto gateMeansSpec)

/-- 'chalklinelaw13.GateRuns', WHERE WHAT IT READS IS OF BULK AT MOST 1048576: true; the input reads as it did. -/
def gateRunsUptoRow : OpenClaim := { program := "ytkcmkoolcakfjaa", sum := "2cc8d6b056a725b1177f120efc946039cbfe75280f11c678d84e3e154630e043", func := "chalkline/chalklinelaw13.GateRuns", spec := "gateRuns", unfollowed := true, recurses := true, loops := true, apart := false, narrowed := true }
def GateRunsUptoSaid : Prop := gateRunsUptoRow.holds Try.pinned (OpenSpec.upto gateRunsSpec)

/-- 'chalklinelaw13.GateForced', WHERE WHAT IT READS IS OF BULK AT MOST 1048576: true; the input reads as it did. -/
def gateForcedUptoRow : OpenClaim := { program := "ytkcmkoolcakfjaa", sum := "2cc8d6b056a725b1177f120efc946039cbfe75280f11c678d84e3e154630e043", func := "chalkline/chalklinelaw13.GateForced", spec := "gateForced", unfollowed := true, recurses := true, loops := true, apart := false, narrowed := true }
def GateForcedUptoSaid : Prop := gateForcedUptoRow.holds Try.pinned (OpenSpec.upto gateForcedSpec)

end Rows
end Go.Proofs.Ytkcmkoolcakfjaa
