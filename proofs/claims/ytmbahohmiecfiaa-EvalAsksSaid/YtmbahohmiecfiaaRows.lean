/-
  No cell of these rows narrows 'for every input' (looked for: loops, veiled, ifaces, maps, wideKeys, modest, calm, conditions, laid).
  DERIVED. THE GIVEN ROWS OF THIS SEAT. 6 by the template 'for every input the law returns true; each argument reads behind the call as it read before'; 0 by the template 'total and deterministic' (their statements: YtmbahohmiecfiaaTotals.lean).
  GIVEN WITH THE SEED: the statements are not yours to turn. If you find one false, say at which input.
  Laid BY PROGRAM, IN A SANDBOX (cutbox-rows.mjs): the forced cells as the released guide's own fill.sh prints them over the translation 1ee33c4c018731fb… (all of the seat's roots in one cut). By AI agents, Wed Nov 11 2026. No macro, syntax, notation, axiom, sorry.
-/
import Derived.Test.YtmbahohmiecfiaaChecked
import GoSem.Claim
import GoSem.ClaimJoined
import GoSem.ClaimMapViews
import Derived.JoinedTies
import Derived.KernelRfl
namespace Go.Proofs.Ytmbahohmiecfiaa
/- THE CELL 'sum', in the pinned program and in every row, IS THE sha256 OF THE DUMP (.gsa) THAT YtmbahohmiecfiaaProg.lean LOADS. Nothing in Lean hashes anything: it is a label: what it is worth is what the hold of that sum in a sandbox is worth. -/
noncomputable def Try.pinned : Pinned := { name := "ytmbahohmiecfiaa", sum := "1ee33c4c018731fbdde450cb9a44b898d0dff4a5b0e3d3ba9f148d39f118a177", checked := Try.checked }
namespace Rows
def none {H : Type} : Left H := { results := [], args := [] }

/-- 'retrogradelaw19.EvalRuns': WHATEVER THE INPUT: true; the input reads as it did. -/
def evalRunsSpec : ChangeSpec := { name := "evalRuns", fn := fun _ => fun
  | [d1, d2] => { results := [.lit (.bool true)], args := [d1, d2] }
  | _ => none }
def evalRunsRow : OpenClaim := { program := "ytmbahohmiecfiaa", sum := "1ee33c4c018731fbdde450cb9a44b898d0dff4a5b0e3d3ba9f148d39f118a177", func := "retrograde/retrogradelaw19.EvalRuns", spec := "evalRuns", unfollowed := true, recurses := true, apart := false }
def EvalRunsSaid : Prop := evalRunsRow.holds Try.pinned (OpenSpec.ofChange evalRunsSpec)

/-- ITS FALSE NEIGHBOUR: 'it returns false'. Refute it at one input. -/
def evalRunsWrong : ChangeSpec := { name := "evalRuns", fn := fun _ => fun
  | [d1, d2] => { results := [.lit (.bool false)], args := [d1, d2] }
  | _ => none }
def EvalRunsWrongFalsely : Prop := evalRunsRow.holds Try.pinned (OpenSpec.ofChange evalRunsWrong)

/-- 'retrogradelaw19.EvalTexts': WHATEVER THE INPUT: true; the input reads as it did. -/
def evalTextsSpec : ChangeSpec := { name := "evalTexts", fn := fun _ => fun
  | [d1, d2] => { results := [.lit (.bool true)], args := [d1, d2] }
  | _ => none }
def evalTextsRow : OpenClaim := { program := "ytmbahohmiecfiaa", sum := "1ee33c4c018731fbdde450cb9a44b898d0dff4a5b0e3d3ba9f148d39f118a177", func := "retrograde/retrogradelaw19.EvalTexts", spec := "evalTexts", unfollowed := true, recurses := true, apart := false }
def EvalTextsSaid : Prop := evalTextsRow.holds Try.pinned (OpenSpec.ofChange evalTextsSpec)

/-- ITS FALSE NEIGHBOUR: 'it returns false'. Refute it at one input. -/
def evalTextsWrong : ChangeSpec := { name := "evalTexts", fn := fun _ => fun
  | [d1, d2] => { results := [.lit (.bool false)], args := [d1, d2] }
  | _ => none }
def EvalTextsWrongFalsely : Prop := evalTextsRow.holds Try.pinned (OpenSpec.ofChange evalTextsWrong)

/-- 'retrogradelaw19.EvalAsks': WHATEVER THE INPUT: true; the input reads as it did. -/
def evalAsksSpec : ChangeSpec := { name := "evalAsks", fn := fun _ => fun
  | [d1, d2, d3] => { results := [.lit (.bool true)], args := [d1, d2, d3] }
  | _ => none }
def evalAsksRow : OpenClaim := { program := "ytmbahohmiecfiaa", sum := "1ee33c4c018731fbdde450cb9a44b898d0dff4a5b0e3d3ba9f148d39f118a177", func := "retrograde/retrogradelaw19.EvalAsks", spec := "evalAsks", unfollowed := true, recurses := true, apart := false }
def EvalAsksSaid : Prop := evalAsksRow.holds Try.pinned (OpenSpec.ofChange evalAsksSpec)

/-- ITS FALSE NEIGHBOUR: 'it returns false'. Refute it at one input. -/
def evalAsksWrong : ChangeSpec := { name := "evalAsks", fn := fun _ => fun
  | [d1, d2, d3] => { results := [.lit (.bool false)], args := [d1, d2, d3] }
  | _ => none }
def EvalAsksWrongFalsely : Prop := evalAsksRow.holds Try.pinned (OpenSpec.ofChange evalAsksWrong)

/-- 'retrogradelaw19.EvalRules': WHATEVER THE INPUT: true; the input reads as it did. -/
def evalRulesSpec : ChangeSpec := { name := "evalRules", fn := fun _ => fun
  | [d1, d2] => { results := [.lit (.bool true)], args := [d1, d2] }
  | _ => none }
def evalRulesRow : OpenClaim := { program := "ytmbahohmiecfiaa", sum := "1ee33c4c018731fbdde450cb9a44b898d0dff4a5b0e3d3ba9f148d39f118a177", func := "retrograde/retrogradelaw19.EvalRules", spec := "evalRules", unfollowed := true, recurses := true, apart := false }
def EvalRulesSaid : Prop := evalRulesRow.holds Try.pinned (OpenSpec.ofChange evalRulesSpec)

/-- ITS FALSE NEIGHBOUR: 'it returns false'. Refute it at one input. -/
def evalRulesWrong : ChangeSpec := { name := "evalRules", fn := fun _ => fun
  | [d1, d2] => { results := [.lit (.bool false)], args := [d1, d2] }
  | _ => none }
def EvalRulesWrongFalsely : Prop := evalRulesRow.holds Try.pinned (OpenSpec.ofChange evalRulesWrong)

/-- 'retrogradelaw19.EvalShifts': WHATEVER THE INPUT: true; the input reads as it did. -/
def evalShiftsSpec : ChangeSpec := { name := "evalShifts", fn := fun _ => fun
  | [d1, d2] => { results := [.lit (.bool true)], args := [d1, d2] }
  | _ => none }
def evalShiftsRow : OpenClaim := { program := "ytmbahohmiecfiaa", sum := "1ee33c4c018731fbdde450cb9a44b898d0dff4a5b0e3d3ba9f148d39f118a177", func := "retrograde/retrogradelaw19.EvalShifts", spec := "evalShifts", unfollowed := true, recurses := true, apart := false }
def EvalShiftsSaid : Prop := evalShiftsRow.holds Try.pinned (OpenSpec.ofChange evalShiftsSpec)

/-- ITS FALSE NEIGHBOUR: 'it returns false'. Refute it at one input. -/
def evalShiftsWrong : ChangeSpec := { name := "evalShifts", fn := fun _ => fun
  | [d1, d2] => { results := [.lit (.bool false)], args := [d1, d2] }
  | _ => none }
def EvalShiftsWrongFalsely : Prop := evalShiftsRow.holds Try.pinned (OpenSpec.ofChange evalShiftsWrong)

/-- 'retrogradelaw19.EvalNil': WHATEVER THE INPUT: true; the input reads as it did. -/
def evalNilSpec : ChangeSpec := { name := "evalNil", fn := fun _ => fun
  | [d1, d2] => { results := [.lit (.bool true)], args := [d1, d2] }
  | _ => none }
def evalNilRow : OpenClaim := { program := "ytmbahohmiecfiaa", sum := "1ee33c4c018731fbdde450cb9a44b898d0dff4a5b0e3d3ba9f148d39f118a177", func := "retrograde/retrogradelaw19.EvalNil", spec := "evalNil", unfollowed := true, recurses := true, apart := false }
def EvalNilSaid : Prop := evalNilRow.holds Try.pinned (OpenSpec.ofChange evalNilSpec)

/-- ITS FALSE NEIGHBOUR: 'it returns false'. Refute it at one input. -/
def evalNilWrong : ChangeSpec := { name := "evalNil", fn := fun _ => fun
  | [d1, d2] => { results := [.lit (.bool false)], args := [d1, d2] }
  | _ => none }
def EvalNilWrongFalsely : Prop := evalNilRow.holds Try.pinned (OpenSpec.ofChange evalNilWrong)

/- THE SECOND FORM. 'bulk': how many values and letters a reading holds, each counted each time it is reached (what is shared counts as often as it is met; a slice's spare places count too). A statement '..UptoSaid' is the law's where the arguments, and the package variables that the reading takes, are together of bulk at most 1048576: NARROWER than '..Said'. Prove '..Said' where nothing that the law and all that it calls make is longer than what came in: it says more and counts as full. Else prove '..UptoSaid'. A law counts once. -/
mutual
def uptoBulk {H : Type} : DataW H → Nat
  | .lit (.string bytes) => bytes.length + 1
  | .lit _ => 1
  | .nil => 1
  | .ptr d => uptoBulk d + 1
  | .slice elems spare => uptoBulkAll elems + uptoBulkAll spare + 1
  | .agg parts => uptoBulkAll parts + 1
  | .iface _ d => uptoBulk d + 1
  | .map entries => uptoBulkEntries entries + 1
  | .held _ => 1
def uptoBulkAll {H : Type} : List (DataW H) → Nat
  | [] => 0
  | d :: r => uptoBulk d + uptoBulkAll r
def uptoBulkEntries {H : Type} : List (Lit × DataW H) → Nat
  | [] => 0
  | x :: r => uptoBulkEntry x + uptoBulkEntries r
def uptoBulkEntry {H : Type} : Lit × DataW H → Nat
  | (.string bytes, d) => bytes.length + uptoBulk d + 1
  | (_, d) => uptoBulk d + 1
 end
def uptoSmall : (H : Type) → List (DataW H) → Bool := fun _ ds => decide (uptoBulkAll ds ≤ 1048576)
def OpenSpec.upto (s : _root_.Go.ChangeSpec) : _root_.Go.OpenSpec := { _root_.Go.OpenSpec.ofChange s with cond := some uptoSmall }

/-- 'retrogradelaw19.EvalRuns', WHERE WHAT IT READS IS OF BULK AT MOST 1048576: true; the input reads as it did. -/
def evalRunsUptoRow : OpenClaim := { program := "ytmbahohmiecfiaa", sum := "1ee33c4c018731fbdde450cb9a44b898d0dff4a5b0e3d3ba9f148d39f118a177", func := "retrograde/retrogradelaw19.EvalRuns", spec := "evalRuns", unfollowed := true, recurses := true, apart := false, narrowed := true }
def EvalRunsUptoSaid : Prop := evalRunsUptoRow.holds Try.pinned (OpenSpec.upto evalRunsSpec)

/-- 'retrogradelaw19.EvalTexts', WHERE WHAT IT READS IS OF BULK AT MOST 1048576: true; the input reads as it did. -/
def evalTextsUptoRow : OpenClaim := { program := "ytmbahohmiecfiaa", sum := "1ee33c4c018731fbdde450cb9a44b898d0dff4a5b0e3d3ba9f148d39f118a177", func := "retrograde/retrogradelaw19.EvalTexts", spec := "evalTexts", unfollowed := true, recurses := true, apart := false, narrowed := true }
def EvalTextsUptoSaid : Prop := evalTextsUptoRow.holds Try.pinned (OpenSpec.upto evalTextsSpec)

/-- 'retrogradelaw19.EvalAsks', WHERE WHAT IT READS IS OF BULK AT MOST 1048576: true; the input reads as it did. -/
def evalAsksUptoRow : OpenClaim := { program := "ytmbahohmiecfiaa", sum := "1ee33c4c018731fbdde450cb9a44b898d0dff4a5b0e3d3ba9f148d39f118a177", func := "retrograde/retrogradelaw19.EvalAsks", spec := "evalAsks", unfollowed := true, recurses := true, apart := false, narrowed := true }
def EvalAsksUptoSaid : Prop := evalAsksUptoRow.holds Try.pinned (OpenSpec.upto evalAsksSpec)

/-- 'retrogradelaw19.EvalRules', WHERE WHAT IT READS IS OF BULK AT MOST 1048576: true; the input reads as it did. -/
def evalRulesUptoRow : OpenClaim := { program := "ytmbahohmiecfiaa", sum := "1ee33c4c018731fbdde450cb9a44b898d0dff4a5b0e3d3ba9f148d39f118a177", func := "retrograde/retrogradelaw19.EvalRules", spec := "evalRules", unfollowed := true, recurses := true, apart := false, narrowed := true }
def EvalRulesUptoSaid : Prop := evalRulesUptoRow.holds Try.pinned (OpenSpec.upto evalRulesSpec)

/-- 'retrogradelaw19.EvalShifts', WHERE WHAT IT READS IS OF BULK AT MOST 1048576: true; the input reads as it did. -/
def evalShiftsUptoRow : OpenClaim := { program := "ytmbahohmiecfiaa", sum := "1ee33c4c018731fbdde450cb9a44b898d0dff4a5b0e3d3ba9f148d39f118a177", func := "retrograde/retrogradelaw19.EvalShifts", spec := "evalShifts", unfollowed := true, recurses := true, apart := false, narrowed := true }
def EvalShiftsUptoSaid : Prop := evalShiftsUptoRow.holds Try.pinned (OpenSpec.upto evalShiftsSpec)

/-- 'retrogradelaw19.EvalNil', WHERE WHAT IT READS IS OF BULK AT MOST 1048576: true; the input reads as it did. -/
def evalNilUptoRow : OpenClaim := { program := "ytmbahohmiecfiaa", sum := "1ee33c4c018731fbdde450cb9a44b898d0dff4a5b0e3d3ba9f148d39f118a177", func := "retrograde/retrogradelaw19.EvalNil", spec := "evalNil", unfollowed := true, recurses := true, apart := false, narrowed := true }
def EvalNilUptoSaid : Prop := evalNilUptoRow.holds Try.pinned (OpenSpec.upto evalNilSpec)

end Rows
end Go.Proofs.Ytmbahohmiecfiaa
