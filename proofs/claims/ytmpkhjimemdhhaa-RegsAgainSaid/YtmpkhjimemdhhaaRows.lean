/-
  No cell of these rows narrows 'for every input' (looked for: loops, veiled, ifaces, maps, wideKeys, modest, calm, conditions, laid).
  DERIVED. THE GIVEN ROWS OF THIS SEAT. 6 by the template 'for every input the law returns true; each argument reads behind the call as it read before'; 0 by the template 'total and deterministic' (their statements: YtmpkhjimemdhhaaTotals.lean).
  GIVEN WITH THE SEED: the statements are not yours to turn. If you find one false, say at which input.
  Laid BY PROGRAM, IN A SANDBOX (cutbox-rows.mjs): the forced cells as the released guide's own fill.sh prints them over the translation 26722b00a627b2fc… (all of the seat's roots in one cut). By AI agents, Wed Nov 11 2026. No macro, syntax, notation, axiom, sorry.
-/
import Derived.Test.YtmpkhjimemdhhaaChecked
import GoSem.Claim
import GoSem.ClaimJoined
import GoSem.ClaimMapViews
import Derived.JoinedTies
import Derived.KernelRfl
namespace Go.Proofs.Ytmpkhjimemdhhaa
/- THE CELL 'sum', in the pinned program and in every row, IS THE sha256 OF THE DUMP (.gsa) THAT YtmpkhjimemdhhaaProg.lean LOADS. Nothing in Lean hashes anything: it is a label: what it is worth is what the hold of that sum in a sandbox is worth. -/
noncomputable def Try.pinned : Pinned := { name := "ytmpkhjimemdhhaa", sum := "26722b00a627b2fcc028fc80c314b119413f0b513ac915606d721c48d6b23825", checked := Try.checked }
namespace Rows
def none {H : Type} : Left H := { results := [], args := [] }

/-- 'retrogradelaw02.RegsConds': WHATEVER THE INPUT: true; the input reads as it did. -/
def regsCondsSpec : ChangeSpec := { name := "regsConds", fn := fun _ => fun
  | [d1, d2] => { results := [.lit (.bool true)], args := [d1, d2] }
  | _ => none }
def regsCondsRow : OpenClaim := { program := "ytmpkhjimemdhhaa", sum := "26722b00a627b2fcc028fc80c314b119413f0b513ac915606d721c48d6b23825", func := "retrograde/retrogradelaw02.RegsConds", spec := "regsConds", apart := false }
def RegsCondsSaid : Prop := regsCondsRow.holds Try.pinned (OpenSpec.ofChange regsCondsSpec)

/-- ITS FALSE NEIGHBOUR: 'it returns false'. Refute it at one input. -/
def regsCondsWrong : ChangeSpec := { name := "regsConds", fn := fun _ => fun
  | [d1, d2] => { results := [.lit (.bool false)], args := [d1, d2] }
  | _ => none }
def RegsCondsWrongFalsely : Prop := regsCondsRow.holds Try.pinned (OpenSpec.ofChange regsCondsWrong)

/-- 'retrogradelaw02.RegsKeep': WHATEVER THE INPUT: true; the input reads as it did. -/
def regsKeepSpec : ChangeSpec := { name := "regsKeep", fn := fun _ => fun
  | [d1, d2, d3, d4] => { results := [.lit (.bool true)], args := [d1, d2, d3, d4] }
  | _ => none }
def regsKeepRow : OpenClaim := { program := "ytmpkhjimemdhhaa", sum := "26722b00a627b2fcc028fc80c314b119413f0b513ac915606d721c48d6b23825", func := "retrograde/retrogradelaw02.RegsKeep", spec := "regsKeep", apart := false }
def RegsKeepSaid : Prop := regsKeepRow.holds Try.pinned (OpenSpec.ofChange regsKeepSpec)

/-- ITS FALSE NEIGHBOUR: 'it returns false'. Refute it at one input. -/
def regsKeepWrong : ChangeSpec := { name := "regsKeep", fn := fun _ => fun
  | [d1, d2, d3, d4] => { results := [.lit (.bool false)], args := [d1, d2, d3, d4] }
  | _ => none }
def RegsKeepWrongFalsely : Prop := regsKeepRow.holds Try.pinned (OpenSpec.ofChange regsKeepWrong)

/-- 'retrogradelaw02.RegsBytes': WHATEVER THE INPUT: true; the input reads as it did. -/
def regsBytesSpec : ChangeSpec := { name := "regsBytes", fn := fun _ => fun
  | [d1, d2] => { results := [.lit (.bool true)], args := [d1, d2] }
  | _ => none }
def regsBytesRow : OpenClaim := { program := "ytmpkhjimemdhhaa", sum := "26722b00a627b2fcc028fc80c314b119413f0b513ac915606d721c48d6b23825", func := "retrograde/retrogradelaw02.RegsBytes", spec := "regsBytes", apart := false }
def RegsBytesSaid : Prop := regsBytesRow.holds Try.pinned (OpenSpec.ofChange regsBytesSpec)

/-- ITS FALSE NEIGHBOUR: 'it returns false'. Refute it at one input. -/
def regsBytesWrong : ChangeSpec := { name := "regsBytes", fn := fun _ => fun
  | [d1, d2] => { results := [.lit (.bool false)], args := [d1, d2] }
  | _ => none }
def RegsBytesWrongFalsely : Prop := regsBytesRow.holds Try.pinned (OpenSpec.ofChange regsBytesWrong)

/-- 'retrogradelaw02.RegsAgain': WHATEVER THE INPUT: true; the input reads as it did. -/
def regsAgainSpec : ChangeSpec := { name := "regsAgain", fn := fun _ => fun
  | [d1, d2, d3] => { results := [.lit (.bool true)], args := [d1, d2, d3] }
  | _ => none }
def regsAgainRow : OpenClaim := { program := "ytmpkhjimemdhhaa", sum := "26722b00a627b2fcc028fc80c314b119413f0b513ac915606d721c48d6b23825", func := "retrograde/retrogradelaw02.RegsAgain", spec := "regsAgain", apart := false }
def RegsAgainSaid : Prop := regsAgainRow.holds Try.pinned (OpenSpec.ofChange regsAgainSpec)

/-- ITS FALSE NEIGHBOUR: 'it returns false'. Refute it at one input. -/
def regsAgainWrong : ChangeSpec := { name := "regsAgain", fn := fun _ => fun
  | [d1, d2, d3] => { results := [.lit (.bool false)], args := [d1, d2, d3] }
  | _ => none }
def RegsAgainWrongFalsely : Prop := regsAgainRow.holds Try.pinned (OpenSpec.ofChange regsAgainWrong)

/-- 'retrogradelaw02.RegsTell': WHATEVER THE INPUT: true; the input reads as it did. -/
def regsTellSpec : ChangeSpec := { name := "regsTell", fn := fun _ => fun
  | [d1, d2, d3, d4] => { results := [.lit (.bool true)], args := [d1, d2, d3, d4] }
  | _ => none }
def regsTellRow : OpenClaim := { program := "ytmpkhjimemdhhaa", sum := "26722b00a627b2fcc028fc80c314b119413f0b513ac915606d721c48d6b23825", func := "retrograde/retrogradelaw02.RegsTell", spec := "regsTell", apart := false }
def RegsTellSaid : Prop := regsTellRow.holds Try.pinned (OpenSpec.ofChange regsTellSpec)

/-- ITS FALSE NEIGHBOUR: 'it returns false'. Refute it at one input. -/
def regsTellWrong : ChangeSpec := { name := "regsTell", fn := fun _ => fun
  | [d1, d2, d3, d4] => { results := [.lit (.bool false)], args := [d1, d2, d3, d4] }
  | _ => none }
def RegsTellWrongFalsely : Prop := regsTellRow.holds Try.pinned (OpenSpec.ofChange regsTellWrong)

/-- 'retrogradelaw02.RegsPairs': WHATEVER THE INPUT: true; the input reads as it did. -/
def regsPairsSpec : ChangeSpec := { name := "regsPairs", fn := fun _ => fun
  | [d1, d2, d3, d4] => { results := [.lit (.bool true)], args := [d1, d2, d3, d4] }
  | _ => none }
def regsPairsRow : OpenClaim := { program := "ytmpkhjimemdhhaa", sum := "26722b00a627b2fcc028fc80c314b119413f0b513ac915606d721c48d6b23825", func := "retrograde/retrogradelaw02.RegsPairs", spec := "regsPairs", apart := false }
def RegsPairsSaid : Prop := regsPairsRow.holds Try.pinned (OpenSpec.ofChange regsPairsSpec)

/-- ITS FALSE NEIGHBOUR: 'it returns false'. Refute it at one input. -/
def regsPairsWrong : ChangeSpec := { name := "regsPairs", fn := fun _ => fun
  | [d1, d2, d3, d4] => { results := [.lit (.bool false)], args := [d1, d2, d3, d4] }
  | _ => none }
def RegsPairsWrongFalsely : Prop := regsPairsRow.holds Try.pinned (OpenSpec.ofChange regsPairsWrong)

/- THE SECOND FORM. 'bulk': how many values and letters a reading holds, each counted each time it is reached (what is shared counts as often as it is met; a slice's spare places count too). A statement '..UptoSaid' is the law's where the arguments, and the package variables that the reading takes, are together of bulk at most 1048576: NARROWER than '..Said'. Prove '..Said' where nothing that the law and all that it calls make is longer than what came in: it says more and counts as full. Else prove '..UptoSaid'. A law counts once. -/
mutual
def uptoBulk {H : Type} : DataW H → Nat
  | .lit (.string bytes) => bytes.length + 1
  | .lit _ => 1
  | .nil => 1
  | .ptr d => uptoBulk d + 1
  | .slice elems spare => uptoBulkAll elems + uptoBulkAll spare + 1
  | .agg parts => uptoBulkAll parts + 1
  | .iface _ d => uptoBulk d + 1
  | .map entries => uptoBulkEntries entries + 1
  | .held _ => 1
def uptoBulkAll {H : Type} : List (DataW H) → Nat
  | [] => 0
  | d :: r => uptoBulk d + uptoBulkAll r
def uptoBulkEntries {H : Type} : List (Lit × DataW H) → Nat
  | [] => 0
  | x :: r => uptoBulkEntry x + uptoBulkEntries r
def uptoBulkEntry {H : Type} : Lit × DataW H → Nat
  | (.string bytes, d) => bytes.length + uptoBulk d + 1
  | (_, d) => uptoBulk d + 1
 end
def uptoSmall : (H : Type) → List (DataW H) → Bool := fun _ ds => decide (uptoBulkAll ds ≤ 1048576)
def OpenSpec.upto (s : _root_.Go.ChangeSpec) : _root_.Go.OpenSpec := { _root_.Go.OpenSpec.ofChange s with cond := some uptoSmall }

/-- 'retrogradelaw02.RegsConds', WHERE WHAT IT READS IS OF BULK AT MOST 1048576: true; the input reads as it did. -/
def regsCondsUptoRow : OpenClaim := { program := "ytmpkhjimemdhhaa", sum := "26722b00a627b2fcc028fc80c314b119413f0b513ac915606d721c48d6b23825", func := "retrograde/retrogradelaw02.RegsConds", spec := "regsConds", apart := false, narrowed := true }
def RegsCondsUptoSaid : Prop := regsCondsUptoRow.holds Try.pinned (OpenSpec.upto regsCondsSpec)

/-- 'retrogradelaw02.RegsKeep', WHERE WHAT IT READS IS OF BULK AT MOST 1048576: true; the input reads as it did. -/
def regsKeepUptoRow : OpenClaim := { program := "ytmpkhjimemdhhaa", sum := "26722b00a627b2fcc028fc80c314b119413f0b513ac915606d721c48d6b23825", func := "retrograde/retrogradelaw02.RegsKeep", spec := "regsKeep", apart := false, narrowed := true }
def RegsKeepUptoSaid : Prop := regsKeepUptoRow.holds Try.pinned (OpenSpec.upto regsKeepSpec)

/-- 'retrogradelaw02.RegsBytes', WHERE WHAT IT READS IS OF BULK AT MOST 1048576: true; the input reads as it did. -/
def regsBytesUptoRow : OpenClaim := { program := "ytmpkhjimemdhhaa", sum := "26722b00a627b2fcc028fc80c314b119413f0b513ac915606d721c48d6b23825", func := "retrograde/retrogradelaw02.RegsBytes", spec := "regsBytes", apart := false, narrowed := true }
def RegsBytesUptoSaid : Prop := regsBytesUptoRow.holds Try.pinned (OpenSpec.upto regsBytesSpec)

/-- 'retrogradelaw02.RegsAgain', WHERE WHAT IT READS IS OF BULK AT MOST 1048576: true; the input reads as it did. -/
def regsAgainUptoRow : OpenClaim := { program := "ytmpkhjimemdhhaa", sum := "26722b00a627b2fcc028fc80c314b119413f0b513ac915606d721c48d6b23825", func := "retrograde/retrogradelaw02.RegsAgain", spec := "regsAgain", apart := false, narrowed := true }
def RegsAgainUptoSaid : Prop := regsAgainUptoRow.holds Try.pinned (OpenSpec.upto regsAgainSpec)

/-- 'retrogradelaw02.RegsTell', WHERE WHAT IT READS IS OF BULK AT MOST 1048576: true; the input reads as it did. -/
def regsTellUptoRow : OpenClaim := { program := "ytmpkhjimemdhhaa", sum := "26722b00a627b2fcc028fc80c314b119413f0b513ac915606d721c48d6b23825", func := "retrograde/retrogradelaw02.RegsTell", spec := "regsTell", apart := false, narrowed := true }
def RegsTellUptoSaid : Prop := regsTellUptoRow.holds Try.pinned (OpenSpec.upto regsTellSpec)

/-- 'retrogradelaw02.RegsPairs', WHERE WHAT IT READS IS OF BULK AT MOST 1048576: true; the input reads as it did. -/
def regsPairsUptoRow : OpenClaim := { program := "ytmpkhjimemdhhaa", sum := "26722b00a627b2fcc028fc80c314b119413f0b513ac915606d721c48d6b23825", func := "retrograde/retrogradelaw02.RegsPairs", spec := "regsPairs", apart := false, narrowed := true }
def RegsPairsUptoSaid : Prop := regsPairsUptoRow.holds Try.pinned (OpenSpec.upto regsPairsSpec)

end Rows
end Go.Proofs.Ytmpkhjimemdhhaa
