/-
  No cell of these rows narrows 'for every input' (looked for: loops, veiled, ifaces, maps, wideKeys, modest, calm, conditions, laid).
  DERIVED. THE GIVEN ROWS OF THIS SEAT. 6 by the template 'for every input the law returns true; each argument reads behind the call as it read before'; 0 by the template 'total and deterministic' (their statements: YtmenafkmkcodlaaTotals.lean).
  GIVEN WITH THE SEED: the statements are not yours to turn. If you find one false, say at which input.
  Laid BY PROGRAM, IN A SANDBOX (cutbox-rows.mjs): the forced cells as the released guide's own fill.sh prints them over the translation a22dcafcb98a5f81… (all of the seat's roots in one cut). By AI agents, Wed Nov 11 2026. No macro, syntax, notation, axiom, sorry.
-/
import Derived.Test.YtmenafkmkcodlaaChecked
import GoSem.Claim
import GoSem.ClaimJoined
import GoSem.ClaimMapViews
import Derived.JoinedTies
import Derived.KernelRfl
namespace Go.Proofs.Ytmenafkmkcodlaa
/- THE CELL 'sum', in the pinned program and in every row, IS THE sha256 OF THE DUMP (.gsa) THAT YtmenafkmkcodlaaProg.lean LOADS. Nothing in Lean hashes anything: it is a label: what it is worth is what the hold of that sum in a sandbox is worth. -/
noncomputable def Try.pinned : Pinned := { name := "ytmenafkmkcodlaa", sum := "a22dcafcb98a5f816b6bc2ec9d55b7406649b81a95f2e187a8198eeb1a3fba41", checked := Try.checked }
namespace Rows
def none {H : Type} : Left H := { results := [], args := [] }

/-- 'retrogradelaw23.FrameEncodes': WHATEVER THE INPUT: true; the input reads as it did. -/
def frameEncodesSpec : ChangeSpec := { name := "frameEncodes", fn := fun _ => fun
  | [d] => { results := [.lit (.bool true)], args := [d] }
  | _ => none }
def frameEncodesRow : OpenClaim := { program := "ytmenafkmkcodlaa", sum := "a22dcafcb98a5f816b6bc2ec9d55b7406649b81a95f2e187a8198eeb1a3fba41", func := "retrograde/retrogradelaw23.FrameEncodes", spec := "frameEncodes", apart := false }
def FrameEncodesSaid : Prop := frameEncodesRow.holds Try.pinned (OpenSpec.ofChange frameEncodesSpec)

/-- ITS FALSE NEIGHBOUR: 'it returns false'. Refute it at one input. -/
def frameEncodesWrong : ChangeSpec := { name := "frameEncodes", fn := fun _ => fun
  | [d] => { results := [.lit (.bool false)], args := [d] }
  | _ => none }
def FrameEncodesWrongFalsely : Prop := frameEncodesRow.holds Try.pinned (OpenSpec.ofChange frameEncodesWrong)

/-- 'retrogradelaw23.FrameSums': WHATEVER THE INPUT: true; the input reads as it did. -/
def frameSumsSpec : ChangeSpec := { name := "frameSums", fn := fun _ => fun
  | [d1, d2, d3] => { results := [.lit (.bool true)], args := [d1, d2, d3] }
  | _ => none }
def frameSumsRow : OpenClaim := { program := "ytmenafkmkcodlaa", sum := "a22dcafcb98a5f816b6bc2ec9d55b7406649b81a95f2e187a8198eeb1a3fba41", func := "retrograde/retrogradelaw23.FrameSums", spec := "frameSums", apart := false }
def FrameSumsSaid : Prop := frameSumsRow.holds Try.pinned (OpenSpec.ofChange frameSumsSpec)

/-- ITS FALSE NEIGHBOUR: 'it returns false'. Refute it at one input. -/
def frameSumsWrong : ChangeSpec := { name := "frameSums", fn := fun _ => fun
  | [d1, d2, d3] => { results := [.lit (.bool false)], args := [d1, d2, d3] }
  | _ => none }
def FrameSumsWrongFalsely : Prop := frameSumsRow.holds Try.pinned (OpenSpec.ofChange frameSumsWrong)

/-- 'retrogradelaw23.FrameBack': WHATEVER THE INPUT: true; the input reads as it did. -/
def frameBackSpec : ChangeSpec := { name := "frameBack", fn := fun _ => fun
  | [d1, d2, d3] => { results := [.lit (.bool true)], args := [d1, d2, d3] }
  | _ => none }
def frameBackRow : OpenClaim := { program := "ytmenafkmkcodlaa", sum := "a22dcafcb98a5f816b6bc2ec9d55b7406649b81a95f2e187a8198eeb1a3fba41", func := "retrograde/retrogradelaw23.FrameBack", spec := "frameBack", apart := false }
def FrameBackSaid : Prop := frameBackRow.holds Try.pinned (OpenSpec.ofChange frameBackSpec)

/-- ITS FALSE NEIGHBOUR: 'it returns false'. Refute it at one input. -/
def frameBackWrong : ChangeSpec := { name := "frameBack", fn := fun _ => fun
  | [d1, d2, d3] => { results := [.lit (.bool false)], args := [d1, d2, d3] }
  | _ => none }
def FrameBackWrongFalsely : Prop := frameBackRow.holds Try.pinned (OpenSpec.ofChange frameBackWrong)

/-- 'retrogradelaw23.FrameSpoilt': WHATEVER THE INPUT: true; the input reads as it did. -/
def frameSpoiltSpec : ChangeSpec := { name := "frameSpoilt", fn := fun _ => fun
  | [d1, d2] => { results := [.lit (.bool true)], args := [d1, d2] }
  | _ => none }
def frameSpoiltRow : OpenClaim := { program := "ytmenafkmkcodlaa", sum := "a22dcafcb98a5f816b6bc2ec9d55b7406649b81a95f2e187a8198eeb1a3fba41", func := "retrograde/retrogradelaw23.FrameSpoilt", spec := "frameSpoilt", apart := false }
def FrameSpoiltSaid : Prop := frameSpoiltRow.holds Try.pinned (OpenSpec.ofChange frameSpoiltSpec)

/-- ITS FALSE NEIGHBOUR: 'it returns false'. Refute it at one input. -/
def frameSpoiltWrong : ChangeSpec := { name := "frameSpoilt", fn := fun _ => fun
  | [d1, d2] => { results := [.lit (.bool false)], args := [d1, d2] }
  | _ => none }
def FrameSpoiltWrongFalsely : Prop := frameSpoiltRow.holds Try.pinned (OpenSpec.ofChange frameSpoiltWrong)

/-- 'retrogradelaw23.FrameScans': WHATEVER THE INPUT: true; the input reads as it did. -/
def frameScansSpec : ChangeSpec := { name := "frameScans", fn := fun _ => fun
  | [d1, d2] => { results := [.lit (.bool true)], args := [d1, d2] }
  | _ => none }
def frameScansRow : OpenClaim := { program := "ytmenafkmkcodlaa", sum := "a22dcafcb98a5f816b6bc2ec9d55b7406649b81a95f2e187a8198eeb1a3fba41", func := "retrograde/retrogradelaw23.FrameScans", spec := "frameScans", apart := false }
def FrameScansSaid : Prop := frameScansRow.holds Try.pinned (OpenSpec.ofChange frameScansSpec)

/-- ITS FALSE NEIGHBOUR: 'it returns false'. Refute it at one input. -/
def frameScansWrong : ChangeSpec := { name := "frameScans", fn := fun _ => fun
  | [d1, d2] => { results := [.lit (.bool false)], args := [d1, d2] }
  | _ => none }
def FrameScansWrongFalsely : Prop := frameScansRow.holds Try.pinned (OpenSpec.ofChange frameScansWrong)

/-- 'retrogradelaw23.FrameEach': WHATEVER THE INPUT: true; the input reads as it did. -/
def frameEachSpec : ChangeSpec := { name := "frameEach", fn := fun _ => fun
  | [d1, d2] => { results := [.lit (.bool true)], args := [d1, d2] }
  | _ => none }
def frameEachRow : OpenClaim := { program := "ytmenafkmkcodlaa", sum := "a22dcafcb98a5f816b6bc2ec9d55b7406649b81a95f2e187a8198eeb1a3fba41", func := "retrograde/retrogradelaw23.FrameEach", spec := "frameEach", apart := false }
def FrameEachSaid : Prop := frameEachRow.holds Try.pinned (OpenSpec.ofChange frameEachSpec)

/-- ITS FALSE NEIGHBOUR: 'it returns false'. Refute it at one input. -/
def frameEachWrong : ChangeSpec := { name := "frameEach", fn := fun _ => fun
  | [d1, d2] => { results := [.lit (.bool false)], args := [d1, d2] }
  | _ => none }
def FrameEachWrongFalsely : Prop := frameEachRow.holds Try.pinned (OpenSpec.ofChange frameEachWrong)

/- THE SECOND FORM. 'bulk': how many values and letters a reading holds, each counted each time it is reached (what is shared counts as often as it is met; a slice's spare places count too). A statement '..UptoSaid' is the law's where the arguments, and the package variables that the reading takes, are together of bulk at most 1048576: NARROWER than '..Said'. Prove '..Said' where nothing that the law and all that it calls make is longer than what came in: it says more and counts as full. Else prove '..UptoSaid'. A law counts once. -/
mutual
def uptoBulk {H : Type} : DataW H → Nat
  | .lit (.string bytes) => bytes.length + 1
  | .lit _ => 1
  | .nil => 1
  | .ptr d => uptoBulk d + 1
  | .slice elems spare => uptoBulkAll elems + uptoBulkAll spare + 1
  | .agg parts => uptoBulkAll parts + 1
  | .iface _ d => uptoBulk d + 1
  | .map entries => uptoBulkEntries entries + 1
  | .held _ => 1
def uptoBulkAll {H : Type} : List (DataW H) → Nat
  | [] => 0
  | d :: r => uptoBulk d + uptoBulkAll r
def uptoBulkEntries {H : Type} : List (Lit × DataW H) → Nat
  | [] => 0
  | x :: r => uptoBulkEntry x + uptoBulkEntries r
def uptoBulkEntry {H : Type} : Lit × DataW H → Nat
  | (.string bytes, d) => bytes.length + uptoBulk d + 1
  | (_, d) => uptoBulk d + 1
 end
def uptoSmall : (H : Type) → List (DataW H) → Bool := fun _ ds => decide (uptoBulkAll ds ≤ 1048576)
def OpenSpec.upto (s : _root_.Go.ChangeSpec) : _root_.Go.OpenSpec := { _root_.Go.OpenSpec.ofChange s with cond := some uptoSmall }

/-- 'retrogradelaw23.FrameEncodes', WHERE WHAT IT READS IS OF BULK AT MOST 1048576: true; the input reads as it did. -/
def frameEncodesUptoRow : OpenClaim := { program := "ytmenafkmkcodlaa", sum := "a22dcafcb98a5f816b6bc2ec9d55b7406649b81a95f2e187a8198eeb1a3fba41", func := "retrograde/retrogradelaw23.FrameEncodes", spec := "frameEncodes", apart := false, narrowed := true }
def FrameEncodesUptoSaid : Prop := frameEncodesUptoRow.holds Try.pinned (OpenSpec.upto frameEncodesSpec)

/-- 'retrogradelaw23.FrameSums', WHERE WHAT IT READS IS OF BULK AT MOST 1048576: true; the input reads as it did. -/
def frameSumsUptoRow : OpenClaim := { program := "ytmenafkmkcodlaa", sum := "a22dcafcb98a5f816b6bc2ec9d55b7406649b81a95f2e187a8198eeb1a3fba41", func := "retrograde/retrogradelaw23.FrameSums", spec := "frameSums", apart := false, narrowed := true }
def FrameSumsUptoSaid : Prop := frameSumsUptoRow.holds Try.pinned (OpenSpec.upto frameSumsSpec)

/-- 'retrogradelaw23.FrameBack', WHERE WHAT IT READS IS OF BULK AT MOST 1048576: true; the input reads as it did. -/
def frameBackUptoRow : OpenClaim := { program := "ytmenafkmkcodlaa", sum := "a22dcafcb98a5f816b6bc2ec9d55b7406649b81a95f2e187a8198eeb1a3fba41", func := "retrograde/retrogradelaw23.FrameBack", spec := "frameBack", apart := false, narrowed := true }
def FrameBackUptoSaid : Prop := frameBackUptoRow.holds Try.pinned (OpenSpec.upto frameBackSpec)

/-- 'retrogradelaw23.FrameSpoilt', WHERE WHAT IT READS IS OF BULK AT MOST 1048576: true; the input reads as it did. -/
def frameSpoiltUptoRow : OpenClaim := { program := "ytmenafkmkcodlaa", sum := "a22dcafcb98a5f816b6bc2ec9d55b7406649b81a95f2e187a8198eeb1a3fba41", func := "retrograde/retrogradelaw23.FrameSpoilt", spec := "frameSpoilt", apart := false, narrowed := true }
def FrameSpoiltUptoSaid : Prop := frameSpoiltUptoRow.holds Try.pinned (OpenSpec.upto frameSpoiltSpec)

/-- 'retrogradelaw23.FrameScans', WHERE WHAT IT READS IS OF BULK AT MOST 1048576: true; the input reads as it did. -/
def frameScansUptoRow : OpenClaim := { program := "ytmenafkmkcodlaa", sum := "a22dcafcb98a5f816b6bc2ec9d55b7406649b81a95f2e187a8198eeb1a3fba41", func := "retrograde/retrogradelaw23.FrameScans", spec := "frameScans", apart := false, narrowed := true }
def FrameScansUptoSaid : Prop := frameScansUptoRow.holds Try.pinned (OpenSpec.upto frameScansSpec)

/-- 'retrogradelaw23.FrameEach', WHERE WHAT IT READS IS OF BULK AT MOST 1048576: true; the input reads as it did. -/
def frameEachUptoRow : OpenClaim := { program := "ytmenafkmkcodlaa", sum := "a22dcafcb98a5f816b6bc2ec9d55b7406649b81a95f2e187a8198eeb1a3fba41", func := "retrograde/retrogradelaw23.FrameEach", spec := "frameEach", apart := false, narrowed := true }
def FrameEachUptoSaid : Prop := frameEachUptoRow.holds Try.pinned (OpenSpec.upto frameEachSpec)

end Rows
end Go.Proofs.Ytmenafkmkcodlaa
