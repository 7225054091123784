/-
  The contract of frames that are alike. There are at most 4000000 frames, of at most 1000000 bytes.
-/
import Derived.Test.YtmenafkmkcodlaaR6
namespace Go.Proofs.Ytmenafkmkcodlaa
open Go.RowKit sym
set_option linter.unusedVariables false
set_option linter.unusedSimpArgs false
set_option maxRecDepth 100000
structure sjP where
  i : Nat
  ln : Nat
structure sjX where
  k : Nat
structure sjY where
structure sjZ where
def sjSt (L : Nat → Option Obj) (O : Nat → Bool) (an : Bool) (ao al ac ad : Nat) (fa : List Fr) (bn : Bool) (bo bl bc bd : Nat) (fb : List Fr) : sjP → sjX → ASt := fun ⟨i, ln⟩ ⟨k⟩ => ⟨slots (List.replicate 71 .any) [(0, .v (.one (.gs 1 an 2 ao al ac))), (1, .v (.one (.gs 2 bn 2 bo bl bc))), (4, .v (.one (.bool true false))), (5, .v (.one (.int false .i64 (i : Int)))), (12, .v (.one (.gs 1 an 2 ao al ac))), (13, .v (.one (.int false .i64 (al : Int)))), (14, .v (.one (.int false .i64 (i : Int)))), (48, .v (.one (.int false .i64 (ln : Int)))), (49, .v (.one (.int false .i64 (k : Int))))], [⟨[.keep L O], 0⟩, ⟨[.frs an fa ad], 24⟩, ⟨[.frs bn fb bd], 24⟩]⟩
def sjFin (L : Nat → Option Obj) (O : Nat → Bool) (an : Bool) (ao al ac ad : Nat) (fa : List Fr) (bn : Bool) (bo bl bc bd : Nat) (fb : List Fr) : sjP → sjY → ASt := fun ⟨i, ln⟩ ⟨⟩ => ⟨slots (List.replicate 71 .any) [(0, .v (.one (.gs 1 an 2 ao al ac))), (1, .v (.one (.gs 2 bn 2 bo bl bc))), (4, .v (.one (.bool true false))), (12, .v (.one (.gs 1 an 2 ao al ac))), (13, .v (.one (.int false .i64 (al : Int)))), (14, .v (.one (.int false .i64 (i : Int))))], [⟨[.keep L O], 0⟩, ⟨[.frs an fa ad], 24⟩, ⟨[.frs bn fb bd], 24⟩]⟩
def sjBck (L : Nat → Option Obj) (O : Nat → Bool) (an : Bool) (ao al ac ad : Nat) (fa : List Fr) (bn : Bool) (bo bl bc bd : Nat) (fb : List Fr) : sjP → sjZ → ASt := fun ⟨i, ln⟩ ⟨⟩ => ⟨slots (List.replicate 71 .any) [(4, .v (.one (.bool true false)))], [⟨[.keep L O], 0⟩, ⟨[.frs an fa ad], 24⟩, ⟨[.frs bn fb bd], 24⟩]⟩
def sjNxP : ASt → Option sjP := fun s => match (gI s 5).map Int.toNat with | none => none | some i => match (gI s 48).map Int.toNat with | none => none | some ln => some ⟨i, ln⟩
def sjNxX : ASt → Option sjX := fun s => match (gI s 49).map Int.toNat with | none => none | some k => some ⟨k⟩
def sjNxY : ASt → Option sjY := fun s => some ⟨⟩
def sjNxZ : ASt → Option sjZ := fun s => some ⟨⟩
def sjRo : ASt → List (Option Nat) := (fun _ => [])
def sjRf : ASt → List (Option Nat) := (fun _ => [])
def sjRb : ASt → List (Option Nat) := (fun _ => [])
structure sjInv (L : Nat → Option Obj) (O : Nat → Bool) (an : Bool) (ao al ac ad : Nat) (fa : List Fr) (bn : Bool) (bo bl bc bd : Nat) (fb : List Fr) (p : sjP) (x : sjX) : Prop where
  k1 : x.k ≤ p.ln
  c : p.i < al ∧ (sym.frAt fa (ao + p.i)).xs.length = p.ln ∧ (sym.frAt fb (bo + p.i)).xs.length = p.ln
  eq : ∀ j : Nat, j < x.k → (sym.frAt fa (ao + p.i)).xs.getD j 0 = (sym.frAt fb (bo + p.i)).xs.getD j 0
structure sjPost (L : Nat → Option Obj) (O : Nat → Bool) (an : Bool) (ao al ac ad : Nat) (fa : List Fr) (bn : Bool) (bo bl bc bd : Nat) (fb : List Fr) (p : sjP) (x : sjY) : Prop where
  eq : (sym.frAt fa (ao + p.i)).xs = (sym.frAt fb (bo + p.i)).xs
structure sjBack (L : Nat → Option Obj) (O : Nat → Bool) (an : Bool) (ao al ac ad : Nat) (fa : List Fr) (bn : Bool) (bo bl bc bd : Nat) (fb : List Fr) (p : sjP) (x : sjZ) : Prop where
  ne : (sym.frAt fa (ao + p.i)).xs ≠ (sym.frAt fb (bo + p.i)).xs
def sjLp (L : Nat → Option Obj) (O : Nat → Bool) (an : Bool) (ao al ac ad : Nat) (fa : List Fr) (bn : Bool) (bo bl bc bd : Nat) (fb : List Fr) : Lp := ⟨16, 2, fun s => match sjNxP s with
  | some p => match sjNxX s with
    | some x => some (loopT 2 3 true sjRo (sjSt L O an ao al ac ad fa bn bo bl bc bd fb p) (sjFin L O an ao al ac ad fa bn bo bl bc bd fb p) (sjBck L O an ao al ac ad fa bn bo bl bc bd fb p) (sjInv L O an ao al ac ad fa bn bo bl bc bd fb p) (sjPost L O an ao al ac ad fa bn bo bl bc bd fb p) (sjBack L O an ao al ac ad fa bn bo bl bc bd fb p) s x)
    | none => none
  | none => none⟩
theorem sjstep_tree (w : World) (L : Nat → Option Obj) (O : Nat → Bool) (an : Bool) (ao al ac ad : Nat) (fa : List Fr) (bn : Bool) (bo bl bc bd : Nat) (fb : List Fr) (i : Nat) (ln : Nat) (k : Nat) :
    roundT Try.prog w (flatT Try.prog) (noCtr) (callT Try.prog w (flatT Try.prog) (noCtr) (preOr (preOf w tab2) (fpreOf [concatC w])) (noLoop) 20) ((noLoop) 16) (roundOf (bodyAt Try.prog 16 2)) 2 3 sjRo sjRf sjRb (sjSt L O an ao al ac ad fa bn bo bl bc bd fb ⟨i, ln⟩) (sjFin L O an ao al ac ad fa bn bo bl bc bd fb ⟨i, ln⟩) (sjBck L O an ao al ac ad fa bn bo bl bc bd fb ⟨i, ln⟩) sjNxX sjNxY sjNxZ ⟨k⟩ =
(.br (decide ((↑k : Int) < (↑ln : Int)))
 (.chk (an = false ∧ (0 : Int) ≤ (↑i : Int) ∧ (↑i : Int) < (↑al : Int))
 (.chk (an = false ∧ ao + (↑i : Int).toNat < fa.length)
 (.chk ((0 : Int) ≤ (↑k : Int) ∧
  (↑k : Int) < (↑(sym.frAt fa (ao + (↑i : Int).toNat)).xs.length : Int))
 (.chk (sym.frAt fa (ao + (↑i : Int).toNat) ∈ fa ∧
  (↑k : Int).toNat < (sym.frAt fa (ao + (↑i : Int).toNat)).xs.length)
 (.chk (bn = false ∧ (0 : Int) ≤ (↑i : Int) ∧ (↑i : Int) < (↑bl : Int))
 (.chk (bn = false ∧ bo + (↑i : Int).toNat < fb.length)
 (.chk ((0 : Int) ≤ (↑k : Int) ∧
  (↑k : Int) < (↑(sym.frAt fb (bo + (↑i : Int).toNat)).xs.length : Int))
 (.chk (sym.frAt fb (bo + (↑i : Int).toNat) ∈ fb ∧
  (↑k : Int).toNat < (sym.frAt fb (bo + (↑i : Int).toNat)).xs.length)
 (.br ((sym.frAt fa (ao + (↑i : Int).toNat)).xs.getD (↑k : Int).toNat (0 : Int) !=
  (sym.frAt fb (bo + (↑i : Int).toNat)).xs.getD (↑k : Int).toNat (0 : Int))
  (.chk (false = false)
  (.chk (L = L ∧ O = O)
  (.chk (an = an ∧ fa = fa ∧ ad = ad)
  (.chk (bn = bn ∧ fb = fb ∧ bd = bd)
  (.leaf (.inr (.inr ⟨⟩)))))))
  (.chk (an = an ∧ (2 : Nat) = (2 : Nat) ∧ ao = ao ∧ al = al ∧ ac = ac)
  (.chk (bn = bn ∧ (2 : Nat) = (2 : Nat) ∧ bo = bo ∧ bl = bl ∧ bc = bc)
  (.chk (false = false)
  (.chk (IntKind.i64 = IntKind.i64 ∧ (↑i : Int) = (↑i : Int))
  (.chk (an = an ∧ (2 : Nat) = (2 : Nat) ∧ ao = ao ∧ al = al ∧ ac = ac)
  (.chk (IntKind.i64 = IntKind.i64 ∧ (↑al : Int) = (↑al : Int))
  (.chk (IntKind.i64 = IntKind.i64 ∧ (↑i : Int) = (↑i : Int))
  (.chk (IntKind.i64 = IntKind.i64 ∧ (↑ln : Int) = (↑ln : Int))
  (.chk (IntKind.i64 = IntKind.i64 ∧
  IntKind.i64.wrap ((↑k : Int) + (1 : Int)) = (↑(IntKind.i64.wrap ((↑k : Int) + (1 : Int))).toNat : Int))
  (.chk (L = L ∧ O = O)
  (.chk (an = an ∧ fa = fa ∧ ad = ad)
  (.chk (bn = bn ∧ fb = fb ∧ bd = bd)
  (.leaf (.inl ⟨(IntKind.i64.wrap ((↑k : Int) + (1 : Int))).toNat⟩)))))))))))))))))))))))
 (.chk (an = an ∧ (2 : Nat) = (2 : Nat) ∧ ao = ao ∧ al = al ∧ ac = ac)
 (.chk (bn = bn ∧ (2 : Nat) = (2 : Nat) ∧ bo = bo ∧ bl = bl ∧ bc = bc)
 (.chk (false = false)
 (.chk (an = an ∧ (2 : Nat) = (2 : Nat) ∧ ao = ao ∧ al = al ∧ ac = ac)
 (.chk (IntKind.i64 = IntKind.i64 ∧ (↑al : Int) = (↑al : Int))
 (.chk (IntKind.i64 = IntKind.i64 ∧ (↑i : Int) = (↑i : Int))
 (.chk (L = L ∧ O = O)
 (.chk (an = an ∧ fa = fa ∧ ad = ad)
 (.chk (bn = bn ∧ fb = fb ∧ bd = bd)
 (.leaf (.inr (.inl ⟨⟩))))))))))))) := by kernel_rfl
structure soP where
structure soX where
  i : Nat
structure soZ where
def soSt (L : Nat → Option Obj) (O : Nat → Bool) (an : Bool) (ao al ac ad : Nat) (fa : List Fr) (bn : Bool) (bo bl bc bd : Nat) (fb : List Fr) : soP → soX → ASt := fun ⟨⟩ ⟨i⟩ => ⟨slots (List.replicate 71 .any) [(0, .v (.one (.gs 1 an 2 ao al ac))), (1, .v (.one (.gs 2 bn 2 bo bl bc))), (4, .v (.one (.bool true false))), (12, .v (.one (.gs 1 an 2 ao al ac))), (13, .v (.one (.int false .i64 (al : Int)))), (14, .v (.one (.int false .i64 (i : Int))))], [⟨[.keep L O], 0⟩, ⟨[.frs an fa ad], 24⟩, ⟨[.frs bn fb bd], 24⟩]⟩
def soFin (L : Nat → Option Obj) (O : Nat → Bool) (an : Bool) (ao al ac ad : Nat) (fa : List Fr) (bn : Bool) (bo bl bc bd : Nat) (fb : List Fr) : soP → soX → ASt := fun ⟨⟩ ⟨i⟩ => ⟨slots (List.replicate 71 .any) [(0, .v (.one (.gs 1 an 2 ao al ac))), (1, .v (.one (.gs 2 bn 2 bo bl bc))), (4, .v (.one (.bool true false))), (12, .v (.one (.gs 1 an 2 ao al ac))), (13, .v (.one (.int false .i64 (al : Int)))), (14, .v (.one (.int false .i64 (i : Int))))], [⟨[.keep L O], 0⟩, ⟨[.frs an fa ad], 24⟩, ⟨[.frs bn fb bd], 24⟩]⟩
def soBck (L : Nat → Option Obj) (O : Nat → Bool) (an : Bool) (ao al ac ad : Nat) (fa : List Fr) (bn : Bool) (bo bl bc bd : Nat) (fb : List Fr) : soP → soZ → ASt := fun ⟨⟩ ⟨⟩ => ⟨slots (List.replicate 71 .any) [(4, .v (.one (.bool true false)))], [⟨[.keep L O], 0⟩, ⟨[.frs an fa ad], 24⟩, ⟨[.frs bn fb bd], 24⟩]⟩
def soNxP : ASt → Option soP := fun s => some ⟨⟩
def soNxX : ASt → Option soX := fun s => match (gI s 14).map Int.toNat with | none => none | some i => some ⟨i⟩
def soNxZ : ASt → Option soZ := fun s => some ⟨⟩
def soRo : ASt → List (Option Nat) := (fun _ => [])
def soRf : ASt → List (Option Nat) := (fun _ => [])
def soRb : ASt → List (Option Nat) := (fun _ => [])
structure soInv (L : Nat → Option Obj) (O : Nat → Bool) (an : Bool) (ao al ac ad : Nat) (fa : List Fr) (bn : Bool) (bo bl bc bd : Nat) (fb : List Fr) (p : soP) (x : soX) : Prop where
  i1 : x.i ≤ al
  eq : ∀ j : Nat, j < x.i → (sym.frAt fa (ao + j)).s = (sym.frAt fb (bo + j)).s ∧ (sym.frAt fa (ao + j)).xs = (sym.frAt fb (bo + j)).xs
structure soPost (L : Nat → Option Obj) (O : Nat → Bool) (an : Bool) (ao al ac ad : Nat) (fa : List Fr) (bn : Bool) (bo bl bc bd : Nat) (fb : List Fr) (p : soP) (x : soX) : Prop where
  eq : ∀ j : Nat, j < al → (sym.frAt fa (ao + j)).s = (sym.frAt fb (bo + j)).s ∧ (sym.frAt fa (ao + j)).xs = (sym.frAt fb (bo + j)).xs
structure soBack (L : Nat → Option Obj) (O : Nat → Bool) (an : Bool) (ao al ac ad : Nat) (fa : List Fr) (bn : Bool) (bo bl bc bd : Nat) (fb : List Fr) (p : soP) (x : soZ) : Prop where
  ne : ∃ j : Nat, j < al ∧ ¬ ((sym.frAt fa (ao + j)).s = (sym.frAt fb (bo + j)).s ∧ (sym.frAt fa (ao + j)).xs = (sym.frAt fb (bo + j)).xs)
def soLp (L : Nat → Option Obj) (O : Nat → Bool) (an : Bool) (ao al ac ad : Nat) (fa : List Fr) (bn : Bool) (bo bl bc bd : Nat) (fb : List Fr) : Lp := ⟨16, 0, fun s => match soNxP s with
  | some p => match soNxX s with
    | some x => some (loopT 0 3 true soRo (soSt L O an ao al ac ad fa bn bo bl bc bd fb p) (soFin L O an ao al ac ad fa bn bo bl bc bd fb p) (soBck L O an ao al ac ad fa bn bo bl bc bd fb p) (soInv L O an ao al ac ad fa bn bo bl bc bd fb p) (soPost L O an ao al ac ad fa bn bo bl bc bd fb p) (soBack L O an ao al ac ad fa bn bo bl bc bd fb p) s x)
    | none => none
  | none => none⟩
theorem sostep_tree (w : World) (L : Nat → Option Obj) (O : Nat → Bool) (an : Bool) (ao al ac ad : Nat) (fa : List Fr) (bn : Bool) (bo bl bc bd : Nat) (fb : List Fr) (i : Nat) :
    roundT Try.prog w (flatT Try.prog) (noCtr) (callT Try.prog w (flatT Try.prog) (noCtr) (preOr (preOf w tab2) (fpreOf [concatC w])) (lpOf Try.prog [sjLp L O an ao al ac ad fa bn bo bl bc bd fb]) 20) ((lpOf Try.prog [sjLp L O an ao al ac ad fa bn bo bl bc bd fb]) 16) (roundOf (bodyAt Try.prog 16 0)) 0 3 soRo soRf soRb (soSt L O an ao al ac ad fa bn bo bl bc bd fb ⟨⟩) (soFin L O an ao al ac ad fa bn bo bl bc bd fb ⟨⟩) (soBck L O an ao al ac ad fa bn bo bl bc bd fb ⟨⟩) soNxX soNxX soNxZ ⟨i⟩ =
(.br (decide ((↑i : Int) < (↑al : Int)))
 (.chk (an = false ∧ (0 : Int) ≤ (↑i : Int) ∧ (↑i : Int) < (↑al : Int))
 (.chk (an = false ∧ ao + (↑i : Int).toNat < fa.length)
 (.chk (bn = false ∧ (0 : Int) ≤ (↑i : Int) ∧ (↑i : Int) < (↑bl : Int))
 (.chk (bn = false ∧ bo + (↑i : Int).toNat < fb.length)
 (.br ((sym.frAt fa (ao + (↑i : Int).toNat)).s !=
  (sym.frAt fb (bo + (↑i : Int).toNat)).s)
  (.chk (false = false)
  (.chk (L = L ∧ O = O)
  (.chk (an = an ∧ fa = fa ∧ ad = ad)
  (.chk (bn = bn ∧ fb = fb ∧ bd = bd)
  (.leaf (.inr (.inr ⟨⟩)))))))
  (.chk (an = false ∧ (0 : Int) ≤ (↑i : Int) ∧ (↑i : Int) < (↑al : Int))
  (.chk (an = false ∧ ao + (↑i : Int).toNat < fa.length)
  (.chk (bn = false ∧ (0 : Int) ≤ (↑i : Int) ∧ (↑i : Int) < (↑bl : Int))
  (.chk (bn = false ∧ bo + (↑i : Int).toNat < fb.length)
  (.br ((↑(sym.frAt fa (ao + (↑i : Int).toNat)).xs.length : Int) !=
  (↑(sym.frAt fb (bo + (↑i : Int).toNat)).xs.length : Int))
   (.chk (false = false)
   (.chk (L = L ∧ O = O)
   (.chk (an = an ∧ fa = fa ∧ ad = ad)
   (.chk (bn = bn ∧ fb = fb ∧ bd = bd)
   (.leaf (.inr (.inr ⟨⟩)))))))
   (.chk (an = false ∧ (0 : Int) ≤ (↑i : Int) ∧ (↑i : Int) < (↑al : Int))
   (.chk (an = false ∧ ao + (↑i : Int).toNat < fa.length)
   (.chk (sym.textAt Go.Proofs.Try.prog (16 : Go.FuncId) (2 : Nat) = sym.textAt Go.Proofs.Try.prog (16 : Go.FuncId) (2 : Nat))
   (.chk (an = an ∧ (2 : Nat) = (2 : Nat) ∧ ao = ao ∧ al = al ∧ ac = ac)
   (.chk (bn = bn ∧ (2 : Nat) = (2 : Nat) ∧ bo = bo ∧ bl = bl ∧ bc = bc)
   (.chk (false = false)
   (.chk (IntKind.i64 = IntKind.i64 ∧ (↑i : Int) = (↑(↑i : Int).toNat : Int))
   (.chk (an = an ∧ (2 : Nat) = (2 : Nat) ∧ ao = ao ∧ al = al ∧ ac = ac)
   (.chk (IntKind.i64 = IntKind.i64 ∧ (↑al : Int) = (↑al : Int))
   (.chk (IntKind.i64 = IntKind.i64 ∧ (↑i : Int) = (↑(↑i : Int).toNat : Int))
   (.chk (IntKind.i64 = IntKind.i64 ∧
  (↑(sym.frAt fa (ao + (↑i : Int).toNat)).xs.length : Int) =
    (↑(↑(sym.frAt fa (ao + (↑i : Int).toNat)).xs.length : Int).toNat : Int))
   (.chk (IntKind.i64 = IntKind.i64 ∧ (0 : Int) = (↑(0 : Nat) : Int))
   (.chk (L = L ∧ O = O)
   (.chk (an = an ∧ fa = fa ∧ ad = ad)
   (.chk (bn = bn ∧ fb = fb ∧ bd = bd)
   (.chk (sjInv L O an ao al ac ad fa bn bo bl bc bd fb
  { i := (↑i : Int).toNat,
    ln := (↑(sym.frAt fa (ao + (↑i : Int).toNat)).xs.length : Int).toNat }
  { k := (0 : Nat) })
   (.all fun x : Bool =>
    (.br (x)
     (.all fun x_1 : sym.Got sjY
  (sjPost L O an ao al ac ad fa bn bo bl bc bd fb
    { i := (↑i : Int).toNat,
      ln := (↑(sym.frAt fa (ao + (↑i : Int).toNat)).xs.length : Int).toNat }) =>
      (.chk (an = an ∧ (2 : Nat) = (2 : Nat) ∧ ao = ao ∧ al = al ∧ ac = ac)
      (.chk (bn = bn ∧ (2 : Nat) = (2 : Nat) ∧ bo = bo ∧ bl = bl ∧ bc = bc)
      (.chk (false = false)
      (.chk (an = an ∧ (2 : Nat) = (2 : Nat) ∧ ao = ao ∧ al = al ∧ ac = ac)
      (.chk (IntKind.i64 = IntKind.i64 ∧ (↑al : Int) = (↑al : Int))
      (.chk (IntKind.i64 = IntKind.i64 ∧
  IntKind.i64.wrap ((↑(↑i : Int).toNat : Int) + (1 : Int)) =
    (↑(IntKind.i64.wrap ((↑(↑i : Int).toNat : Int) + (1 : Int))).toNat : Int))
      (.chk (L = L ∧ O = O)
      (.chk (an = an ∧ fa = fa ∧ ad = ad)
      (.chk (bn = bn ∧ fb = fb ∧ bd = bd)
      (.leaf (.inl ⟨(IntKind.i64.wrap ((↑(↑i : Int).toNat : Int) + (1 : Int))).toNat⟩))))))))))))
     (.all fun x_1 : sym.Got sjZ
  (sjBack L O an ao al ac ad fa bn bo bl bc bd fb
    { i := (↑i : Int).toNat,
      ln := (↑(sym.frAt fa (ao + (↑i : Int).toNat)).xs.length : Int).toNat }) =>
      (.chk (false = false)
      (.chk (L = L ∧ O = O)
      (.chk (an = an ∧ fa = fa ∧ ad = ad)
      (.chk (bn = bn ∧ fb = fb ∧ bd = bd)
      (.leaf (.inr (.inr ⟨⟩))))))))))))))))))))))))))))))))))))
 (.chk (an = an ∧ (2 : Nat) = (2 : Nat) ∧ ao = ao ∧ al = al ∧ ac = ac)
 (.chk (bn = bn ∧ (2 : Nat) = (2 : Nat) ∧ bo = bo ∧ bl = bl ∧ bc = bc)
 (.chk (false = false)
 (.chk (an = an ∧ (2 : Nat) = (2 : Nat) ∧ ao = ao ∧ al = al ∧ ac = ac)
 (.chk (IntKind.i64 = IntKind.i64 ∧ (↑al : Int) = (↑al : Int))
 (.chk (IntKind.i64 = IntKind.i64 ∧ (↑i : Int) = (↑(↑i : Int).toNat : Int))
 (.chk (L = L ∧ O = O)
 (.chk (an = an ∧ fa = fa ∧ ad = ad)
 (.chk (bn = bn ∧ fb = fb ∧ bd = bd)
 (.leaf (.inr (.inl ⟨(↑i : Int).toNat⟩))))))))))))) := by kernel_rfl
theorem sameF_tree (w : World) (L : Nat → Option Obj) (O : Nat → Bool) (an : Bool) (ao al ac ad : Nat) (fa : List Fr) (bn : Bool) (bo bl bc bd : Nat) (fb : List Fr) :
    callT Try.prog w (flatT Try.prog) noCtr (preOr (preOf w tab2) (fpreOf [concatC w])) (lpOf Try.prog [soLp L O an ao al ac ad fa bn bo bl bc bd fb]) 20 16 [.v (.one (.gs 1 an 2 ao al ac)), .v (.one (.gs 2 bn 2 bo bl bc))] [⟨[.keep L O], 0⟩, ⟨[.frs an fa ad], 24⟩, ⟨[.frs bn fb bd], 24⟩] =
(.br ((↑al : Int) != (↑bl : Int))
 (.leaf ((.v (.one (.bool true false))), [⟨[(.keep (L) (O))], 0⟩, ⟨[(.frs (an) (fa) (ad))], 24⟩, ⟨[(.frs (bn) (fb) (bd))], 24⟩]))
 (.chk (sym.textAt Go.Proofs.Try.prog (16 : Go.FuncId) (0 : Nat) = sym.textAt Go.Proofs.Try.prog (16 : Go.FuncId) (0 : Nat))
 (.chk (an = an ∧ (2 : Nat) = (2 : Nat) ∧ ao = ao ∧ al = al ∧ ac = ac)
 (.chk (bn = bn ∧ (2 : Nat) = (2 : Nat) ∧ bo = bo ∧ bl = bl ∧ bc = bc)
 (.chk (false = false)
 (.chk (an = an ∧ (2 : Nat) = (2 : Nat) ∧ ao = ao ∧ al = al ∧ ac = ac)
 (.chk (IntKind.i64 = IntKind.i64 ∧ (↑al : Int) = (↑al : Int))
 (.chk (IntKind.i64 = IntKind.i64 ∧ (0 : Int) = (↑(0 : Nat) : Int))
 (.chk (L = L ∧ O = O)
 (.chk (an = an ∧ fa = fa ∧ ad = ad)
 (.chk (bn = bn ∧ fb = fb ∧ bd = bd)
 (.chk (soInv L O an ao al ac ad fa bn bo bl bc bd fb { } { i := (0 : Nat) })
 (.all fun x : Bool =>
  (.br (x)
   (.all fun x_1 : sym.Got soX
  (soPost L O an ao al ac ad fa bn bo bl bc bd fb { }) =>
    (.leaf ((.v (.one (.bool true true))), [⟨[(.keep (L) (O))], 0⟩, ⟨[(.frs (an) (fa) (ad))], 24⟩, ⟨[(.frs (bn) (fb) (bd))], 24⟩])))
   (.all fun x_1 : sym.Got soZ
  (soBack L O an ao al ac ad fa bn bo bl bc bd fb { }) =>
    (.leaf ((.v (.one (.bool true false))), [⟨[(.keep (L) (O))], 0⟩, ⟨[(.frs (an) (fa) (ad))], 24⟩, ⟨[(.frs (bn) (fb) (bd))], 24⟩]))))))))))))))))) := by kernel_rfl
def sjMu (L : Nat → Option Obj) (O : Nat → Bool) (an : Bool) (ao al ac ad : Nat) (fa : List Fr) (bn : Bool) (bo bl bc bd : Nat) (fb : List Fr) (p : sjP) (x : sjX) : Nat := p.ln - x.k
theorem sj_step (w : World) (L : Nat → Option Obj) (O : Nat → Bool) (an : Bool) (ao al ac ad : Nat) (fa : List Fr) (bn : Bool) (bo bl bc bd : Nat) (fb : List Fr) (p : sjP) (x : sjX) (hA : ao + al ≤ fa.length) (hB : bo + bl ≤ fb.length) (han : an = true → al = 0) (hbn : bn = true → bl = 0) (hab : al = bl) (big : al ≤ 4000000) (hfa : ∀ f ∈ fa, f.xs.length ≤ 1000000) (h : sjInv L O an ao al ac ad fa bn bo bl bc bd fb p x) : Hid (roundT Try.prog w (flatT Try.prog) (noCtr) (callT Try.prog w (flatT Try.prog) (noCtr) (preOr (preOf w tab2) (fpreOf [concatC w])) (noLoop) 20) ((noLoop) 16) (roundOf (bodyAt Try.prog 16 2)) 2 3 sjRo sjRf sjRb (sjSt L O an ao al ac ad fa bn bo bl bc bd fb p) (sjFin L O an ao al ac ad fa bn bo bl bc bd fb p) (sjBck L O an ao al ac ad fa bn bo bl bc bd fb p) sjNxX sjNxY sjNxZ x) (Kept (sjInv L O an ao al ac ad fa bn bo bl bc bd fb p) (sjPost L O an ao al ac ad fa bn bo bl bc bd fb p) (sjBack L O an ao al ac ad fa bn bo bl bc bd fb p) (sjMu L O an ao al ac ad fa bn bo bl bc bd fb p) x) := by
  obtain ⟨i, ln⟩ := p
  obtain ⟨k⟩ := x
  constructor
  rw [sjstep_tree]
  simp only [T.holds, Kept, sjMu, and_self, true_and, and_true]
  obtain ⟨k1, ⟨c1, c2, c3⟩, eq⟩ := h
  simp only at k1 c1 c2 c3 eq
  have hanf : al ≠ 0 → an = false := fun h => by
    cases an with
    | false => rfl
    | true => exact absurd (han rfl) h
  have hbnf : al ≠ 0 → bn = false := fun h => by
    cases bn with
    | false => rfl
    | true => exact absurd (hbn rfl) (by omega)
  have ma : sym.frAt fa (ao + i) ∈ fa := sym.frAt_mem (by omega)
  have mb : sym.frAt fb (bo + i) ∈ fb := sym.frAt_mem (by omega)
  have hl := hfa _ ma
  have w1 : IntKind.i64.wrap ((k : Int) + 1) = ((k + 1 : Nat) : Int) := by rw [wi64 _ (by omega) (by omega)]; omega
  simp only [w1, Int.toNat_natCast, true_and, and_true]
  refine ⟨fun hlt => ?_, fun hge => ?_⟩
  · have hlt : k < ln := by have := of_decide_eq_true hlt; omega
    refine ⟨⟨hanf (by omega), by omega, by omega⟩, ⟨hanf (by omega), by omega⟩, ⟨by omega, by omega⟩, ⟨ma, by omega⟩, ⟨hbnf (by omega), by omega, by omega⟩, ⟨hbnf (by omega), by omega⟩, ⟨by omega, by omega⟩, ⟨mb, by omega⟩, fun hne => ⟨?_⟩, fun he => ⟨⟨by show k + 1 ≤ ln; omega, ⟨c1, c2, c3⟩, fun j hj => ?_⟩, by omega⟩⟩
    · intro h
      have h : (sym.frAt fa (ao + i)).xs = (sym.frAt fb (bo + i)).xs := h
      rw [h] at hne
      simp at hne
    · have hj : j < k + 1 := hj
      by_cases e : j = k
      · subst e
        simpa using he
      · exact eq j (by omega)
  · have hge := of_decide_eq_false hge
    exact ⟨ext_getD (by show (sym.frAt fa (ao + i)).xs.length = (sym.frAt fb (bo + i)).xs.length; omega) fun j hj => eq j (by have hj : j < (sym.frAt fa (ao + i)).xs.length := hj; omega)⟩
theorem sjLp_ok (w : World) (L : Nat → Option Obj) (O : Nat → Bool) (an : Bool) (ao al ac ad : Nat) (fa : List Fr) (bn : Bool) (bo bl bc bd : Nat) (fb : List Fr) (hA : ao + al ≤ fa.length) (hB : bo + bl ≤ fb.length) (han : an = true → al = 0) (hbn : bn = true → bl = 0) (hab : al = bl) (big : al ≤ 4000000) (hfa : ∀ f ∈ fa, f.xs.length ≤ 1000000) : (sjLp L O an ao al ac ad fa bn bo bl bc bd fb).ok Try.prog w := by
  intro s t h
  unfold sjLp at h
  simp only at h
  split at h
  · rename_i p _
    split at h
    · rename_i x _
      cases h
      exact loop_ok base2 (ctrs_none _ w) (callT_ok base2.mixed base2.names base2.eqs (ctrs_none _ w).ok (ctrs_none _ w).there (pre3_ok w) (loops_none _ _) 20) ((loops_none _ _) 16) (c := roundOf (bodyAt Try.prog 16 2)) (by kernel_rfl) (id := 2) (n := 3) (hr := true) (ro := sjRo) (rf := sjRf) (rr := sjRb) (st := sjSt L O an ao al ac ad fa bn bo bl bc bd fb p) (fin := sjFin L O an ao al ac ad fa bn bo bl bc bd fb p) (bck := sjBck L O an ao al ac ad fa bn bo bl bc bd fb p) (inv := sjInv L O an ao al ac ad fa bn bo bl bc bd fb p) (post := sjPost L O an ao al ac ad fa bn bo bl bc bd fb p) (back := sjBack L O an ao al ac ad fa bn bo bl bc bd fb p) (nx := sjNxX) (fx := sjNxY) (bx := sjNxZ) (sjMu L O an ao al ac ad fa bn bo bl bc bd fb p) (nf := 3) (nf' := 3) (nf'' := 3) (fun x => by kernel_rfl) (fun y => by kernel_rfl) (fun z => by kernel_rfl) (.inl rfl) (fun x hx => sj_step w L O an ao al ac ad fa bn bo bl bc bd fb p x hA hB han hbn hab big hfa hx) s x
    · cases h
  · cases h
def soMu (L : Nat → Option Obj) (O : Nat → Bool) (an : Bool) (ao al ac ad : Nat) (fa : List Fr) (bn : Bool) (bo bl bc bd : Nat) (fb : List Fr) (p : soP) (x : soX) : Nat := al - x.i
theorem so_step (w : World) (L : Nat → Option Obj) (O : Nat → Bool) (an : Bool) (ao al ac ad : Nat) (fa : List Fr) (bn : Bool) (bo bl bc bd : Nat) (fb : List Fr) (p : soP) (x : soX) (hA : ao + al ≤ fa.length) (hB : bo + bl ≤ fb.length) (han : an = true → al = 0) (hbn : bn = true → bl = 0) (hab : al = bl) (big : al ≤ 4000000) (hfa : ∀ f ∈ fa, f.xs.length ≤ 1000000) (h : soInv L O an ao al ac ad fa bn bo bl bc bd fb p x) : Hid (roundT Try.prog w (flatT Try.prog) (noCtr) (callT Try.prog w (flatT Try.prog) (noCtr) (preOr (preOf w tab2) (fpreOf [concatC w])) (lpOf Try.prog [sjLp L O an ao al ac ad fa bn bo bl bc bd fb]) 20) ((lpOf Try.prog [sjLp L O an ao al ac ad fa bn bo bl bc bd fb]) 16) (roundOf (bodyAt Try.prog 16 0)) 0 3 soRo soRf soRb (soSt L O an ao al ac ad fa bn bo bl bc bd fb p) (soFin L O an ao al ac ad fa bn bo bl bc bd fb p) (soBck L O an ao al ac ad fa bn bo bl bc bd fb p) soNxX soNxX soNxZ x) (Kept (soInv L O an ao al ac ad fa bn bo bl bc bd fb p) (soPost L O an ao al ac ad fa bn bo bl bc bd fb p) (soBack L O an ao al ac ad fa bn bo bl bc bd fb p) (soMu L O an ao al ac ad fa bn bo bl bc bd fb p) x) := by
  obtain ⟨⟩ := p
  obtain ⟨i⟩ := x
  constructor
  rw [sostep_tree]
  simp only [T.holds, Kept, soMu, and_self, true_and, and_true]
  obtain ⟨i1, eq⟩ := h
  simp only at i1 eq
  have hanf : al ≠ 0 → an = false := fun h => by
    cases an with
    | false => rfl
    | true => exact absurd (han rfl) h
  have hbnf : al ≠ 0 → bn = false := fun h => by
    cases bn with
    | false => rfl
    | true => exact absurd (hbn rfl) (by omega)
  have w1 : IntKind.i64.wrap ((i : Int) + 1) = ((i + 1 : Nat) : Int) := by rw [wi64 _ (by omega) (by omega)]; omega
  simp only [w1, Int.toNat_natCast, true_and, and_true]
  refine ⟨fun hlt => ?_, fun hge => ?_⟩
  · have hlt : i < al := by have := of_decide_eq_true hlt; omega
    have p1 : an = false ∧ (0 : Int) ≤ (i : Int) ∧ (i : Int) < (al : Int) := ⟨hanf (by omega), by omega, by omega⟩
    have p2 : an = false ∧ ao + i < fa.length := ⟨hanf (by omega), by omega⟩
    have p3 : bn = false ∧ (0 : Int) ≤ (i : Int) ∧ (i : Int) < (bl : Int) := ⟨hbnf (by omega), by omega, by omega⟩
    have p4 : bn = false ∧ bo + i < fb.length := ⟨hbnf (by omega), by omega⟩
    have bad : ¬ ((sym.frAt fa (ao + i)).s = (sym.frAt fb (bo + i)).s ∧ (sym.frAt fa (ao + i)).xs = (sym.frAt fb (bo + i)).xs) → soBack L O an ao al ac ad fa bn bo bl bc bd fb ⟨⟩ ⟨⟩ := fun h => ⟨⟨i, hlt, h⟩⟩
    refine ⟨p1, p2, p3, p4, fun hne => bad fun h => ?_, fun hs => ⟨p1, p2, p3, p4, fun hl => bad fun h => ?_, fun hl => ⟨p1, p2, rfl, ?_, fun b => ⟨fun _ y => ?_, fun _ z => bad fun h => z.so.ne h.2⟩⟩⟩⟩
    · rw [h.1] at hne
      simp at hne
    · rw [h.2] at hl
      simp at hl
    · have hl : ((sym.frAt fa (ao + i)).xs.length : Int) = ((sym.frAt fb (bo + i)).xs.length : Int) := by simpa using hl
      refine ⟨Nat.zero_le _, ⟨hlt, rfl, by show (sym.frAt fb (bo + i)).xs.length = (sym.frAt fa (ao + i)).xs.length; omega⟩, fun j hj => ?_⟩
      have hj : j < 0 := hj
      omega
    · have hy := y.so.eq
      simp only at hy
      have hs : (sym.frAt fa (ao + i)).s = (sym.frAt fb (bo + i)).s := by simpa using hs
      refine ⟨⟨by show i + 1 ≤ al; omega, fun j hj => ?_⟩, by omega⟩
      have hj : j < i + 1 := hj
      by_cases e : j = i
      · subst e
        exact ⟨hs, hy⟩
      · exact eq j (by omega)
  · have hge := of_decide_eq_false hge
    exact ⟨fun j hj => eq j (by omega)⟩
theorem soLp_ok (w : World) (L : Nat → Option Obj) (O : Nat → Bool) (an : Bool) (ao al ac ad : Nat) (fa : List Fr) (bn : Bool) (bo bl bc bd : Nat) (fb : List Fr) (hA : ao + al ≤ fa.length) (hB : bo + bl ≤ fb.length) (han : an = true → al = 0) (hbn : bn = true → bl = 0) (hab : al = bl) (big : al ≤ 4000000) (hfa : ∀ f ∈ fa, f.xs.length ≤ 1000000) : (soLp L O an ao al ac ad fa bn bo bl bc bd fb).ok Try.prog w := by
  intro s t h
  unfold soLp at h
  simp only at h
  split at h
  · rename_i p _
    split at h
    · rename_i x _
      cases h
      exact loop_ok base2 (ctrs_none _ w) (callT_ok base2.mixed base2.names base2.eqs (ctrs_none _ w).ok (ctrs_none _ w).there (pre3_ok w) ((lps_ok (ls := [sjLp L O an ao al ac ad fa bn bo bl bc bd fb]) fun l hl => by (simp only [List.mem_cons, List.not_mem_nil, or_false] at hl; subst hl; exact sjLp_ok w L O an ao al ac ad fa bn bo bl bc bd fb hA hB han hbn hab big hfa))) 20) (((lps_ok (ls := [sjLp L O an ao al ac ad fa bn bo bl bc bd fb]) fun l hl => by (simp only [List.mem_cons, List.not_mem_nil, or_false] at hl; subst hl; exact sjLp_ok w L O an ao al ac ad fa bn bo bl bc bd fb hA hB han hbn hab big hfa))) 16) (c := roundOf (bodyAt Try.prog 16 0)) (by kernel_rfl) (id := 0) (n := 3) (hr := true) (ro := soRo) (rf := soRf) (rr := soRb) (st := soSt L O an ao al ac ad fa bn bo bl bc bd fb p) (fin := soFin L O an ao al ac ad fa bn bo bl bc bd fb p) (bck := soBck L O an ao al ac ad fa bn bo bl bc bd fb p) (inv := soInv L O an ao al ac ad fa bn bo bl bc bd fb p) (post := soPost L O an ao al ac ad fa bn bo bl bc bd fb p) (back := soBack L O an ao al ac ad fa bn bo bl bc bd fb p) (nx := soNxX) (fx := soNxX) (bx := soNxZ) (soMu L O an ao al ac ad fa bn bo bl bc bd fb p) (nf := 3) (nf' := 3) (nf'' := 3) (fun x => by kernel_rfl) (fun y => by kernel_rfl) (fun z => by kernel_rfl) (.inl rfl) (fun x hx => so_step w L O an ao al ac ad fa bn bo bl bc bd fb p x hA hB han hbn hab big hfa hx) s x
    · cases h
  · cases h
theorem sameN_tree (w : World) (L : Nat → Option Obj) (O : Nat → Bool) (an : Bool) (ao al ac ad : Nat) (fa : List Fr) (bn : Bool) (bo bl bc bd : Nat) (fb : List Fr) :
    callT Try.prog w (flatT Try.prog) noCtr (preOr (preOf w tab2) (fpreOf [concatC w])) (noLoop) 20 16 [.v (.one (.gs 1 an 2 ao al ac)), .v (.one (.gs 2 bn 2 bo bl bc))] [⟨[.keep L O], 0⟩, ⟨[.frs an fa ad], 24⟩, ⟨[.frs bn fb bd], 24⟩] =
(.br ((↑al : Int) != (↑bl : Int))
(.leaf ((.v (.one (.bool true false))), [⟨[(.keep (L) (O))], 0⟩, ⟨[(.frs (an) (fa) (ad))], 24⟩, ⟨[(.frs (bn) (fb) (bd))], 24⟩]))
((callT Try.prog w (flatT Try.prog) noCtr (preOr (preOf w tab2) (fpreOf [concatC w])) (noLoop) 20 16 [.v (.one (.gs 1 an 2 ao al ac)), .v (.one (.gs 2 bn 2 bo bl bc))] [⟨[.keep L O], 0⟩, ⟨[.frs an fa ad], 24⟩, ⟨[.frs bn fb bd], 24⟩]).els)) := by kernel_rfl
theorem pj_get {l : List Fr} {j : Nat} (h : j < l.length) : (pj l)[j]? = some ((sym.frAt l j).s, (sym.frAt l j).xs) := by
  unfold pj sym.frAt
  rw [List.getElem?_map, List.getElem?_eq_getElem h]
  rfl
theorem pj_cut_get {l : List Fr} {o n j : Nat} (h : o + n ≤ l.length) (hj : j < n) : (pj ((l.drop o).take n))[j]? = some ((sym.frAt l (o + j)).s, (sym.frAt l (o + j)).xs) := by
  unfold pj sym.frAt
  rw [List.getElem?_map, List.getElem?_take, if_pos hj, List.getElem?_drop, List.getElem?_eq_getElem (by omega)]
  rfl
theorem sameFC_ok (w0 : World) : sameFC.Ok Try.prog w0 := by
  refine fctr_ok base2 (ctrs_none _ _) (pre3_ok w0) (n := 20) fun args h t h0 => ?_
  unfold sameFC at h0
  simp only at h0
  split at h0
  · rename_i an ao al ac bn bo bl bc an' fa ad bn' fb bd
    cases h0
    intro L O K hK
    obtain ⟨⟨rfl, rfl, hA, hB, han, hbn, big, hfa⟩, hK⟩ := hK
    by_cases hab : al = bl
    · subst hab
      refine ⟨lpOf Try.prog [soLp L O an' ao al ac ad fa bn' bo al bc bd fb], lps_ok fun l hl => ?_, ?_⟩
      · simp only [List.mem_cons, List.not_mem_nil, or_false] at hl
        subst hl
        exact soLp_ok w0 L O an' ao al ac ad fa bn' bo al bc bd fb hA hB han hbn rfl big hfa
      show T.holds (callT Try.prog w0 (flatT Try.prog) noCtr (preOr (preOf w0 tab2) (fpreOf [concatC w0])) (lpOf Try.prog [soLp L O an' ao al ac ad fa bn' bo al bc bd fb]) 20 16 [.v (.one (.gs 1 an' 2 ao al ac)), .v (.one (.gs 2 bn' 2 bo al bc))] [⟨[.keep L O], 0⟩, ⟨[.frs an' fa ad], 24⟩, ⟨[.frs bn' fb bd], 24⟩]) _
      rw [sameF_tree]
      simp only [T.holds, true_and, and_true, and_self]
      refine ⟨fun h => by simp at h, fun _ => ⟨rfl, ⟨Nat.zero_le _, fun j hj => by have hj : j < 0 := hj; omega⟩, fun b => ⟨fun _ y => ?_, fun _ z => ?_⟩⟩⟩
      · have hq : pj ((fa.drop ao).take al) = pj ((fb.drop bo).take al) := by
          apply List.ext_getElem?
          intro j
          by_cases hj : j < al
          · rw [pj_cut_get hA hj, pj_cut_get hB hj]
            have := y.so.eq j hj
            rw [this.1, this.2]
          · rw [List.getElem?_eq_none (by rw [pj_length]; simp; omega), List.getElem?_eq_none (by rw [pj_length]; simp; omega)]
        refine ⟨_, _, hK, as_end [] ?_ (by kernel_rfl) (fun h => by cases h)⟩
        have hd : true = decide (pj ((fa.drop ao).take al) = pj ((fb.drop bo).take al)) := by simp [hq]
        repeat' (first | exact trivial | exact rfl | exact hd | (refine And.intro ?_ ?_))
      · have hq : pj ((fa.drop ao).take al) ≠ pj ((fb.drop bo).take al) := fun e => by
          obtain ⟨j, hj, hne⟩ := z.so.ne
          have := congrArg (fun l => l[j]?) e
          simp only [pj_cut_get hA hj, pj_cut_get hB hj, Option.some.injEq, Prod.mk.injEq] at this
          exact hne this
        refine ⟨_, _, hK, as_end [] ?_ (by kernel_rfl) (fun h => by cases h)⟩
        have hd : false = decide (pj ((fa.drop ao).take al) = pj ((fb.drop bo).take al)) := by simp [hq]
        repeat' (first | exact trivial | exact rfl | exact hd | (refine And.intro ?_ ?_))
    · refine ⟨noLoop, loops_none _ _, ?_⟩
      show T.holds (callT Try.prog w0 (flatT Try.prog) noCtr (preOr (preOf w0 tab2) (fpreOf [concatC w0])) (noLoop) 20 16 [.v (.one (.gs 1 an' 2 ao al ac)), .v (.one (.gs 2 bn' 2 bo bl bc))] [⟨[.keep L O], 0⟩, ⟨[.frs an' fa ad], 24⟩, ⟨[.frs bn' fb bd], 24⟩]) _
      rw [sameN_tree]
      refine T.br_t (by simp; omega) ?_
      have hq : pj ((fa.drop ao).take al) ≠ pj ((fb.drop bo).take bl) := fun e => by
        have := congrArg List.length e
        rw [pj_length, pj_length] at this
        simp at this
        omega
      refine ⟨_, _, hK, as_end [] ?_ (by kernel_rfl) (fun h => by cases h)⟩
      have hd : false = decide (pj ((fa.drop ao).take al) = pj ((fb.drop bo).take bl)) := by simp [hq]
      repeat' (first | exact trivial | exact rfl | exact hd | (refine And.intro ?_ ?_))
  · cases h0
end Go.Proofs.Ytmenafkmkcodlaa
