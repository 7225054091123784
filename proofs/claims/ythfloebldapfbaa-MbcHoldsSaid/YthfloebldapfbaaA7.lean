/-
  Walk of a statement of the map, by computing, with its rounds: the clock is to be held. Bytes are below 256, places below 65536; no other condition.
-/
import Derived.Test.YthfloebldapfbaaA4
namespace Go.Proofs.Ythfloebldapfbaa
open Go.RowKit sym
set_option linter.unusedVariables false
set_option linter.unusedSimpArgs false
set_option maxRecDepth 100000
def pokeCell (P X : Nat → Int) : Nat → Nat → Sc := fun i q => match q with
  | 0 => .int false .u16 (P i)
  | _ => .int false .u8 (X i)
def byteCell (X : Nat → Int) : Nat → Nat → Sc := fun i _ => .int false .u8 (X i)
theorem ok0 : Mb.Ok 1 0 255 := ⟨⟨by decide, by decide⟩, ⟨by decide, by decide⟩, ⟨by decide, by decide⟩⟩
structure l4P where
structure l4X where
  i : Int
  lst : Int
  on : Bool
  mode : Bool
  low : Int
  high : Int
  last : Int
def l4St (A : Option Addr) (X : Nat → Int) (len cap : Nat) (kd : Int) : l4P → l4X → ASt := fun ⟨⟩ ⟨i, lst, on, mode, low, high, last⟩ => ⟨slots (List.replicate 62 .any) [(1, .v (.one (.xs A (byteCell X) 1 len cap))), (5, .v (.one (.ptr 0 0))), (6, .v (.one (.ptr 1 0))), (7, .v (.one (.int false .u8 lst))), (23, .v (.one (.int false .i64 (len : Int)))), (24, .v (.one (.int false .i64 i)))], [⟨[.val (.string { data := #[] }), .int false .i64 (Mb.kindOf kd), .bool true false, .bool true false, .int false .i64 (Mb.banksOf 1), .int false .i64 (Mb.ramOf (Mb.kindOf kd) 2), .bool true false], 25⟩, ⟨[.int false .i64 (Mb.kindOf kd), .int false .i64 (Mb.banksOf 1), .int false .i64 (Mb.ramOf (Mb.kindOf kd) 2), .bool false on, .bool false mode, .int false .i64 low, .int false .i64 high, .int false .u8 last], 28⟩]⟩
def l4Fin (A : Option Addr) (X : Nat → Int) (len cap : Nat) (kd : Int) : l4P → l4X → ASt := fun ⟨⟩ ⟨i, lst, on, mode, low, high, last⟩ => ⟨slots (List.replicate 62 .any) [(1, .v (.one (.xs A (byteCell X) 1 len cap))), (5, .v (.one (.ptr 0 0))), (6, .v (.one (.ptr 1 0))), (7, .v (.one (.int false .u8 lst))), (23, .v (.one (.int false .i64 (len : Int)))), (24, .v (.one (.int false .i64 i)))], [⟨[.val (.string { data := #[] }), .int false .i64 (Mb.kindOf kd), .bool true false, .bool true false, .int false .i64 (Mb.banksOf 1), .int false .i64 (Mb.ramOf (Mb.kindOf kd) 2), .bool true false], 25⟩, ⟨[.int false .i64 (Mb.kindOf kd), .int false .i64 (Mb.banksOf 1), .int false .i64 (Mb.ramOf (Mb.kindOf kd) 2), .bool false on, .bool false mode, .int false .i64 low, .int false .i64 high, .int false .u8 last], 28⟩]⟩
def l4NxP : ASt → Option l4P := fun st_ => some ⟨⟩
def l4NxX : ASt → Option l4X := fun st_ => match gI st_ 24 with | none => none | some i => match gI st_ 7 with | none => none | some lst => match hB st_ 1 3 with | none => none | some on => match hB st_ 1 4 with | none => none | some mode => match hI st_ 1 5 with | none => none | some low => match hI st_ 1 6 with | none => none | some high => match hI st_ 1 7 with | none => none | some last => some ⟨i, lst, on, mode, low, high, last⟩
structure l4Inv (A : Option Addr) (X : Nat → Int) (len cap : Nat) (kd : Int) (p : l4P) (x : l4X) : Prop where
  i0 : 0 ≤ x.i
  i1 : x.i ≤ len
  lm : len ≤ 100
  ok : Mb.Ok x.low x.high x.last
  bl : Mb.B x.lst
  same : Mb.kindOf kd = 3 → x.last = x.lst
structure l4Post (A : Option Addr) (X : Nat → Int) (len cap : Nat) (kd : Int) (p : l4P) (x : l4X) : Prop where
  ok : Mb.Ok x.low x.high x.last
def l4Lp (A : Option Addr) (X : Nat → Int) (len cap : Nat) (kd : Int) : Lp := ⟨4, 0, fun s => match l4NxP s with
  | some p => match l4NxX s with
    | some x => some (loopT 0 2 (l4St A X len cap kd p) (l4Fin A X len cap kd p) (l4Inv A X len cap kd p) (l4Post A X len cap kd p) s x)
    | none => none
  | none => none⟩
theorem l4step_tree (w : World) (A : Option Addr) (X : Nat → Int) (len cap : Nat) (kd : Int) (i : Int) (lst : Int) (on : Bool) (mode : Bool) (low : Int) (high : Int) (last : Int) :
    roundT Try.prog w (flatT Try.prog) (ctrOf table2) (callT Try.prog w (flatT Try.prog) (ctrOf table2) (noLoop) 20) ((noLoop) 4) (roundOf (bodyAt Try.prog 4 0)) 0 (l4St A X len cap kd ⟨⟩) (l4Fin A X len cap kd ⟨⟩) l4NxX l4NxX ⟨i, lst, on, mode, low, high, last⟩ =
(.br (decide (i < (↑len : Int)))
 (.chk (sym.XOk w A (byteCell X) (1 : Nat) len ∧
  (0 : Int) ≤ i ∧ i < (↑len : Int) ∧ (0 : Nat) < (1 : Nat))
 (.chk (sym.XOk w A (byteCell X) (1 : Nat) len ∧
  i.toNat < len ∧ (1 : Nat) ≤ (1 : Nat))
 (.chk (Mb.W
    (IntKind.u16.wrap
      ((24576 : Int) + (IntKind.u16.wrap (IntKind.u16.wrap i * (37 : Int))).tmod (8192 : Int))) ∧
  Mb.B (X i.toNat) ∧ (0 : Int) ≤ low ∧ low < (512 : Int))
 (.br (Mb.kindOf kd == (3 : Int))
  (.br (lst == (0 : Int))
   (.chk (sym.XOk w A (byteCell X) (1 : Nat) len ∧
  (0 : Int) ≤ i ∧ i < (↑len : Int) ∧ (0 : Nat) < (1 : Nat))
   (.chk (sym.XOk w A (byteCell X) (1 : Nat) len ∧
  i.toNat < len ∧ (1 : Nat) ≤ (1 : Nat))
   (.br (!Mb.wHeld (Mb.kindOf kd)
      (IntKind.u16.wrap
        ((24576 : Int) + (IntKind.u16.wrap (IntKind.u16.wrap i * (37 : Int))).tmod (8192 : Int)))
      (X i.toNat) last ==
    (X i.toNat == (1 : Int)))
    (.fail "ret")
    (.chk (sym.XOk w A (byteCell X) (1 : Nat) len ∧
  (0 : Int) ≤ i ∧ i < (↑len : Int) ∧ (0 : Nat) < (1 : Nat))
    (.chk (sym.XOk w A (byteCell X) (1 : Nat) len ∧
  i.toNat < len ∧ (1 : Nat) ≤ (1 : Nat))
    (.chk (A = A ∧
  byteCell X = byteCell X ∧
    (1 : Nat) = (1 : Nat) ∧ len = len ∧ cap = cap)
    (.chk (IntKind.u8 = IntKind.u8 ∧ X i.toNat = X i.toNat)
    (.chk (IntKind.i64 = IntKind.i64 ∧ (↑len : Int) = (↑len : Int))
    (.chk (IntKind.i64 = IntKind.i64 ∧ IntKind.i64.wrap (i + (1 : Int)) = IntKind.i64.wrap (i + (1 : Int)))
    (.chk (Go.Value.string { data := #[] } = Go.Value.string { data := #[] })
    (.chk (IntKind.i64 = IntKind.i64 ∧ Mb.kindOf kd = Mb.kindOf kd)
    (.chk (false = false)
    (.chk (false = false)
    (.chk (IntKind.i64 = IntKind.i64 ∧
  Mb.banksOf (1 : Int) = Mb.banksOf (1 : Int))
    (.chk (IntKind.i64 = IntKind.i64 ∧
  Mb.ramOf (Mb.kindOf kd) (2 : Int) =
    Mb.ramOf (Mb.kindOf kd) (2 : Int))
    (.chk (false = false)
    (.chk (IntKind.i64 = IntKind.i64 ∧ Mb.kindOf kd = Mb.kindOf kd)
    (.chk (IntKind.i64 = IntKind.i64 ∧
  Mb.banksOf (1 : Int) = Mb.banksOf (1 : Int))
    (.chk (IntKind.i64 = IntKind.i64 ∧
  Mb.ramOf (Mb.kindOf kd) (2 : Int) =
    Mb.ramOf (Mb.kindOf kd) (2 : Int))
    (.chk (Mb.wOn (Mb.kindOf kd)
    (IntKind.u16.wrap ((24576 : Int) + (IntKind.u16.wrap (IntKind.u16.wrap i * (37 : Int))).tmod (8192 : Int)))
    (X i.toNat) on =
  Mb.wOn (Mb.kindOf kd)
    (IntKind.u16.wrap ((24576 : Int) + (IntKind.u16.wrap (IntKind.u16.wrap i * (37 : Int))).tmod (8192 : Int)))
    (X i.toNat) on)
    (.chk (Mb.wMode (Mb.kindOf kd)
    (IntKind.u16.wrap ((24576 : Int) + (IntKind.u16.wrap (IntKind.u16.wrap i * (37 : Int))).tmod (8192 : Int)))
    (X i.toNat) mode =
  Mb.wMode (Mb.kindOf kd)
    (IntKind.u16.wrap ((24576 : Int) + (IntKind.u16.wrap (IntKind.u16.wrap i * (37 : Int))).tmod (8192 : Int)))
    (X i.toNat) mode)
    (.chk (IntKind.i64 = IntKind.i64 ∧
  Mb.wLow (Mb.kindOf kd)
      (IntKind.u16.wrap
        ((24576 : Int) + (IntKind.u16.wrap (IntKind.u16.wrap i * (37 : Int))).tmod (8192 : Int)))
      (X i.toNat) low =
    Mb.wLow (Mb.kindOf kd)
      (IntKind.u16.wrap
        ((24576 : Int) + (IntKind.u16.wrap (IntKind.u16.wrap i * (37 : Int))).tmod (8192 : Int)))
      (X i.toNat) low)
    (.chk (IntKind.i64 = IntKind.i64 ∧
  Mb.wHigh (Mb.kindOf kd)
      (IntKind.u16.wrap
        ((24576 : Int) + (IntKind.u16.wrap (IntKind.u16.wrap i * (37 : Int))).tmod (8192 : Int)))
      (X i.toNat) high =
    Mb.wHigh (Mb.kindOf kd)
      (IntKind.u16.wrap
        ((24576 : Int) + (IntKind.u16.wrap (IntKind.u16.wrap i * (37 : Int))).tmod (8192 : Int)))
      (X i.toNat) high)
    (.chk (IntKind.u8 = IntKind.u8 ∧
  Mb.wLast (Mb.kindOf kd)
      (IntKind.u16.wrap
        ((24576 : Int) + (IntKind.u16.wrap (IntKind.u16.wrap i * (37 : Int))).tmod (8192 : Int)))
      (X i.toNat) last =
    Mb.wLast (Mb.kindOf kd)
      (IntKind.u16.wrap
        ((24576 : Int) + (IntKind.u16.wrap (IntKind.u16.wrap i * (37 : Int))).tmod (8192 : Int)))
      (X i.toNat) last)
    (.leaf (.inl ⟨IntKind.i64.wrap (i + (1 : Int)), X i.toNat, Mb.wOn (Mb.kindOf kd)
  (IntKind.u16.wrap ((24576 : Int) + (IntKind.u16.wrap (IntKind.u16.wrap i * (37 : Int))).tmod (8192 : Int)))
  (X i.toNat) on, Mb.wMode (Mb.kindOf kd)
  (IntKind.u16.wrap ((24576 : Int) + (IntKind.u16.wrap (IntKind.u16.wrap i * (37 : Int))).tmod (8192 : Int)))
  (X i.toNat) mode, Mb.wLow (Mb.kindOf kd)
  (IntKind.u16.wrap ((24576 : Int) + (IntKind.u16.wrap (IntKind.u16.wrap i * (37 : Int))).tmod (8192 : Int)))
  (X i.toNat) low, Mb.wHigh (Mb.kindOf kd)
  (IntKind.u16.wrap ((24576 : Int) + (IntKind.u16.wrap (IntKind.u16.wrap i * (37 : Int))).tmod (8192 : Int)))
  (X i.toNat) high, Mb.wLast (Mb.kindOf kd)
  (IntKind.u16.wrap ((24576 : Int) + (IntKind.u16.wrap (IntKind.u16.wrap i * (37 : Int))).tmod (8192 : Int)))
  (X i.toNat) last⟩))))))))))))))))))))))))))
   (.br (!Mb.wHeld (Mb.kindOf kd)
      (IntKind.u16.wrap
        ((24576 : Int) + (IntKind.u16.wrap (IntKind.u16.wrap i * (37 : Int))).tmod (8192 : Int)))
      (X i.toNat) last ==
    false)
    (.fail "ret")
    (.chk (sym.XOk w A (byteCell X) (1 : Nat) len ∧
  (0 : Int) ≤ i ∧ i < (↑len : Int) ∧ (0 : Nat) < (1 : Nat))
    (.chk (sym.XOk w A (byteCell X) (1 : Nat) len ∧
  i.toNat < len ∧ (1 : Nat) ≤ (1 : Nat))
    (.chk (A = A ∧
  byteCell X = byteCell X ∧
    (1 : Nat) = (1 : Nat) ∧ len = len ∧ cap = cap)
    (.chk (IntKind.u8 = IntKind.u8 ∧ X i.toNat = X i.toNat)
    (.chk (IntKind.i64 = IntKind.i64 ∧ (↑len : Int) = (↑len : Int))
    (.chk (IntKind.i64 = IntKind.i64 ∧ IntKind.i64.wrap (i + (1 : Int)) = IntKind.i64.wrap (i + (1 : Int)))
    (.chk (Go.Value.string { data := #[] } = Go.Value.string { data := #[] })
    (.chk (IntKind.i64 = IntKind.i64 ∧ Mb.kindOf kd = Mb.kindOf kd)
    (.chk (false = false)
    (.chk (false = false)
    (.chk (IntKind.i64 = IntKind.i64 ∧
  Mb.banksOf (1 : Int) = Mb.banksOf (1 : Int))
    (.chk (IntKind.i64 = IntKind.i64 ∧
  Mb.ramOf (Mb.kindOf kd) (2 : Int) =
    Mb.ramOf (Mb.kindOf kd) (2 : Int))
    (.chk (false = false)
    (.chk (IntKind.i64 = IntKind.i64 ∧ Mb.kindOf kd = Mb.kindOf kd)
    (.chk (IntKind.i64 = IntKind.i64 ∧
  Mb.banksOf (1 : Int) = Mb.banksOf (1 : Int))
    (.chk (IntKind.i64 = IntKind.i64 ∧
  Mb.ramOf (Mb.kindOf kd) (2 : Int) =
    Mb.ramOf (Mb.kindOf kd) (2 : Int))
    (.chk (Mb.wOn (Mb.kindOf kd)
    (IntKind.u16.wrap ((24576 : Int) + (IntKind.u16.wrap (IntKind.u16.wrap i * (37 : Int))).tmod (8192 : Int)))
    (X i.toNat) on =
  Mb.wOn (Mb.kindOf kd)
    (IntKind.u16.wrap ((24576 : Int) + (IntKind.u16.wrap (IntKind.u16.wrap i * (37 : Int))).tmod (8192 : Int)))
    (X i.toNat) on)
    (.chk (Mb.wMode (Mb.kindOf kd)
    (IntKind.u16.wrap ((24576 : Int) + (IntKind.u16.wrap (IntKind.u16.wrap i * (37 : Int))).tmod (8192 : Int)))
    (X i.toNat) mode =
  Mb.wMode (Mb.kindOf kd)
    (IntKind.u16.wrap ((24576 : Int) + (IntKind.u16.wrap (IntKind.u16.wrap i * (37 : Int))).tmod (8192 : Int)))
    (X i.toNat) mode)
    (.chk (IntKind.i64 = IntKind.i64 ∧
  Mb.wLow (Mb.kindOf kd)
      (IntKind.u16.wrap
        ((24576 : Int) + (IntKind.u16.wrap (IntKind.u16.wrap i * (37 : Int))).tmod (8192 : Int)))
      (X i.toNat) low =
    Mb.wLow (Mb.kindOf kd)
      (IntKind.u16.wrap
        ((24576 : Int) + (IntKind.u16.wrap (IntKind.u16.wrap i * (37 : Int))).tmod (8192 : Int)))
      (X i.toNat) low)
    (.chk (IntKind.i64 = IntKind.i64 ∧
  Mb.wHigh (Mb.kindOf kd)
      (IntKind.u16.wrap
        ((24576 : Int) + (IntKind.u16.wrap (IntKind.u16.wrap i * (37 : Int))).tmod (8192 : Int)))
      (X i.toNat) high =
    Mb.wHigh (Mb.kindOf kd)
      (IntKind.u16.wrap
        ((24576 : Int) + (IntKind.u16.wrap (IntKind.u16.wrap i * (37 : Int))).tmod (8192 : Int)))
      (X i.toNat) high)
    (.chk (IntKind.u8 = IntKind.u8 ∧
  Mb.wLast (Mb.kindOf kd)
      (IntKind.u16.wrap
        ((24576 : Int) + (IntKind.u16.wrap (IntKind.u16.wrap i * (37 : Int))).tmod (8192 : Int)))
      (X i.toNat) last =
    Mb.wLast (Mb.kindOf kd)
      (IntKind.u16.wrap
        ((24576 : Int) + (IntKind.u16.wrap (IntKind.u16.wrap i * (37 : Int))).tmod (8192 : Int)))
      (X i.toNat) last)
    (.leaf (.inl ⟨IntKind.i64.wrap (i + (1 : Int)), X i.toNat, Mb.wOn (Mb.kindOf kd)
  (IntKind.u16.wrap ((24576 : Int) + (IntKind.u16.wrap (IntKind.u16.wrap i * (37 : Int))).tmod (8192 : Int)))
  (X i.toNat) on, Mb.wMode (Mb.kindOf kd)
  (IntKind.u16.wrap ((24576 : Int) + (IntKind.u16.wrap (IntKind.u16.wrap i * (37 : Int))).tmod (8192 : Int)))
  (X i.toNat) mode, Mb.wLow (Mb.kindOf kd)
  (IntKind.u16.wrap ((24576 : Int) + (IntKind.u16.wrap (IntKind.u16.wrap i * (37 : Int))).tmod (8192 : Int)))
  (X i.toNat) low, Mb.wHigh (Mb.kindOf kd)
  (IntKind.u16.wrap ((24576 : Int) + (IntKind.u16.wrap (IntKind.u16.wrap i * (37 : Int))).tmod (8192 : Int)))
  (X i.toNat) high, Mb.wLast (Mb.kindOf kd)
  (IntKind.u16.wrap ((24576 : Int) + (IntKind.u16.wrap (IntKind.u16.wrap i * (37 : Int))).tmod (8192 : Int)))
  (X i.toNat) last⟩)))))))))))))))))))))))))
  (.br (!Mb.wHeld (Mb.kindOf kd)
      (IntKind.u16.wrap
        ((24576 : Int) + (IntKind.u16.wrap (IntKind.u16.wrap i * (37 : Int))).tmod (8192 : Int)))
      (X i.toNat) last ==
    false)
   (.fail "ret")
   (.chk (sym.XOk w A (byteCell X) (1 : Nat) len ∧
  (0 : Int) ≤ i ∧ i < (↑len : Int) ∧ (0 : Nat) < (1 : Nat))
   (.chk (sym.XOk w A (byteCell X) (1 : Nat) len ∧
  i.toNat < len ∧ (1 : Nat) ≤ (1 : Nat))
   (.chk (A = A ∧
  byteCell X = byteCell X ∧
    (1 : Nat) = (1 : Nat) ∧ len = len ∧ cap = cap)
   (.chk (IntKind.u8 = IntKind.u8 ∧ X i.toNat = X i.toNat)
   (.chk (IntKind.i64 = IntKind.i64 ∧ (↑len : Int) = (↑len : Int))
   (.chk (IntKind.i64 = IntKind.i64 ∧ IntKind.i64.wrap (i + (1 : Int)) = IntKind.i64.wrap (i + (1 : Int)))
   (.chk (Go.Value.string { data := #[] } = Go.Value.string { data := #[] })
   (.chk (IntKind.i64 = IntKind.i64 ∧ Mb.kindOf kd = Mb.kindOf kd)
   (.chk (false = false)
   (.chk (false = false)
   (.chk (IntKind.i64 = IntKind.i64 ∧
  Mb.banksOf (1 : Int) = Mb.banksOf (1 : Int))
   (.chk (IntKind.i64 = IntKind.i64 ∧
  Mb.ramOf (Mb.kindOf kd) (2 : Int) =
    Mb.ramOf (Mb.kindOf kd) (2 : Int))
   (.chk (false = false)
   (.chk (IntKind.i64 = IntKind.i64 ∧ Mb.kindOf kd = Mb.kindOf kd)
   (.chk (IntKind.i64 = IntKind.i64 ∧
  Mb.banksOf (1 : Int) = Mb.banksOf (1 : Int))
   (.chk (IntKind.i64 = IntKind.i64 ∧
  Mb.ramOf (Mb.kindOf kd) (2 : Int) =
    Mb.ramOf (Mb.kindOf kd) (2 : Int))
   (.chk (Mb.wOn (Mb.kindOf kd)
    (IntKind.u16.wrap ((24576 : Int) + (IntKind.u16.wrap (IntKind.u16.wrap i * (37 : Int))).tmod (8192 : Int)))
    (X i.toNat) on =
  Mb.wOn (Mb.kindOf kd)
    (IntKind.u16.wrap ((24576 : Int) + (IntKind.u16.wrap (IntKind.u16.wrap i * (37 : Int))).tmod (8192 : Int)))
    (X i.toNat) on)
   (.chk (Mb.wMode (Mb.kindOf kd)
    (IntKind.u16.wrap ((24576 : Int) + (IntKind.u16.wrap (IntKind.u16.wrap i * (37 : Int))).tmod (8192 : Int)))
    (X i.toNat) mode =
  Mb.wMode (Mb.kindOf kd)
    (IntKind.u16.wrap ((24576 : Int) + (IntKind.u16.wrap (IntKind.u16.wrap i * (37 : Int))).tmod (8192 : Int)))
    (X i.toNat) mode)
   (.chk (IntKind.i64 = IntKind.i64 ∧
  Mb.wLow (Mb.kindOf kd)
      (IntKind.u16.wrap
        ((24576 : Int) + (IntKind.u16.wrap (IntKind.u16.wrap i * (37 : Int))).tmod (8192 : Int)))
      (X i.toNat) low =
    Mb.wLow (Mb.kindOf kd)
      (IntKind.u16.wrap
        ((24576 : Int) + (IntKind.u16.wrap (IntKind.u16.wrap i * (37 : Int))).tmod (8192 : Int)))
      (X i.toNat) low)
   (.chk (IntKind.i64 = IntKind.i64 ∧
  Mb.wHigh (Mb.kindOf kd)
      (IntKind.u16.wrap
        ((24576 : Int) + (IntKind.u16.wrap (IntKind.u16.wrap i * (37 : Int))).tmod (8192 : Int)))
      (X i.toNat) high =
    Mb.wHigh (Mb.kindOf kd)
      (IntKind.u16.wrap
        ((24576 : Int) + (IntKind.u16.wrap (IntKind.u16.wrap i * (37 : Int))).tmod (8192 : Int)))
      (X i.toNat) high)
   (.chk (IntKind.u8 = IntKind.u8 ∧
  Mb.wLast (Mb.kindOf kd)
      (IntKind.u16.wrap
        ((24576 : Int) + (IntKind.u16.wrap (IntKind.u16.wrap i * (37 : Int))).tmod (8192 : Int)))
      (X i.toNat) last =
    Mb.wLast (Mb.kindOf kd)
      (IntKind.u16.wrap
        ((24576 : Int) + (IntKind.u16.wrap (IntKind.u16.wrap i * (37 : Int))).tmod (8192 : Int)))
      (X i.toNat) last)
   (.leaf (.inl ⟨IntKind.i64.wrap (i + (1 : Int)), X i.toNat, Mb.wOn (Mb.kindOf kd)
  (IntKind.u16.wrap ((24576 : Int) + (IntKind.u16.wrap (IntKind.u16.wrap i * (37 : Int))).tmod (8192 : Int)))
  (X i.toNat) on, Mb.wMode (Mb.kindOf kd)
  (IntKind.u16.wrap ((24576 : Int) + (IntKind.u16.wrap (IntKind.u16.wrap i * (37 : Int))).tmod (8192 : Int)))
  (X i.toNat) mode, Mb.wLow (Mb.kindOf kd)
  (IntKind.u16.wrap ((24576 : Int) + (IntKind.u16.wrap (IntKind.u16.wrap i * (37 : Int))).tmod (8192 : Int)))
  (X i.toNat) low, Mb.wHigh (Mb.kindOf kd)
  (IntKind.u16.wrap ((24576 : Int) + (IntKind.u16.wrap (IntKind.u16.wrap i * (37 : Int))).tmod (8192 : Int)))
  (X i.toNat) high, Mb.wLast (Mb.kindOf kd)
  (IntKind.u16.wrap ((24576 : Int) + (IntKind.u16.wrap (IntKind.u16.wrap i * (37 : Int))).tmod (8192 : Int)))
  (X i.toNat) last⟩))))))))))))))))))))))))))))
 (.chk (A = A ∧
  byteCell X = byteCell X ∧
    (1 : Nat) = (1 : Nat) ∧ len = len ∧ cap = cap)
 (.chk (IntKind.u8 = IntKind.u8 ∧ lst = lst)
 (.chk (IntKind.i64 = IntKind.i64 ∧ (↑len : Int) = (↑len : Int))
 (.chk (IntKind.i64 = IntKind.i64 ∧ i = i)
 (.chk (Go.Value.string { data := #[] } = Go.Value.string { data := #[] })
 (.chk (IntKind.i64 = IntKind.i64 ∧ Mb.kindOf kd = Mb.kindOf kd)
 (.chk (false = false)
 (.chk (false = false)
 (.chk (IntKind.i64 = IntKind.i64 ∧
  Mb.banksOf (1 : Int) = Mb.banksOf (1 : Int))
 (.chk (IntKind.i64 = IntKind.i64 ∧
  Mb.ramOf (Mb.kindOf kd) (2 : Int) =
    Mb.ramOf (Mb.kindOf kd) (2 : Int))
 (.chk (false = false)
 (.chk (IntKind.i64 = IntKind.i64 ∧ Mb.kindOf kd = Mb.kindOf kd)
 (.chk (IntKind.i64 = IntKind.i64 ∧
  Mb.banksOf (1 : Int) = Mb.banksOf (1 : Int))
 (.chk (IntKind.i64 = IntKind.i64 ∧
  Mb.ramOf (Mb.kindOf kd) (2 : Int) =
    Mb.ramOf (Mb.kindOf kd) (2 : Int))
 (.chk (on = on)
 (.chk (mode = mode)
 (.chk (IntKind.i64 = IntKind.i64 ∧ low = low)
 (.chk (IntKind.i64 = IntKind.i64 ∧ high = high)
 (.chk (IntKind.u8 = IntKind.u8 ∧ last = last)
 (.leaf (.inr ⟨i, lst, on, mode, low, high, last⟩)))))))))))))))))))))) := by kernel_rfl
theorem holds_tree (w : World) (A : Option Addr) (X : Nat → Int) (len cap : Nat) (kd : Int) :
    callV Try.prog w (flatT Try.prog) (ctrOf table2) (lpOf Try.prog [l4Lp A X len cap kd]) 20 4 [.v (.one (.int false .u8 kd)), .v (.one (.xs A (byteCell X) 1 len cap))] =
(.chk (True)
(.br (decide ((↑len : Int) > (100 : Int)))
 (.chk (True)
 (.leaf (.v (.one (.bool true true)))))
 (.chk (Mb.B kd ∧
  Mb.B (1 : Int) ∧ Mb.B (2 : Int))
 (.chk (True)
 (.chk (sym.bodyAt Go.Proofs.Try.prog (4 : Go.FuncId) (0 : Nat) = sym.bodyAt Go.Proofs.Try.prog (4 : Go.FuncId) (0 : Nat))
 (.chk (A = A ∧
  byteCell X = byteCell X ∧
    (1 : Nat) = (1 : Nat) ∧ len = len ∧ cap = cap)
 (.chk (IntKind.u8 = IntKind.u8 ∧ (255 : Int) = (255 : Int))
 (.chk (IntKind.i64 = IntKind.i64 ∧ (↑len : Int) = (↑len : Int))
 (.chk (IntKind.i64 = IntKind.i64 ∧ (0 : Int) = (0 : Int))
 (.chk (Go.Value.string { data := #[] } = Go.Value.string { data := #[] })
 (.chk (IntKind.i64 = IntKind.i64 ∧ Mb.kindOf kd = Mb.kindOf kd)
 (.chk (false = false)
 (.chk (false = false)
 (.chk (IntKind.i64 = IntKind.i64 ∧
  Mb.banksOf (1 : Int) = Mb.banksOf (1 : Int))
 (.chk (IntKind.i64 = IntKind.i64 ∧
  Mb.ramOf (Mb.kindOf kd) (2 : Int) =
    Mb.ramOf (Mb.kindOf kd) (2 : Int))
 (.chk (false = false)
 (.chk (IntKind.i64 = IntKind.i64 ∧ Mb.kindOf kd = Mb.kindOf kd)
 (.chk (IntKind.i64 = IntKind.i64 ∧
  Mb.banksOf (1 : Int) = Mb.banksOf (1 : Int))
 (.chk (IntKind.i64 = IntKind.i64 ∧
  Mb.ramOf (Mb.kindOf kd) (2 : Int) =
    Mb.ramOf (Mb.kindOf kd) (2 : Int))
 (.chk ((Mb.kindOf kd == (0 : Int)) = (Mb.kindOf kd == (0 : Int)))
 (.chk (false = false)
 (.chk (IntKind.i64 = IntKind.i64 ∧ (1 : Int) = (1 : Int))
 (.chk (IntKind.i64 = IntKind.i64 ∧ (0 : Int) = (0 : Int))
 (.chk (IntKind.u8 = IntKind.u8 ∧ (255 : Int) = (255 : Int))
 (.chk (l4Inv A X len cap kd { }
  { i := (0 : Int), lst := (255 : Int), on := Mb.kindOf kd == (0 : Int), mode := false,
    low := (1 : Int), high := (0 : Int), last := (255 : Int) })
 (.all fun x : sym.Got l4X (l4Post A X len cap kd { }) =>
  (.leaf (.v (.one (.bool true true)))))))))))))))))))))))))))))) := by kernel_rfl
theorem pl0 (i : Int) : Mb.W (IntKind.u16.wrap ((24576 : Int) + (IntKind.u16.wrap (IntKind.u16.wrap i * (37 : Int))).tmod (8192 : Int))) ∧ (IntKind.u16.wrap ((24576 : Int) + (IntKind.u16.wrap (IntKind.u16.wrap i * (37 : Int))).tmod (8192 : Int))) / 8192 % 4 = 3 := by
  rw [Mb.wu16, Mb.wu16, Mb.wu16, Int.tmod_eq_emod_of_nonneg (by omega)]
  unfold Mb.W
  generalize hq : i % 65536 * 37 % 65536 % 8192 = q
  have h1 : 0 ≤ q ∧ q < 8192 := by omega
  clear hq
  have h2 : (24576 + q) % 65536 = 24576 + q := by omega
  rw [h2]
  omega
theorem held_ok {k a x lst last : Int} (pe : a / 8192 % 4 = 3) (same : k = 3 → last = lst) (hne : (!Mb.wHeld k a x last == (k == 3 && lst == 0 && x == 1)) = true) : False := by
  unfold Mb.wHeld at hne
  by_cases h : k = 3
  · rw [same h] at hne
    by_cases h2 : lst = 0 <;> by_cases h3 : x = 1 <;> simp [h, h2, h3, pe] at hne
  · simp [h] at hne
def l4Mu (A : Option Addr) (X : Nat → Int) (len cap : Nat) (kd : Int) (p : l4P) (x : l4X) : Nat := ((len : Int) - x.i).toNat
theorem l4_step (w : World) (A : Option Addr) (X : Nat → Int) (len cap : Nat) (kd : Int) (p : l4P) (x : l4X) (hX : XOk w A (byteCell X) 1 len) (hB : ∀ i, i < len → Mb.B (X i)) (h : l4Inv A X len cap kd p x) : Hid (roundT Try.prog w (flatT Try.prog) (ctrOf table2) (callT Try.prog w (flatT Try.prog) (ctrOf table2) (noLoop) 20) ((noLoop) 4) (roundOf (bodyAt Try.prog 4 0)) 0 (l4St A X len cap kd p) (l4Fin A X len cap kd p) l4NxX l4NxX x) (Kept (l4Inv A X len cap kd p) (l4Post A X len cap kd p) (l4Mu A X len cap kd p) x) := by
  obtain ⟨⟩ := p
  obtain ⟨i, lst, on, mode, low, high, last⟩ := x
  constructor
  rw [l4step_tree]
  simp only [T.holds, Kept, l4Mu, and_self, true_and, and_true]
  try simp only [beq_self_eq_true, bne_self_eq_false, Bool.and_true, Bool.true_and, Bool.and_self, Bool.not_true, Bool.not_false, Bool.false_eq_true, Bool.true_eq_false, false_implies, forall_const, and_self, true_and, and_true, if_true, if_false, reduceIte]
  obtain ⟨h1, h2, hl, hk, bl, same⟩ := h
  simp only at h1 h2 hl hk bl same
  have next : i < (len : Int) → IntKind.i64.wrap (i + 1) = i + 1 := fun hi => Mb.wi64 _ (by omega) (by omega)
  have mu : i < (len : Int) → ((len : Int) - (i + 1)).toNat < ((len : Int) - i).toNat := fun hi => by omega
  refine ⟨fun h => ?_, fun h => ⟨hk⟩⟩
  have hi : i < (len : Int) := by simpa using h
  have hx1 : XOk w A (byteCell X) 1 len ∧ 0 ≤ i ∧ i < (len : Int) ∧ 0 < 1 := ⟨hX, h1, hi, by decide⟩
  have hx3 : XOk w A (byteCell X) 1 len ∧ i.toNat < len ∧ 1 ≤ 1 := ⟨hX, by omega, by decide⟩
  have bX := hB i.toNat (by omega)
  obtain ⟨pw, pe⟩ := pl0 i
  rw [next hi]
  generalize (IntKind.u16.wrap ((24576 : Int) + (IntKind.u16.wrap (IntKind.u16.wrap i * (37 : Int))).tmod (8192 : Int))) = a at pw pe ⊢
  have ask : Mb.W a ∧ Mb.B (X i.toNat) ∧ 0 ≤ low ∧ low < 512 := ⟨pw, bX, hk.low⟩
  have hk' := Mb.w_ok (k := Mb.kindOf kd) (a := a) bX hk
  have inv : l4Inv A X len cap kd {} ⟨i + 1, X i.toNat, Mb.wOn (Mb.kindOf kd) a (X i.toNat) on, Mb.wMode (Mb.kindOf kd) a (X i.toNat) mode, Mb.wLow (Mb.kindOf kd) a (X i.toNat) low, Mb.wHigh (Mb.kindOf kd) a (X i.toNat) high, Mb.wLast (Mb.kindOf kd) a (X i.toNat) last⟩ := ⟨by show 0 ≤ i + 1; omega, by show i + 1 ≤ (len : Int); omega, hl, hk', bX, fun e => by show Mb.wLast _ _ _ _ = _; simp [Mb.wLast, e, pe]⟩
  have fin := @held_ok (Mb.kindOf kd) a (X i.toNat) lst last pe same
  repeat' first
    | exact hx1 | exact hx3 | exact ask | exact inv | exact mu hi
    | refine And.intro ?_ ?_
    | intro hh
  all_goals
    exfalso
    apply fin
    simp_all only [Bool.true_and, Bool.false_and, Bool.and_true, Bool.and_false]
theorem l4Lp_ok (w : World) (A : Option Addr) (X : Nat → Int) (len cap : Nat) (kd : Int) (hX : XOk w A (byteCell X) 1 len) (hB : ∀ i, i < len → Mb.B (X i)) : (l4Lp A X len cap kd).ok Try.prog w := by
  intro s t h
  unfold l4Lp at h
  simp only at h
  split at h
  · rename_i p _
    split at h
    · rename_i x _
      cases h
      exact loop_ok base2 (table2_ok w) (callT_ok base2.mixed base2.names base2.eqs (table2_ok w).ok (table2_ok w).there (loops_none _ _) 20) ((loops_none _ _) 4) (c := roundOf (bodyAt Try.prog 4 0)) (by kernel_rfl) (id := 0) (n := 2) (st := l4St A X len cap kd p) (fin := l4Fin A X len cap kd p) (inv := l4Inv A X len cap kd p) (post := l4Post A X len cap kd p) (nx := l4NxX) (fx := l4NxX) (l4Mu A X len cap kd p) (fun x => by kernel_rfl) (fun y => by kernel_rfl) (fun x hx => l4_step w A X len cap kd p x hX hB hx) s x
    · cases h
  · cases h
set_option maxHeartbeats 4000000 in
theorem holds_walk (w : World) (A : Option Addr) (X : Nat → Int) (len cap : Nat) (kd : Int) (hX : XOk w A (byteCell X) 1 len) (hB : ∀ i, i < len → Mb.B (X i)) (bkd : Mb.B kd) : Calls Try.prog 4 #[.int .u8 kd, .slice A len cap] w fun e w' => e = .returned (.bool true) ∧ Below w.heap.size w w' := by
  have hl : LcsOk Try.prog w (lpOf Try.prog [l4Lp A X len cap kd]) := lps_ok fun l hl => by
    simp only [List.mem_cons, List.not_mem_nil, or_false] at hl
    subst hl
    exact l4Lp_ok w A X len cap kd hX hB
  refine val_eq base2 (table2_ok w) hl (holds_tree w A X len cap kd) rfl ?_
  simp only [T.holds, and_self, true_and, and_true]
  refine ⟨fun _ => ⟨rfl, rfl⟩, fun h => ⟨⟨bkd, by decide, by decide⟩, ⟨by show (0:Int) ≤ 0; omega, by show (0:Int) ≤ (len : Int); omega, by simp at h; omega, ok0, ⟨by show (0:Int) ≤ 255; decide, by show (255:Int) < 256; decide⟩, fun _ => rfl⟩, fun y => ⟨rfl, rfl⟩⟩⟩
end Go.Proofs.Ythfloebldapfbaa
