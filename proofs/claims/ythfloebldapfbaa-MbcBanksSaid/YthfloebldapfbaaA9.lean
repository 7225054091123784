/-
  Walk of a statement of the map, by computing, with its rounds: memory is seen where it was switched on. Bytes are below 256, places below 65536; no other condition.
-/
import Derived.Test.YthfloebldapfbaaA4
namespace Go.Proofs.Ythfloebldapfbaa
open Go.RowKit sym
set_option linter.unusedVariables false
set_option linter.unusedSimpArgs false
set_option maxRecDepth 100000
def pokeCell (P X : Nat → Int) : Nat → Nat → Sc := fun i q => match q with
  | 0 => .int false .u16 (P i)
  | _ => .int false .u8 (X i)
def byteCell (X : Nat → Int) : Nat → Nat → Sc := fun i _ => .int false .u8 (X i)
theorem ok0 : Mb.Ok 1 0 255 := ⟨⟨by decide, by decide⟩, ⟨by decide, by decide⟩, ⟨by decide, by decide⟩⟩
structure l8P where
structure l8X where
  i : Int
  on : Bool
  mode : Bool
  low : Int
  high : Int
  last : Int
def l8St (A : Option Addr) (P X : Nat → Int) (len cap : Nat) (kd rm xx : Int) : l8P → l8X → ASt := fun ⟨⟩ ⟨i, on, mode, low, high, last⟩ => ⟨slots (List.replicate 124 .any) [(2, .v (.one (.xs A (pokeCell P X) 2 len cap))), (3, .v (.one (.int false .u8 xx))), (9, .v (.one (.ptr 0 0))), (10, .v (.one (.ptr 1 0))), (33, .v (.one (.int false .i64 (len : Int)))), (34, .v (.one (.int false .i64 i)))], [⟨[.val (.string { data := #[] }), .int false .i64 (Mb.kindOf kd), .bool true false, .bool true false, .int false .i64 (Mb.banksOf 2), .int false .i64 (Mb.ramOf (Mb.kindOf kd) rm), .bool true false], 25⟩, ⟨[.int false .i64 (Mb.kindOf kd), .int false .i64 (Mb.banksOf 2), .int false .i64 (Mb.ramOf (Mb.kindOf kd) rm), .bool false on, .bool false mode, .int false .i64 low, .int false .i64 high, .int false .u8 last], 28⟩]⟩
def l8Fin (A : Option Addr) (P X : Nat → Int) (len cap : Nat) (kd rm xx : Int) : l8P → l8X → ASt := fun ⟨⟩ ⟨i, on, mode, low, high, last⟩ => ⟨slots (List.replicate 124 .any) [(2, .v (.one (.xs A (pokeCell P X) 2 len cap))), (3, .v (.one (.int false .u8 xx))), (9, .v (.one (.ptr 0 0))), (10, .v (.one (.ptr 1 0))), (33, .v (.one (.int false .i64 (len : Int)))), (34, .v (.one (.int false .i64 i)))], [⟨[.val (.string { data := #[] }), .int false .i64 (Mb.kindOf kd), .bool true false, .bool true false, .int false .i64 (Mb.banksOf 2), .int false .i64 (Mb.ramOf (Mb.kindOf kd) rm), .bool true false], 25⟩, ⟨[.int false .i64 (Mb.kindOf kd), .int false .i64 (Mb.banksOf 2), .int false .i64 (Mb.ramOf (Mb.kindOf kd) rm), .bool false on, .bool false mode, .int false .i64 low, .int false .i64 high, .int false .u8 last], 28⟩]⟩
def l8NxP : ASt → Option l8P := fun st_ => some ⟨⟩
def l8NxX : ASt → Option l8X := fun st_ => match gI st_ 34 with | none => none | some i => match hB st_ 1 3 with | none => none | some on => match hB st_ 1 4 with | none => none | some mode => match hI st_ 1 5 with | none => none | some low => match hI st_ 1 6 with | none => none | some high => match hI st_ 1 7 with | none => none | some last => some ⟨i, on, mode, low, high, last⟩
structure l8Inv (A : Option Addr) (P X : Nat → Int) (len cap : Nat) (kd rm xx : Int) (p : l8P) (x : l8X) : Prop where
  i0 : 0 ≤ x.i
  i1 : x.i ≤ len
  lm : len ≤ 100
  ok : Mb.Ok x.low x.high x.last
  zero : Mb.kindOf kd = 0 → x.on = true
structure l8Post (A : Option Addr) (P X : Nat → Int) (len cap : Nat) (kd rm xx : Int) (p : l8P) (x : l8X) : Prop where
  ok : Mb.Ok x.low x.high x.last
  zero : Mb.kindOf kd = 0 → x.on = true
def l8Lp (A : Option Addr) (P X : Nat → Int) (len cap : Nat) (kd rm xx : Int) : Lp := ⟨8, 0, fun s => match l8NxP s with
  | some p => match l8NxX s with
    | some x => some (loopT 0 2 (l8St A P X len cap kd rm xx p) (l8Fin A P X len cap kd rm xx p) (l8Inv A P X len cap kd rm xx p) (l8Post A P X len cap kd rm xx p) s x)
    | none => none
  | none => none⟩
theorem l8step_tree (w : World) (A : Option Addr) (P X : Nat → Int) (len cap : Nat) (kd rm xx : Int) (i : Int) (on : Bool) (mode : Bool) (low : Int) (high : Int) (last : Int) :
    roundT Try.prog w (flatT Try.prog) (ctrOf table2) (callT Try.prog w (flatT Try.prog) (ctrOf table2) (noLoop) 20) ((noLoop) 8) (roundOf (bodyAt Try.prog 8 0)) 0 (l8St A P X len cap kd rm xx ⟨⟩) (l8Fin A P X len cap kd rm xx ⟨⟩) l8NxX l8NxX ⟨i, on, mode, low, high, last⟩ =
(.br (decide (i < (↑len : Int)))
 (.chk (sym.XOk w A (pokeCell P X) (2 : Nat) len ∧
  (0 : Int) ≤ i ∧ i < (↑len : Int) ∧ (0 : Nat) < (2 : Nat))
 (.chk (sym.XOk w A (pokeCell P X) (2 : Nat) len ∧
  (0 : Nat) < len ∧ (0 : Nat) < (2 : Nat))
 (.chk (sym.XOk w A (pokeCell P X) (2 : Nat) len ∧
  i.toNat < len ∧ (1 : Nat) ≤ (2 : Nat))
 (.chk (sym.XOk w A (pokeCell P X) (2 : Nat) len ∧
  (0 : Int) ≤ i ∧ i < (↑len : Int) ∧ (0 : Nat) < (2 : Nat))
 (.chk (sym.XOk w A (pokeCell P X) (2 : Nat) len ∧
  (0 : Nat) < len ∧ (0 : Nat) < (2 : Nat))
 (.chk (sym.XOk w A (pokeCell P X) (2 : Nat) len ∧
  i.toNat < len ∧ (2 : Nat) ≤ (2 : Nat))
 (.chk (Mb.W (P i.toNat) ∧
  Mb.B (X i.toNat) ∧ (0 : Int) ≤ low ∧ low < (512 : Int))
 (.chk (A = A ∧
  pokeCell P X = pokeCell P X ∧
    (2 : Nat) = (2 : Nat) ∧ len = len ∧ cap = cap)
 (.chk (IntKind.u8 = IntKind.u8 ∧ xx = xx)
 (.chk (IntKind.i64 = IntKind.i64 ∧ (↑len : Int) = (↑len : Int))
 (.chk (IntKind.i64 = IntKind.i64 ∧ IntKind.i64.wrap (i + (1 : Int)) = IntKind.i64.wrap (i + (1 : Int)))
 (.chk (Go.Value.string { data := #[] } = Go.Value.string { data := #[] })
 (.chk (IntKind.i64 = IntKind.i64 ∧ Mb.kindOf kd = Mb.kindOf kd)
 (.chk (false = false)
 (.chk (false = false)
 (.chk (IntKind.i64 = IntKind.i64 ∧
  Mb.banksOf (2 : Int) = Mb.banksOf (2 : Int))
 (.chk (IntKind.i64 = IntKind.i64 ∧
  Mb.ramOf (Mb.kindOf kd) rm =
    Mb.ramOf (Mb.kindOf kd) rm)
 (.chk (false = false)
 (.chk (IntKind.i64 = IntKind.i64 ∧ Mb.kindOf kd = Mb.kindOf kd)
 (.chk (IntKind.i64 = IntKind.i64 ∧
  Mb.banksOf (2 : Int) = Mb.banksOf (2 : Int))
 (.chk (IntKind.i64 = IntKind.i64 ∧
  Mb.ramOf (Mb.kindOf kd) rm =
    Mb.ramOf (Mb.kindOf kd) rm)
 (.chk (Mb.wOn (Mb.kindOf kd) (P i.toNat) (X i.toNat) on =
  Mb.wOn (Mb.kindOf kd) (P i.toNat) (X i.toNat) on)
 (.chk (Mb.wMode (Mb.kindOf kd) (P i.toNat) (X i.toNat) mode =
  Mb.wMode (Mb.kindOf kd) (P i.toNat) (X i.toNat) mode)
 (.chk (IntKind.i64 = IntKind.i64 ∧
  Mb.wLow (Mb.kindOf kd) (P i.toNat) (X i.toNat) low =
    Mb.wLow (Mb.kindOf kd) (P i.toNat) (X i.toNat) low)
 (.chk (IntKind.i64 = IntKind.i64 ∧
  Mb.wHigh (Mb.kindOf kd) (P i.toNat) (X i.toNat) high =
    Mb.wHigh (Mb.kindOf kd) (P i.toNat) (X i.toNat) high)
 (.chk (IntKind.u8 = IntKind.u8 ∧
  Mb.wLast (Mb.kindOf kd) (P i.toNat) (X i.toNat) last =
    Mb.wLast (Mb.kindOf kd) (P i.toNat) (X i.toNat) last)
 (.leaf (.inl ⟨IntKind.i64.wrap (i + (1 : Int)), Mb.wOn (Mb.kindOf kd) (P i.toNat) (X i.toNat) on, Mb.wMode (Mb.kindOf kd) (P i.toNat) (X i.toNat) mode, Mb.wLow (Mb.kindOf kd) (P i.toNat) (X i.toNat) low, Mb.wHigh (Mb.kindOf kd) (P i.toNat) (X i.toNat) high, Mb.wLast (Mb.kindOf kd) (P i.toNat) (X i.toNat) last⟩))))))))))))))))))))))))))))
 (.chk (A = A ∧
  pokeCell P X = pokeCell P X ∧
    (2 : Nat) = (2 : Nat) ∧ len = len ∧ cap = cap)
 (.chk (IntKind.u8 = IntKind.u8 ∧ xx = xx)
 (.chk (IntKind.i64 = IntKind.i64 ∧ (↑len : Int) = (↑len : Int))
 (.chk (IntKind.i64 = IntKind.i64 ∧ i = i)
 (.chk (Go.Value.string { data := #[] } = Go.Value.string { data := #[] })
 (.chk (IntKind.i64 = IntKind.i64 ∧ Mb.kindOf kd = Mb.kindOf kd)
 (.chk (false = false)
 (.chk (false = false)
 (.chk (IntKind.i64 = IntKind.i64 ∧
  Mb.banksOf (2 : Int) = Mb.banksOf (2 : Int))
 (.chk (IntKind.i64 = IntKind.i64 ∧
  Mb.ramOf (Mb.kindOf kd) rm =
    Mb.ramOf (Mb.kindOf kd) rm)
 (.chk (false = false)
 (.chk (IntKind.i64 = IntKind.i64 ∧ Mb.kindOf kd = Mb.kindOf kd)
 (.chk (IntKind.i64 = IntKind.i64 ∧
  Mb.banksOf (2 : Int) = Mb.banksOf (2 : Int))
 (.chk (IntKind.i64 = IntKind.i64 ∧
  Mb.ramOf (Mb.kindOf kd) rm =
    Mb.ramOf (Mb.kindOf kd) rm)
 (.chk (on = on)
 (.chk (mode = mode)
 (.chk (IntKind.i64 = IntKind.i64 ∧ low = low)
 (.chk (IntKind.i64 = IntKind.i64 ∧ high = high)
 (.chk (IntKind.u8 = IntKind.u8 ∧ last = last)
 (.leaf (.inr ⟨i, on, mode, low, high, last⟩)))))))))))))))))))))) := by kernel_rfl
theorem off_tree (w : World) (A : Option Addr) (P X : Nat → Int) (len cap : Nat) (kd rm xx : Int) :
    callV Try.prog w (flatT Try.prog) (ctrOf table2) (lpOf Try.prog [l8Lp A P X len cap kd rm xx]) 20 8 [.v (.one (.int false .u8 kd)), .v (.one (.int false .u8 rm)), .v (.one (.xs A (pokeCell P X) 2 len cap)), .v (.one (.int false .u8 xx))] =
(.chk (True)
(.br (decide ((↑len : Int) > (100 : Int)))
 (.chk (True)
 (.leaf (.v (.one (.bool true true)))))
 (.chk (Mb.B kd ∧ Mb.B (2 : Int) ∧ Mb.B rm)
 (.chk (True)
 (.chk (sym.bodyAt Go.Proofs.Try.prog (8 : Go.FuncId) (0 : Nat) = sym.bodyAt Go.Proofs.Try.prog (8 : Go.FuncId) (0 : Nat))
 (.chk (A = A ∧
  pokeCell P X = pokeCell P X ∧
    (2 : Nat) = (2 : Nat) ∧ len = len ∧ cap = cap)
 (.chk (IntKind.u8 = IntKind.u8 ∧ xx = xx)
 (.chk (IntKind.i64 = IntKind.i64 ∧ (↑len : Int) = (↑len : Int))
 (.chk (IntKind.i64 = IntKind.i64 ∧ (0 : Int) = (0 : Int))
 (.chk (Go.Value.string { data := #[] } = Go.Value.string { data := #[] })
 (.chk (IntKind.i64 = IntKind.i64 ∧ Mb.kindOf kd = Mb.kindOf kd)
 (.chk (false = false)
 (.chk (false = false)
 (.chk (IntKind.i64 = IntKind.i64 ∧
  Mb.banksOf (2 : Int) = Mb.banksOf (2 : Int))
 (.chk (IntKind.i64 = IntKind.i64 ∧
  Mb.ramOf (Mb.kindOf kd) rm =
    Mb.ramOf (Mb.kindOf kd) rm)
 (.chk (false = false)
 (.chk (IntKind.i64 = IntKind.i64 ∧ Mb.kindOf kd = Mb.kindOf kd)
 (.chk (IntKind.i64 = IntKind.i64 ∧
  Mb.banksOf (2 : Int) = Mb.banksOf (2 : Int))
 (.chk (IntKind.i64 = IntKind.i64 ∧
  Mb.ramOf (Mb.kindOf kd) rm =
    Mb.ramOf (Mb.kindOf kd) rm)
 (.chk ((Mb.kindOf kd == (0 : Int)) = (Mb.kindOf kd == (0 : Int)))
 (.chk (false = false)
 (.chk (IntKind.i64 = IntKind.i64 ∧ (1 : Int) = (1 : Int))
 (.chk (IntKind.i64 = IntKind.i64 ∧ (0 : Int) = (0 : Int))
 (.chk (IntKind.u8 = IntKind.u8 ∧ (255 : Int) = (255 : Int))
 (.chk (l8Inv A P X len cap kd rm xx { }
  { i := (0 : Int), on := Mb.kindOf kd == (0 : Int), mode := false, low := (1 : Int),
    high := (0 : Int), last := (255 : Int) })
 (.all fun x : sym.Got l8X
  (l8Post A P X len cap kd rm xx { }) =>
  (.br (Mb.kindOf kd == (4 : Int))
   (.chk (Mb.W (40960 : Int) ∧
  ((0 : Int) ≤ x.1.4 ∧ x.1.4 < (512 : Int)) ∧ (0 : Int) ≤ x.1.5 ∧ x.1.5 < (16 : Int))
   (.leaf (.v (.one (.bool false (!Mb.sees (Mb.kindOf kd)
    (Mb.ramOf (Mb.kindOf kd) rm) (40960 : Int) x.1.5 x.1.2))))))
   (.chk (Mb.W (0 : Int) ∧ Mb.B xx ∧ (0 : Int) ≤ x.1.4 ∧ x.1.4 < (512 : Int))
   (.chk (Mb.W (40960 : Int) ∧
  ((0 : Int) ≤ Mb.wLow (Mb.kindOf kd) (0 : Int) xx x.1.4 ∧
      Mb.wLow (Mb.kindOf kd) (0 : Int) xx x.1.4 < (512 : Int)) ∧
    (0 : Int) ≤ Mb.wHigh (Mb.kindOf kd) (0 : Int) xx x.1.5 ∧
      Mb.wHigh (Mb.kindOf kd) (0 : Int) xx x.1.5 < (16 : Int))
   (.chk ((0 : Int) ≤ Mb.wHigh (Mb.kindOf kd) (0 : Int) xx x.1.5 ∧
  Mb.wHigh (Mb.kindOf kd) (0 : Int) xx x.1.5 < (16 : Int))
   (.br (Mb.kindOf kd == (0 : Int))
    (.br (Mb.kindOf kd == (3 : Int))
     (.br (decide
  (Mb.wHigh (Mb.kindOf kd) (0 : Int) xx x.1.5 > (3 : Int)))
      (.br (!Mb.sees (Mb.kindOf kd)
    (Mb.ramOf (Mb.kindOf kd) rm) (40960 : Int)
    (Mb.wHigh (Mb.kindOf kd) (0 : Int) xx x.1.5)
    (Mb.wOn (Mb.kindOf kd) (0 : Int) xx x.1.2))
       (.br (decide
  (Mb.wHigh (Mb.kindOf kd) (0 : Int) xx x.1.5 ≥ (8 : Int)))
        (.leaf (.v (.one (.bool false (Mb.clk (Mb.kindOf kd)
    (Mb.wHigh (Mb.kindOf kd) (0 : Int) xx x.1.5)
    (Mb.wOn (Mb.kindOf kd) (0 : Int) xx x.1.2) ==
  decide
    (Mb.wHigh (Mb.kindOf kd) (0 : Int) xx x.1.5 ≤ (12 : Int)))))))
        (.leaf (.v (.one (.bool false (Mb.clk (Mb.kindOf kd)
    (Mb.wHigh (Mb.kindOf kd) (0 : Int) xx x.1.5)
    (Mb.wOn (Mb.kindOf kd) (0 : Int) xx x.1.2) ==
  false))))))
       (.leaf (.v (.one (.bool true false)))))
      (.br (Mb.sees (Mb.kindOf kd)
    (Mb.ramOf (Mb.kindOf kd) rm) (40960 : Int)
    (Mb.wHigh (Mb.kindOf kd) (0 : Int) xx x.1.5)
    (Mb.wOn (Mb.kindOf kd) (0 : Int) xx x.1.2) ==
  decide (Mb.ramOf (Mb.kindOf kd) rm > (0 : Int)))
       (.leaf (.v (.one (.bool false (!Mb.clk (Mb.kindOf kd)
    (Mb.wHigh (Mb.kindOf kd) (0 : Int) xx x.1.5)
    (Mb.wOn (Mb.kindOf kd) (0 : Int) xx x.1.2))))))
       (.leaf (.v (.one (.bool true false))))))
     (.br (Mb.sees (Mb.kindOf kd)
    (Mb.ramOf (Mb.kindOf kd) rm) (40960 : Int)
    (Mb.wHigh (Mb.kindOf kd) (0 : Int) xx x.1.5)
    (Mb.wOn (Mb.kindOf kd) (0 : Int) xx x.1.2) ==
  decide (Mb.ramOf (Mb.kindOf kd) rm > (0 : Int)))
      (.leaf (.v (.one (.bool false (!Mb.clk (Mb.kindOf kd)
    (Mb.wHigh (Mb.kindOf kd) (0 : Int) xx x.1.5)
    (Mb.wOn (Mb.kindOf kd) (0 : Int) xx x.1.2))))))
      (.leaf (.v (.one (.bool true false))))))
    (.br (Mb.kindOf kd == (3 : Int))
     (.br (decide
  (Mb.wHigh (Mb.kindOf kd) (0 : Int) xx x.1.5 > (3 : Int)))
      (.br (!Mb.sees (Mb.kindOf kd)
    (Mb.ramOf (Mb.kindOf kd) rm) (40960 : Int)
    (Mb.wHigh (Mb.kindOf kd) (0 : Int) xx x.1.5)
    (Mb.wOn (Mb.kindOf kd) (0 : Int) xx x.1.2))
       (.br (bits BinOp.and IntKind.u8 xx (15 : Int) == (10 : Int))
        (.br (decide
  (Mb.wHigh (Mb.kindOf kd) (0 : Int) xx x.1.5 ≥ (8 : Int)))
         (.leaf (.v (.one (.bool false (Mb.clk (Mb.kindOf kd)
    (Mb.wHigh (Mb.kindOf kd) (0 : Int) xx x.1.5)
    (Mb.wOn (Mb.kindOf kd) (0 : Int) xx x.1.2) ==
  decide
    (Mb.wHigh (Mb.kindOf kd) (0 : Int) xx x.1.5 ≤ (12 : Int)))))))
         (.leaf (.v (.one (.bool false (Mb.clk (Mb.kindOf kd)
    (Mb.wHigh (Mb.kindOf kd) (0 : Int) xx x.1.5)
    (Mb.wOn (Mb.kindOf kd) (0 : Int) xx x.1.2) ==
  false))))))
        (.leaf (.v (.one (.bool false (Mb.clk (Mb.kindOf kd)
    (Mb.wHigh (Mb.kindOf kd) (0 : Int) xx x.1.5)
    (Mb.wOn (Mb.kindOf kd) (0 : Int) xx x.1.2) ==
  false))))))
       (.leaf (.v (.one (.bool true false)))))
      (.br (bits BinOp.and IntKind.u8 xx (15 : Int) == (10 : Int))
       (.br (Mb.sees (Mb.kindOf kd)
    (Mb.ramOf (Mb.kindOf kd) rm) (40960 : Int)
    (Mb.wHigh (Mb.kindOf kd) (0 : Int) xx x.1.5)
    (Mb.wOn (Mb.kindOf kd) (0 : Int) xx x.1.2) ==
  decide (Mb.ramOf (Mb.kindOf kd) rm > (0 : Int)))
        (.leaf (.v (.one (.bool false (!Mb.clk (Mb.kindOf kd)
    (Mb.wHigh (Mb.kindOf kd) (0 : Int) xx x.1.5)
    (Mb.wOn (Mb.kindOf kd) (0 : Int) xx x.1.2))))))
        (.leaf (.v (.one (.bool true false)))))
       (.br (Mb.sees (Mb.kindOf kd)
    (Mb.ramOf (Mb.kindOf kd) rm) (40960 : Int)
    (Mb.wHigh (Mb.kindOf kd) (0 : Int) xx x.1.5)
    (Mb.wOn (Mb.kindOf kd) (0 : Int) xx x.1.2) ==
  false)
        (.leaf (.v (.one (.bool false (!Mb.clk (Mb.kindOf kd)
    (Mb.wHigh (Mb.kindOf kd) (0 : Int) xx x.1.5)
    (Mb.wOn (Mb.kindOf kd) (0 : Int) xx x.1.2))))))
        (.leaf (.v (.one (.bool true false)))))))
     (.br (bits BinOp.and IntKind.u8 xx (15 : Int) == (10 : Int))
      (.br (Mb.sees (Mb.kindOf kd)
    (Mb.ramOf (Mb.kindOf kd) rm) (40960 : Int)
    (Mb.wHigh (Mb.kindOf kd) (0 : Int) xx x.1.5)
    (Mb.wOn (Mb.kindOf kd) (0 : Int) xx x.1.2) ==
  decide (Mb.ramOf (Mb.kindOf kd) rm > (0 : Int)))
       (.leaf (.v (.one (.bool false (!Mb.clk (Mb.kindOf kd)
    (Mb.wHigh (Mb.kindOf kd) (0 : Int) xx x.1.5)
    (Mb.wOn (Mb.kindOf kd) (0 : Int) xx x.1.2))))))
       (.leaf (.v (.one (.bool true false)))))
      (.br (Mb.sees (Mb.kindOf kd)
    (Mb.ramOf (Mb.kindOf kd) rm) (40960 : Int)
    (Mb.wHigh (Mb.kindOf kd) (0 : Int) xx x.1.5)
    (Mb.wOn (Mb.kindOf kd) (0 : Int) xx x.1.2) ==
  false)
       (.leaf (.v (.one (.bool false (!Mb.clk (Mb.kindOf kd)
    (Mb.wHigh (Mb.kindOf kd) (0 : Int) xx x.1.5)
    (Mb.wOn (Mb.kindOf kd) (0 : Int) xx x.1.2))))))
       (.leaf (.v (.one (.bool true false)))))))))))))))))))))))))))))))))))))) := by kernel_rfl
theorem own_b (l b : Bool) : AV.own (.v (.one (.bool l b))) = true := rfl
theorem g_b (bs : List Nat) (l b : Bool) : AV.γ bs (.v (.one (.bool l b))) = .bool b := rfl
def l8Mu (A : Option Addr) (P X : Nat → Int) (len cap : Nat) (kd rm xx : Int) (p : l8P) (x : l8X) : Nat := ((len : Int) - x.i).toNat
theorem l8_step (w : World) (A : Option Addr) (P X : Nat → Int) (len cap : Nat) (kd rm xx : Int) (p : l8P) (x : l8X) (hX : XOk w A (pokeCell P X) 2 len) (hB : ∀ i, i < len → Mb.B (X i)) (hP : ∀ i, i < len → Mb.W (P i)) (h : l8Inv A P X len cap kd rm xx p x) : Hid (roundT Try.prog w (flatT Try.prog) (ctrOf table2) (callT Try.prog w (flatT Try.prog) (ctrOf table2) (noLoop) 20) ((noLoop) 8) (roundOf (bodyAt Try.prog 8 0)) 0 (l8St A P X len cap kd rm xx p) (l8Fin A P X len cap kd rm xx p) l8NxX l8NxX x) (Kept (l8Inv A P X len cap kd rm xx p) (l8Post A P X len cap kd rm xx p) (l8Mu A P X len cap kd rm xx p) x) := by
  obtain ⟨⟩ := p
  obtain ⟨i, on, mode, low, high, last⟩ := x
  constructor
  rw [l8step_tree]
  simp only [T.holds, Kept, l8Mu, and_self, true_and, and_true]
  try simp only [beq_self_eq_true, bne_self_eq_false, Bool.and_true, Bool.true_and, Bool.and_self, Bool.not_true, Bool.not_false, Bool.false_eq_true, Bool.true_eq_false, false_implies, forall_const, and_self, true_and, and_true, if_true, if_false, reduceIte]
  obtain ⟨h1, h2, hl, hk, zero⟩ := h
  simp only at h1 h2 hl hk zero
  have next : i < (len : Int) → IntKind.i64.wrap (i + 1) = i + 1 := fun hi => Mb.wi64 _ (by omega) (by omega)
  have mu : i < (len : Int) → ((len : Int) - (i + 1)).toNat < ((len : Int) - i).toNat := fun hi => by omega
  refine ⟨fun h => ?_, fun h => ⟨hk, zero⟩⟩
  have hi : i < (len : Int) := by simpa using h
  have hx1 : XOk w A (pokeCell P X) 2 len ∧ 0 ≤ i ∧ i < (len : Int) ∧ 0 < 2 := ⟨hX, h1, hi, by decide⟩
  have hx2 : XOk w A (pokeCell P X) 2 len ∧ 0 < len ∧ 0 < 2 := ⟨hX, by omega, by decide⟩
  have hx3 : XOk w A (pokeCell P X) 2 len ∧ i.toNat < len ∧ 1 ≤ 2 := ⟨hX, by omega, by decide⟩
  have hx4 : XOk w A (pokeCell P X) 2 len ∧ i.toNat < len ∧ 2 ≤ 2 := ⟨hX, by omega, by decide⟩
  have bX := hB i.toNat (by omega)
  have bP := hP i.toNat (by omega)
  have ask : Mb.W (P i.toNat) ∧ Mb.B (X i.toNat) ∧ 0 ≤ low ∧ low < 512 := ⟨bP, bX, hk.low⟩
  rw [next hi]
  exact ⟨hx1, hx2, hx3, hx1, hx2, hx4, ask, ⟨by show 0 ≤ i + 1; omega, by show i + 1 ≤ (len : Int); omega, hl, Mb.w_ok bX hk, fun e => by show Mb.wOn _ _ _ _ = true; simp [Mb.wOn, e, zero e]⟩, mu hi⟩
theorem l8Lp_ok (w : World) (A : Option Addr) (P X : Nat → Int) (len cap : Nat) (kd rm xx : Int) (hX : XOk w A (pokeCell P X) 2 len) (hB : ∀ i, i < len → Mb.B (X i)) (hP : ∀ i, i < len → Mb.W (P i)) : (l8Lp A P X len cap kd rm xx).ok Try.prog w := by
  intro s t h
  unfold l8Lp at h
  simp only at h
  split at h
  · rename_i p _
    split at h
    · rename_i x _
      cases h
      exact loop_ok base2 (table2_ok w) (callT_ok base2.mixed base2.names base2.eqs (table2_ok w).ok (table2_ok w).there (loops_none _ _) 20) ((loops_none _ _) 8) (c := roundOf (bodyAt Try.prog 8 0)) (by kernel_rfl) (id := 0) (n := 2) (st := l8St A P X len cap kd rm xx p) (fin := l8Fin A P X len cap kd rm xx p) (inv := l8Inv A P X len cap kd rm xx p) (post := l8Post A P X len cap kd rm xx p) (nx := l8NxX) (fx := l8NxX) (l8Mu A P X len cap kd rm xx p) (fun x => by kernel_rfl) (fun y => by kernel_rfl) (fun x hx => l8_step w A P X len cap kd rm xx p x hX hB hP hx) s x
    · cases h
  · cases h
theorem kinds (n : Int) (h : 0 ≤ n) : Mb.kindOf n = 0 ∨ Mb.kindOf n = 1 ∨ Mb.kindOf n = 2 ∨ Mb.kindOf n = 3 ∨ Mb.kindOf n = 4 ∨ Mb.kindOf n = 5 := by
  unfold Mb.kindOf
  repeat' split
  all_goals omega
set_option maxHeartbeats 4000000 in
theorem off_walk (w : World) (A : Option Addr) (P X : Nat → Int) (len cap : Nat) (kd rm xx : Int) (hX : XOk w A (pokeCell P X) 2 len) (hB : ∀ i, i < len → Mb.B (X i)) (hP : ∀ i, i < len → Mb.W (P i)) (bkd : Mb.B kd) (brm : Mb.B rm) (bx : Mb.B xx) : Calls Try.prog 8 #[.int .u8 kd, .int .u8 rm, .slice A len cap, .int .u8 xx] w fun e w' => e = .returned (.bool true) ∧ Below w.heap.size w w' := by
  have hl : LcsOk Try.prog w (lpOf Try.prog [l8Lp A P X len cap kd rm xx]) := lps_ok fun l hl => by
    simp only [List.mem_cons, List.not_mem_nil, or_false] at hl
    subst hl
    exact l8Lp_ok w A P X len cap kd rm xx hX hB hP
  refine val_eq base2 (table2_ok w) hl (off_tree w A P X len cap kd rm xx) rfl ?_
  simp only [T.holds, and_self, true_and, and_true, own_b, g_b]
  refine ⟨fun _ => trivial, fun h => ⟨⟨bkd, ⟨by decide, by decide⟩, brm⟩, ⟨by show (0:Int) ≤ 0; omega, by show (0:Int) ≤ (len : Int); omega, by simp at h; omega, ok0, fun e => by simp [e]⟩, fun y => ?_⟩⟩
  obtain ⟨⟨yi, yon, ymode, ylow, yhigh, ylast⟩, ⟨⟨okl, okh, okb⟩, zero⟩⟩ := y
  dsimp only at okl okh okb zero ⊢
  have m15 := (masks bx).2.2.1
  have ew : Mb.W 40960 := ⟨by decide, by decide⟩
  have e0 : Mb.W 0 := ⟨by decide, by decide⟩
  have kw := Mb.w_ok (k := Mb.kindOf kd) (a := 0) (x := xx) bx ⟨okl, okh, okb⟩
  have ask1 : Mb.W 40960 ∧ (0 ≤ ylow ∧ ylow < 512) ∧ 0 ≤ yhigh ∧ yhigh < 16 := ⟨ew, okl, okh⟩
  have ask2 : Mb.W 0 ∧ Mb.B xx ∧ 0 ≤ ylow ∧ ylow < 512 := ⟨e0, bx, okl⟩
  have ask3 := And.intro ew (And.intro kw.low kw.high)
  have ask4 := kw.high
  simp only [ask1, ask2, ask3, ask4, true_and, m15]
  clear ask1 ask2 ask3 ask4 kw hl
  generalize Mb.ramOf (Mb.kindOf kd) rm = r at *
  have hE : ∀ a b : Bool, (Value.bool a = Value.bool b) = (a = b) := fun a b => by simp
  rcases kinds kd bkd.1 with k | k | k | k | k | k
  all_goals
    try have zero := zero k
    clear h hX hB hP
    simp [k, hE, Mb.sees, Mb.clk, Mb.wOn, Mb.wHigh, e0, bx, ew]
  all_goals
    first
    | exact ew
    | (by_cases c1 : xx % 16 = 10 <;> by_cases c2 : 0 < r <;> by_cases c3 : 3 < yhigh <;> by_cases c4 : 8 ≤ yhigh <;> by_cases c5 : yhigh ≤ 12 <;> simp [*] <;> first | done | omega | (simp at *; omega))
end Go.Proofs.Ythfloebldapfbaa
