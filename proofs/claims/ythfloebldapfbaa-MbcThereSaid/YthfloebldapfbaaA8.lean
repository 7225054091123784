/-
  Walk of a statement of the map, by computing, with its rounds: what is seen is there. Bytes are below 256, places below 65536; no other condition.
-/
import Derived.Test.YthfloebldapfbaaA4
namespace Go.Proofs.Ythfloebldapfbaa
open Go.RowKit sym
set_option linter.unusedVariables false
set_option linter.unusedSimpArgs false
set_option maxRecDepth 100000
def pokeCell (P X : Nat → Int) : Nat → Nat → Sc := fun i q => match q with
  | 0 => .int false .u16 (P i)
  | _ => .int false .u8 (X i)
def byteCell (X : Nat → Int) : Nat → Nat → Sc := fun i _ => .int false .u8 (X i)
theorem ok0 : Mb.Ok 1 0 255 := ⟨⟨by decide, by decide⟩, ⟨by decide, by decide⟩, ⟨by decide, by decide⟩⟩
structure l7P where
structure l7X where
  i : Int
  on : Bool
  mode : Bool
  low : Int
  high : Int
  last : Int
def l7St (A : Option Addr) (P X : Nat → Int) (len cap : Nat) (kd bk rm at_ by_ : Int) : l7P → l7X → ASt := fun ⟨⟩ ⟨i, on, mode, low, high, last⟩ => ⟨slots (List.replicate 143 .any) [(3, .v (.one (.xs A (pokeCell P X) 2 len cap))), (4, .v (.one (.int false .u16 at_))), (5, .v (.one (.int false .u16 by_))), (13, .v (.one (.ptr 0 0))), (14, .v (.one (.ptr 1 0))), (37, .v (.one (.int false .i64 (len : Int)))), (38, .v (.one (.int false .i64 i)))], [⟨[.val (.string { data := #[] }), .int false .i64 (Mb.kindOf kd), .bool true false, .bool true false, .int false .i64 (Mb.banksOf bk), .int false .i64 (Mb.ramOf (Mb.kindOf kd) rm), .bool true false], 25⟩, ⟨[.int false .i64 (Mb.kindOf kd), .int false .i64 (Mb.banksOf bk), .int false .i64 (Mb.ramOf (Mb.kindOf kd) rm), .bool false on, .bool false mode, .int false .i64 low, .int false .i64 high, .int false .u8 last], 28⟩]⟩
def l7Fin (A : Option Addr) (P X : Nat → Int) (len cap : Nat) (kd bk rm at_ by_ : Int) : l7P → l7X → ASt := fun ⟨⟩ ⟨i, on, mode, low, high, last⟩ => ⟨slots (List.replicate 143 .any) [(3, .v (.one (.xs A (pokeCell P X) 2 len cap))), (4, .v (.one (.int false .u16 at_))), (5, .v (.one (.int false .u16 by_))), (13, .v (.one (.ptr 0 0))), (14, .v (.one (.ptr 1 0))), (37, .v (.one (.int false .i64 (len : Int)))), (38, .v (.one (.int false .i64 i)))], [⟨[.val (.string { data := #[] }), .int false .i64 (Mb.kindOf kd), .bool true false, .bool true false, .int false .i64 (Mb.banksOf bk), .int false .i64 (Mb.ramOf (Mb.kindOf kd) rm), .bool true false], 25⟩, ⟨[.int false .i64 (Mb.kindOf kd), .int false .i64 (Mb.banksOf bk), .int false .i64 (Mb.ramOf (Mb.kindOf kd) rm), .bool false on, .bool false mode, .int false .i64 low, .int false .i64 high, .int false .u8 last], 28⟩]⟩
def l7NxP : ASt → Option l7P := fun st_ => some ⟨⟩
def l7NxX : ASt → Option l7X := fun st_ => match gI st_ 38 with | none => none | some i => match hB st_ 1 3 with | none => none | some on => match hB st_ 1 4 with | none => none | some mode => match hI st_ 1 5 with | none => none | some low => match hI st_ 1 6 with | none => none | some high => match hI st_ 1 7 with | none => none | some last => some ⟨i, on, mode, low, high, last⟩
structure l7Inv (A : Option Addr) (P X : Nat → Int) (len cap : Nat) (kd bk rm at_ by_ : Int) (p : l7P) (x : l7X) : Prop where
  i0 : 0 ≤ x.i
  i1 : x.i ≤ len
  lm : len ≤ 100
  ok : Mb.Ok x.low x.high x.last
structure l7Post (A : Option Addr) (P X : Nat → Int) (len cap : Nat) (kd bk rm at_ by_ : Int) (p : l7P) (x : l7X) : Prop where
  ok : Mb.Ok x.low x.high x.last
def l7Lp (A : Option Addr) (P X : Nat → Int) (len cap : Nat) (kd bk rm at_ by_ : Int) : Lp := ⟨7, 0, fun s => match l7NxP s with
  | some p => match l7NxX s with
    | some x => some (loopT 0 2 (l7St A P X len cap kd bk rm at_ by_ p) (l7Fin A P X len cap kd bk rm at_ by_ p) (l7Inv A P X len cap kd bk rm at_ by_ p) (l7Post A P X len cap kd bk rm at_ by_ p) s x)
    | none => none
  | none => none⟩
theorem l7step_tree (w : World) (A : Option Addr) (P X : Nat → Int) (len cap : Nat) (kd bk rm at_ by_ : Int) (i : Int) (on : Bool) (mode : Bool) (low : Int) (high : Int) (last : Int) :
    roundT Try.prog w (flatT Try.prog) (ctrOf table2) (callT Try.prog w (flatT Try.prog) (ctrOf table2) (noLoop) 20) ((noLoop) 7) (roundOf (bodyAt Try.prog 7 0)) 0 (l7St A P X len cap kd bk rm at_ by_ ⟨⟩) (l7Fin A P X len cap kd bk rm at_ by_ ⟨⟩) l7NxX l7NxX ⟨i, on, mode, low, high, last⟩ =
(.br (decide (i < (↑len : Int)))
 (.chk (sym.XOk w A (pokeCell P X) (2 : Nat) len ∧
  (0 : Int) ≤ i ∧ i < (↑len : Int) ∧ (0 : Nat) < (2 : Nat))
 (.chk (sym.XOk w A (pokeCell P X) (2 : Nat) len ∧
  (0 : Nat) < len ∧ (0 : Nat) < (2 : Nat))
 (.chk (sym.XOk w A (pokeCell P X) (2 : Nat) len ∧
  i.toNat < len ∧ (1 : Nat) ≤ (2 : Nat))
 (.chk (sym.XOk w A (pokeCell P X) (2 : Nat) len ∧
  (0 : Int) ≤ i ∧ i < (↑len : Int) ∧ (0 : Nat) < (2 : Nat))
 (.chk (sym.XOk w A (pokeCell P X) (2 : Nat) len ∧
  (0 : Nat) < len ∧ (0 : Nat) < (2 : Nat))
 (.chk (sym.XOk w A (pokeCell P X) (2 : Nat) len ∧
  i.toNat < len ∧ (2 : Nat) ≤ (2 : Nat))
 (.chk (Mb.W (P i.toNat) ∧
  Mb.B (X i.toNat) ∧ (0 : Int) ≤ low ∧ low < (512 : Int))
 (.chk (Mb.W at_ ∧
  ((0 : Int) ≤
        Mb.wLow (Mb.kindOf kd) (P i.toNat) (X i.toNat) low ∧
      Mb.wLow (Mb.kindOf kd) (P i.toNat) (X i.toNat) low <
        (512 : Int)) ∧
    (0 : Int) ≤
        Mb.wHigh (Mb.kindOf kd) (P i.toNat) (X i.toNat) high ∧
      Mb.wHigh (Mb.kindOf kd) (P i.toNat) (X i.toNat) high <
        (16 : Int))
 (.chk ((0 : Int) ≤ Mb.wHigh (Mb.kindOf kd) (P i.toNat) (X i.toNat) high ∧
  Mb.wHigh (Mb.kindOf kd) (P i.toNat) (X i.toNat) high <
    (16 : Int))
 (.chk (Mb.W at_ ∧
  ((0 : Int) ≤
        Mb.wLow (Mb.kindOf kd) (P i.toNat) (X i.toNat) low ∧
      Mb.wLow (Mb.kindOf kd) (P i.toNat) (X i.toNat) low <
        (512 : Int)) ∧
    (0 : Int) ≤
        Mb.wHigh (Mb.kindOf kd) (P i.toNat) (X i.toNat) high ∧
      Mb.wHigh (Mb.kindOf kd) (P i.toNat) (X i.toNat) high <
          (16 : Int) ∧
        Mb.banksOf bk ≤ (512 : Int))
 (.br (decide
  (Mb.rom (Mb.kindOf kd)
      (Mb.banksOf bk) at_
      (Mb.wLow (Mb.kindOf kd) (P i.toNat) (X i.toNat) low)
      (Mb.wHigh (Mb.kindOf kd) (P i.toNat) (X i.toNat) high)
      (Mb.wMode (Mb.kindOf kd) (P i.toNat) (X i.toNat) mode) <
    (0 : Int)))
  (.fail "ret")
  (.br (decide
  (Mb.rom (Mb.kindOf kd)
      (Mb.banksOf bk) at_
      (Mb.wLow (Mb.kindOf kd) (P i.toNat) (X i.toNat) low)
      (Mb.wHigh (Mb.kindOf kd) (P i.toNat) (X i.toNat) high)
      (Mb.wMode (Mb.kindOf kd) (P i.toNat) (X i.toNat) mode) ≥
    IntKind.i64.wrap ((16384 : Int) * Mb.banksOf bk)))
   (.fail "ret")
   (.br (Mb.sees (Mb.kindOf kd)
  (Mb.ramOf (Mb.kindOf kd) rm) at_
  (Mb.wHigh (Mb.kindOf kd) (P i.toNat) (X i.toNat) high)
  (Mb.wOn (Mb.kindOf kd) (P i.toNat) (X i.toNat) on))
    (.br (decide
  (Mb.at_ (Mb.kindOf kd)
      (Mb.ramOf (Mb.kindOf kd) rm) at_
      (Mb.wHigh (Mb.kindOf kd) (P i.toNat) (X i.toNat) high)
      (Mb.wOn (Mb.kindOf kd) (P i.toNat) (X i.toNat) on)
      (Mb.wMode (Mb.kindOf kd) (P i.toNat) (X i.toNat) mode) <
    (0 : Int)))
     (.fail "ret")
     (.br (decide
  (Mb.at_ (Mb.kindOf kd)
      (Mb.ramOf (Mb.kindOf kd) rm) at_
      (Mb.wHigh (Mb.kindOf kd) (P i.toNat) (X i.toNat) high)
      (Mb.wOn (Mb.kindOf kd) (P i.toNat) (X i.toNat) on)
      (Mb.wMode (Mb.kindOf kd) (P i.toNat) (X i.toNat) mode) ≥
    Mb.ramOf (Mb.kindOf kd) rm))
      (.fail "ret")
      (.br (decide (at_ < (40960 : Int)))
       (.fail "ret")
       (.br (decide (at_ > (49151 : Int)))
        (.fail "ret")
        (.br (!Mb.sees (Mb.kindOf kd)
    (Mb.ramOf (Mb.kindOf kd) rm) at_
    (Mb.wHigh (Mb.kindOf kd) (P i.toNat) (X i.toNat) high)
    (Mb.wOn (Mb.kindOf kd) (P i.toNat) (X i.toNat) on))
         (.br (Mb.at_ (Mb.kindOf kd)
    (Mb.ramOf (Mb.kindOf kd) rm) at_
    (Mb.wHigh (Mb.kindOf kd) (P i.toNat) (X i.toNat) high)
    (Mb.wOn (Mb.kindOf kd) (P i.toNat) (X i.toNat) on)
    (Mb.wMode (Mb.kindOf kd) (P i.toNat) (X i.toNat) mode) !=
  (0 : Int))
          (.fail "ret")
          (.br (Mb.clk (Mb.kindOf kd)
  (Mb.wHigh (Mb.kindOf kd) (P i.toNat) (X i.toNat) high)
  (Mb.wOn (Mb.kindOf kd) (P i.toNat) (X i.toNat) on))
           (.br (decide
  (Mb.part (Mb.kindOf kd)
      (Mb.wHigh (Mb.kindOf kd) (P i.toNat) (X i.toNat) high)
      (Mb.wOn (Mb.kindOf kd) (P i.toNat) (X i.toNat) on) <
    (0 : Int)))
            (.fail "ret")
            (.br (decide
  (Mb.part (Mb.kindOf kd)
      (Mb.wHigh (Mb.kindOf kd) (P i.toNat) (X i.toNat) high)
      (Mb.wOn (Mb.kindOf kd) (P i.toNat) (X i.toNat) on) >
    (4 : Int)))
             (.fail "ret")
             (.br (Mb.sees (Mb.kindOf kd)
  (Mb.ramOf (Mb.kindOf kd) rm) at_
  (Mb.wHigh (Mb.kindOf kd) (P i.toNat) (X i.toNat) high)
  (Mb.wOn (Mb.kindOf kd) (P i.toNat) (X i.toNat) on))
              (.fail "ret")
              (.chk (Mb.W
    (bits BinOp.or IntKind.u16 (bits BinOp.and IntKind.u16 at_ (16384 : Int))
      (bits BinOp.and IntKind.u16 by_ (16383 : Int))) ∧
  ((0 : Int) ≤
        Mb.wLow (Mb.kindOf kd) (P i.toNat) (X i.toNat) low ∧
      Mb.wLow (Mb.kindOf kd) (P i.toNat) (X i.toNat) low <
        (512 : Int)) ∧
    (0 : Int) ≤
        Mb.wHigh (Mb.kindOf kd) (P i.toNat) (X i.toNat) high ∧
      Mb.wHigh (Mb.kindOf kd) (P i.toNat) (X i.toNat) high <
          (16 : Int) ∧
        Mb.banksOf bk ≤ (512 : Int))
              (.chk (Mb.W at_ ∧
  ((0 : Int) ≤
        Mb.wLow (Mb.kindOf kd) (P i.toNat) (X i.toNat) low ∧
      Mb.wLow (Mb.kindOf kd) (P i.toNat) (X i.toNat) low <
        (512 : Int)) ∧
    (0 : Int) ≤
        Mb.wHigh (Mb.kindOf kd) (P i.toNat) (X i.toNat) high ∧
      Mb.wHigh (Mb.kindOf kd) (P i.toNat) (X i.toNat) high <
          (16 : Int) ∧
        Mb.banksOf bk ≤ (512 : Int))
              (.br (IntKind.i64.wrap
    (Mb.rom (Mb.kindOf kd)
        (Mb.banksOf bk)
        (bits BinOp.or IntKind.u16 (bits BinOp.and IntKind.u16 at_ (16384 : Int))
          (bits BinOp.and IntKind.u16 by_ (16383 : Int)))
        (Mb.wLow (Mb.kindOf kd) (P i.toNat) (X i.toNat) low)
        (Mb.wHigh (Mb.kindOf kd) (P i.toNat) (X i.toNat) high)
        (Mb.wMode (Mb.kindOf kd) (P i.toNat) (X i.toNat) mode) -
      Mb.rom (Mb.kindOf kd)
        (Mb.banksOf bk) at_
        (Mb.wLow (Mb.kindOf kd) (P i.toNat) (X i.toNat) low)
        (Mb.wHigh (Mb.kindOf kd) (P i.toNat) (X i.toNat) high)
        (Mb.wMode (Mb.kindOf kd) (P i.toNat) (X i.toNat) mode)) !=
  IntKind.i64.wrap
    (IntKind.i64.wrap
        (bits BinOp.and IntKind.u16
          (bits BinOp.or IntKind.u16 (bits BinOp.and IntKind.u16 at_ (16384 : Int))
            (bits BinOp.and IntKind.u16 by_ (16383 : Int)))
          (16383 : Int)) -
      IntKind.i64.wrap (bits BinOp.and IntKind.u16 at_ (16383 : Int))))
               (.fail "ret")
               (.chk (A = A ∧
  pokeCell P X = pokeCell P X ∧
    (2 : Nat) = (2 : Nat) ∧ len = len ∧ cap = cap)
               (.chk (IntKind.u16 = IntKind.u16 ∧ at_ = at_)
               (.chk (IntKind.u16 = IntKind.u16 ∧ by_ = by_)
               (.chk (IntKind.i64 = IntKind.i64 ∧ (↑len : Int) = (↑len : Int))
               (.chk (IntKind.i64 = IntKind.i64 ∧ IntKind.i64.wrap (i + (1 : Int)) = IntKind.i64.wrap (i + (1 : Int)))
               (.chk (Go.Value.string { data := #[] } = Go.Value.string { data := #[] })
               (.chk (IntKind.i64 = IntKind.i64 ∧ Mb.kindOf kd = Mb.kindOf kd)
               (.chk (false = false)
               (.chk (false = false)
               (.chk (IntKind.i64 = IntKind.i64 ∧ Mb.banksOf bk = Mb.banksOf bk)
               (.chk (IntKind.i64 = IntKind.i64 ∧
  Mb.ramOf (Mb.kindOf kd) rm =
    Mb.ramOf (Mb.kindOf kd) rm)
               (.chk (false = false)
               (.chk (IntKind.i64 = IntKind.i64 ∧ Mb.kindOf kd = Mb.kindOf kd)
               (.chk (IntKind.i64 = IntKind.i64 ∧ Mb.banksOf bk = Mb.banksOf bk)
               (.chk (IntKind.i64 = IntKind.i64 ∧
  Mb.ramOf (Mb.kindOf kd) rm =
    Mb.ramOf (Mb.kindOf kd) rm)
               (.chk (Mb.wOn (Mb.kindOf kd) (P i.toNat) (X i.toNat) on =
  Mb.wOn (Mb.kindOf kd) (P i.toNat) (X i.toNat) on)
               (.chk (Mb.wMode (Mb.kindOf kd) (P i.toNat) (X i.toNat) mode =
  Mb.wMode (Mb.kindOf kd) (P i.toNat) (X i.toNat) mode)
               (.chk (IntKind.i64 = IntKind.i64 ∧
  Mb.wLow (Mb.kindOf kd) (P i.toNat) (X i.toNat) low =
    Mb.wLow (Mb.kindOf kd) (P i.toNat) (X i.toNat) low)
               (.chk (IntKind.i64 = IntKind.i64 ∧
  Mb.wHigh (Mb.kindOf kd) (P i.toNat) (X i.toNat) high =
    Mb.wHigh (Mb.kindOf kd) (P i.toNat) (X i.toNat) high)
               (.chk (IntKind.u8 = IntKind.u8 ∧
  Mb.wLast (Mb.kindOf kd) (P i.toNat) (X i.toNat) last =
    Mb.wLast (Mb.kindOf kd) (P i.toNat) (X i.toNat) last)
               (.leaf (.inl ⟨IntKind.i64.wrap (i + (1 : Int)), Mb.wOn (Mb.kindOf kd) (P i.toNat) (X i.toNat) on, Mb.wMode (Mb.kindOf kd) (P i.toNat) (X i.toNat) mode, Mb.wLow (Mb.kindOf kd) (P i.toNat) (X i.toNat) low, Mb.wHigh (Mb.kindOf kd) (P i.toNat) (X i.toNat) high, Mb.wLast (Mb.kindOf kd) (P i.toNat) (X i.toNat) last⟩))))))))))))))))))))))))))))
           (.chk (Mb.W
    (bits BinOp.or IntKind.u16 (bits BinOp.and IntKind.u16 at_ (16384 : Int))
      (bits BinOp.and IntKind.u16 by_ (16383 : Int))) ∧
  ((0 : Int) ≤
        Mb.wLow (Mb.kindOf kd) (P i.toNat) (X i.toNat) low ∧
      Mb.wLow (Mb.kindOf kd) (P i.toNat) (X i.toNat) low <
        (512 : Int)) ∧
    (0 : Int) ≤
        Mb.wHigh (Mb.kindOf kd) (P i.toNat) (X i.toNat) high ∧
      Mb.wHigh (Mb.kindOf kd) (P i.toNat) (X i.toNat) high <
          (16 : Int) ∧
        Mb.banksOf bk ≤ (512 : Int))
           (.chk (Mb.W at_ ∧
  ((0 : Int) ≤
        Mb.wLow (Mb.kindOf kd) (P i.toNat) (X i.toNat) low ∧
      Mb.wLow (Mb.kindOf kd) (P i.toNat) (X i.toNat) low <
        (512 : Int)) ∧
    (0 : Int) ≤
        Mb.wHigh (Mb.kindOf kd) (P i.toNat) (X i.toNat) high ∧
      Mb.wHigh (Mb.kindOf kd) (P i.toNat) (X i.toNat) high <
          (16 : Int) ∧
        Mb.banksOf bk ≤ (512 : Int))
           (.br (IntKind.i64.wrap
    (Mb.rom (Mb.kindOf kd)
        (Mb.banksOf bk)
        (bits BinOp.or IntKind.u16 (bits BinOp.and IntKind.u16 at_ (16384 : Int))
          (bits BinOp.and IntKind.u16 by_ (16383 : Int)))
        (Mb.wLow (Mb.kindOf kd) (P i.toNat) (X i.toNat) low)
        (Mb.wHigh (Mb.kindOf kd) (P i.toNat) (X i.toNat) high)
        (Mb.wMode (Mb.kindOf kd) (P i.toNat) (X i.toNat) mode) -
      Mb.rom (Mb.kindOf kd)
        (Mb.banksOf bk) at_
        (Mb.wLow (Mb.kindOf kd) (P i.toNat) (X i.toNat) low)
        (Mb.wHigh (Mb.kindOf kd) (P i.toNat) (X i.toNat) high)
        (Mb.wMode (Mb.kindOf kd) (P i.toNat) (X i.toNat) mode)) !=
  IntKind.i64.wrap
    (IntKind.i64.wrap
        (bits BinOp.and IntKind.u16
          (bits BinOp.or IntKind.u16 (bits BinOp.and IntKind.u16 at_ (16384 : Int))
            (bits BinOp.and IntKind.u16 by_ (16383 : Int)))
          (16383 : Int)) -
      IntKind.i64.wrap (bits BinOp.and IntKind.u16 at_ (16383 : Int))))
            (.fail "ret")
            (.chk (A = A ∧
  pokeCell P X = pokeCell P X ∧
    (2 : Nat) = (2 : Nat) ∧ len = len ∧ cap = cap)
            (.chk (IntKind.u16 = IntKind.u16 ∧ at_ = at_)
            (.chk (IntKind.u16 = IntKind.u16 ∧ by_ = by_)
            (.chk (IntKind.i64 = IntKind.i64 ∧ (↑len : Int) = (↑len : Int))
            (.chk (IntKind.i64 = IntKind.i64 ∧ IntKind.i64.wrap (i + (1 : Int)) = IntKind.i64.wrap (i + (1 : Int)))
            (.chk (Go.Value.string { data := #[] } = Go.Value.string { data := #[] })
            (.chk (IntKind.i64 = IntKind.i64 ∧ Mb.kindOf kd = Mb.kindOf kd)
            (.chk (false = false)
            (.chk (false = false)
            (.chk (IntKind.i64 = IntKind.i64 ∧ Mb.banksOf bk = Mb.banksOf bk)
            (.chk (IntKind.i64 = IntKind.i64 ∧
  Mb.ramOf (Mb.kindOf kd) rm =
    Mb.ramOf (Mb.kindOf kd) rm)
            (.chk (false = false)
            (.chk (IntKind.i64 = IntKind.i64 ∧ Mb.kindOf kd = Mb.kindOf kd)
            (.chk (IntKind.i64 = IntKind.i64 ∧ Mb.banksOf bk = Mb.banksOf bk)
            (.chk (IntKind.i64 = IntKind.i64 ∧
  Mb.ramOf (Mb.kindOf kd) rm =
    Mb.ramOf (Mb.kindOf kd) rm)
            (.chk (Mb.wOn (Mb.kindOf kd) (P i.toNat) (X i.toNat) on =
  Mb.wOn (Mb.kindOf kd) (P i.toNat) (X i.toNat) on)
            (.chk (Mb.wMode (Mb.kindOf kd) (P i.toNat) (X i.toNat) mode =
  Mb.wMode (Mb.kindOf kd) (P i.toNat) (X i.toNat) mode)
            (.chk (IntKind.i64 = IntKind.i64 ∧
  Mb.wLow (Mb.kindOf kd) (P i.toNat) (X i.toNat) low =
    Mb.wLow (Mb.kindOf kd) (P i.toNat) (X i.toNat) low)
            (.chk (IntKind.i64 = IntKind.i64 ∧
  Mb.wHigh (Mb.kindOf kd) (P i.toNat) (X i.toNat) high =
    Mb.wHigh (Mb.kindOf kd) (P i.toNat) (X i.toNat) high)
            (.chk (IntKind.u8 = IntKind.u8 ∧
  Mb.wLast (Mb.kindOf kd) (P i.toNat) (X i.toNat) last =
    Mb.wLast (Mb.kindOf kd) (P i.toNat) (X i.toNat) last)
            (.leaf (.inl ⟨IntKind.i64.wrap (i + (1 : Int)), Mb.wOn (Mb.kindOf kd) (P i.toNat) (X i.toNat) on, Mb.wMode (Mb.kindOf kd) (P i.toNat) (X i.toNat) mode, Mb.wLow (Mb.kindOf kd) (P i.toNat) (X i.toNat) low, Mb.wHigh (Mb.kindOf kd) (P i.toNat) (X i.toNat) high, Mb.wLast (Mb.kindOf kd) (P i.toNat) (X i.toNat) last⟩)))))))))))))))))))))))))))
         (.br (Mb.clk (Mb.kindOf kd)
  (Mb.wHigh (Mb.kindOf kd) (P i.toNat) (X i.toNat) high)
  (Mb.wOn (Mb.kindOf kd) (P i.toNat) (X i.toNat) on))
          (.br (decide
  (Mb.part (Mb.kindOf kd)
      (Mb.wHigh (Mb.kindOf kd) (P i.toNat) (X i.toNat) high)
      (Mb.wOn (Mb.kindOf kd) (P i.toNat) (X i.toNat) on) <
    (0 : Int)))
           (.fail "ret")
           (.br (decide
  (Mb.part (Mb.kindOf kd)
      (Mb.wHigh (Mb.kindOf kd) (P i.toNat) (X i.toNat) high)
      (Mb.wOn (Mb.kindOf kd) (P i.toNat) (X i.toNat) on) >
    (4 : Int)))
            (.fail "ret")
            (.br (Mb.sees (Mb.kindOf kd)
  (Mb.ramOf (Mb.kindOf kd) rm) at_
  (Mb.wHigh (Mb.kindOf kd) (P i.toNat) (X i.toNat) high)
  (Mb.wOn (Mb.kindOf kd) (P i.toNat) (X i.toNat) on))
             (.fail "ret")
             (.chk (Mb.W
    (bits BinOp.or IntKind.u16 (bits BinOp.and IntKind.u16 at_ (16384 : Int))
      (bits BinOp.and IntKind.u16 by_ (16383 : Int))) ∧
  ((0 : Int) ≤
        Mb.wLow (Mb.kindOf kd) (P i.toNat) (X i.toNat) low ∧
      Mb.wLow (Mb.kindOf kd) (P i.toNat) (X i.toNat) low <
        (512 : Int)) ∧
    (0 : Int) ≤
        Mb.wHigh (Mb.kindOf kd) (P i.toNat) (X i.toNat) high ∧
      Mb.wHigh (Mb.kindOf kd) (P i.toNat) (X i.toNat) high <
          (16 : Int) ∧
        Mb.banksOf bk ≤ (512 : Int))
             (.chk (Mb.W at_ ∧
  ((0 : Int) ≤
        Mb.wLow (Mb.kindOf kd) (P i.toNat) (X i.toNat) low ∧
      Mb.wLow (Mb.kindOf kd) (P i.toNat) (X i.toNat) low <
        (512 : Int)) ∧
    (0 : Int) ≤
        Mb.wHigh (Mb.kindOf kd) (P i.toNat) (X i.toNat) high ∧
      Mb.wHigh (Mb.kindOf kd) (P i.toNat) (X i.toNat) high <
          (16 : Int) ∧
        Mb.banksOf bk ≤ (512 : Int))
             (.br (IntKind.i64.wrap
    (Mb.rom (Mb.kindOf kd)
        (Mb.banksOf bk)
        (bits BinOp.or IntKind.u16 (bits BinOp.and IntKind.u16 at_ (16384 : Int))
          (bits BinOp.and IntKind.u16 by_ (16383 : Int)))
        (Mb.wLow (Mb.kindOf kd) (P i.toNat) (X i.toNat) low)
        (Mb.wHigh (Mb.kindOf kd) (P i.toNat) (X i.toNat) high)
        (Mb.wMode (Mb.kindOf kd) (P i.toNat) (X i.toNat) mode) -
      Mb.rom (Mb.kindOf kd)
        (Mb.banksOf bk) at_
        (Mb.wLow (Mb.kindOf kd) (P i.toNat) (X i.toNat) low)
        (Mb.wHigh (Mb.kindOf kd) (P i.toNat) (X i.toNat) high)
        (Mb.wMode (Mb.kindOf kd) (P i.toNat) (X i.toNat) mode)) !=
  IntKind.i64.wrap
    (IntKind.i64.wrap
        (bits BinOp.and IntKind.u16
          (bits BinOp.or IntKind.u16 (bits BinOp.and IntKind.u16 at_ (16384 : Int))
            (bits BinOp.and IntKind.u16 by_ (16383 : Int)))
          (16383 : Int)) -
      IntKind.i64.wrap (bits BinOp.and IntKind.u16 at_ (16383 : Int))))
              (.fail "ret")
              (.chk (A = A ∧
  pokeCell P X = pokeCell P X ∧
    (2 : Nat) = (2 : Nat) ∧ len = len ∧ cap = cap)
              (.chk (IntKind.u16 = IntKind.u16 ∧ at_ = at_)
              (.chk (IntKind.u16 = IntKind.u16 ∧ by_ = by_)
              (.chk (IntKind.i64 = IntKind.i64 ∧ (↑len : Int) = (↑len : Int))
              (.chk (IntKind.i64 = IntKind.i64 ∧ IntKind.i64.wrap (i + (1 : Int)) = IntKind.i64.wrap (i + (1 : Int)))
              (.chk (Go.Value.string { data := #[] } = Go.Value.string { data := #[] })
              (.chk (IntKind.i64 = IntKind.i64 ∧ Mb.kindOf kd = Mb.kindOf kd)
              (.chk (false = false)
              (.chk (false = false)
              (.chk (IntKind.i64 = IntKind.i64 ∧ Mb.banksOf bk = Mb.banksOf bk)
              (.chk (IntKind.i64 = IntKind.i64 ∧
  Mb.ramOf (Mb.kindOf kd) rm =
    Mb.ramOf (Mb.kindOf kd) rm)
              (.chk (false = false)
              (.chk (IntKind.i64 = IntKind.i64 ∧ Mb.kindOf kd = Mb.kindOf kd)
              (.chk (IntKind.i64 = IntKind.i64 ∧ Mb.banksOf bk = Mb.banksOf bk)
              (.chk (IntKind.i64 = IntKind.i64 ∧
  Mb.ramOf (Mb.kindOf kd) rm =
    Mb.ramOf (Mb.kindOf kd) rm)
              (.chk (Mb.wOn (Mb.kindOf kd) (P i.toNat) (X i.toNat) on =
  Mb.wOn (Mb.kindOf kd) (P i.toNat) (X i.toNat) on)
              (.chk (Mb.wMode (Mb.kindOf kd) (P i.toNat) (X i.toNat) mode =
  Mb.wMode (Mb.kindOf kd) (P i.toNat) (X i.toNat) mode)
              (.chk (IntKind.i64 = IntKind.i64 ∧
  Mb.wLow (Mb.kindOf kd) (P i.toNat) (X i.toNat) low =
    Mb.wLow (Mb.kindOf kd) (P i.toNat) (X i.toNat) low)
              (.chk (IntKind.i64 = IntKind.i64 ∧
  Mb.wHigh (Mb.kindOf kd) (P i.toNat) (X i.toNat) high =
    Mb.wHigh (Mb.kindOf kd) (P i.toNat) (X i.toNat) high)
              (.chk (IntKind.u8 = IntKind.u8 ∧
  Mb.wLast (Mb.kindOf kd) (P i.toNat) (X i.toNat) last =
    Mb.wLast (Mb.kindOf kd) (P i.toNat) (X i.toNat) last)
              (.leaf (.inl ⟨IntKind.i64.wrap (i + (1 : Int)), Mb.wOn (Mb.kindOf kd) (P i.toNat) (X i.toNat) on, Mb.wMode (Mb.kindOf kd) (P i.toNat) (X i.toNat) mode, Mb.wLow (Mb.kindOf kd) (P i.toNat) (X i.toNat) low, Mb.wHigh (Mb.kindOf kd) (P i.toNat) (X i.toNat) high, Mb.wLast (Mb.kindOf kd) (P i.toNat) (X i.toNat) last⟩))))))))))))))))))))))))))))
          (.chk (Mb.W
    (bits BinOp.or IntKind.u16 (bits BinOp.and IntKind.u16 at_ (16384 : Int))
      (bits BinOp.and IntKind.u16 by_ (16383 : Int))) ∧
  ((0 : Int) ≤
        Mb.wLow (Mb.kindOf kd) (P i.toNat) (X i.toNat) low ∧
      Mb.wLow (Mb.kindOf kd) (P i.toNat) (X i.toNat) low <
        (512 : Int)) ∧
    (0 : Int) ≤
        Mb.wHigh (Mb.kindOf kd) (P i.toNat) (X i.toNat) high ∧
      Mb.wHigh (Mb.kindOf kd) (P i.toNat) (X i.toNat) high <
          (16 : Int) ∧
        Mb.banksOf bk ≤ (512 : Int))
          (.chk (Mb.W at_ ∧
  ((0 : Int) ≤
        Mb.wLow (Mb.kindOf kd) (P i.toNat) (X i.toNat) low ∧
      Mb.wLow (Mb.kindOf kd) (P i.toNat) (X i.toNat) low <
        (512 : Int)) ∧
    (0 : Int) ≤
        Mb.wHigh (Mb.kindOf kd) (P i.toNat) (X i.toNat) high ∧
      Mb.wHigh (Mb.kindOf kd) (P i.toNat) (X i.toNat) high <
          (16 : Int) ∧
        Mb.banksOf bk ≤ (512 : Int))
          (.br (IntKind.i64.wrap
    (Mb.rom (Mb.kindOf kd)
        (Mb.banksOf bk)
        (bits BinOp.or IntKind.u16 (bits BinOp.and IntKind.u16 at_ (16384 : Int))
          (bits BinOp.and IntKind.u16 by_ (16383 : Int)))
        (Mb.wLow (Mb.kindOf kd) (P i.toNat) (X i.toNat) low)
        (Mb.wHigh (Mb.kindOf kd) (P i.toNat) (X i.toNat) high)
        (Mb.wMode (Mb.kindOf kd) (P i.toNat) (X i.toNat) mode) -
      Mb.rom (Mb.kindOf kd)
        (Mb.banksOf bk) at_
        (Mb.wLow (Mb.kindOf kd) (P i.toNat) (X i.toNat) low)
        (Mb.wHigh (Mb.kindOf kd) (P i.toNat) (X i.toNat) high)
        (Mb.wMode (Mb.kindOf kd) (P i.toNat) (X i.toNat) mode)) !=
  IntKind.i64.wrap
    (IntKind.i64.wrap
        (bits BinOp.and IntKind.u16
          (bits BinOp.or IntKind.u16 (bits BinOp.and IntKind.u16 at_ (16384 : Int))
            (bits BinOp.and IntKind.u16 by_ (16383 : Int)))
          (16383 : Int)) -
      IntKind.i64.wrap (bits BinOp.and IntKind.u16 at_ (16383 : Int))))
           (.fail "ret")
           (.chk (A = A ∧
  pokeCell P X = pokeCell P X ∧
    (2 : Nat) = (2 : Nat) ∧ len = len ∧ cap = cap)
           (.chk (IntKind.u16 = IntKind.u16 ∧ at_ = at_)
           (.chk (IntKind.u16 = IntKind.u16 ∧ by_ = by_)
           (.chk (IntKind.i64 = IntKind.i64 ∧ (↑len : Int) = (↑len : Int))
           (.chk (IntKind.i64 = IntKind.i64 ∧ IntKind.i64.wrap (i + (1 : Int)) = IntKind.i64.wrap (i + (1 : Int)))
           (.chk (Go.Value.string { data := #[] } = Go.Value.string { data := #[] })
           (.chk (IntKind.i64 = IntKind.i64 ∧ Mb.kindOf kd = Mb.kindOf kd)
           (.chk (false = false)
           (.chk (false = false)
           (.chk (IntKind.i64 = IntKind.i64 ∧ Mb.banksOf bk = Mb.banksOf bk)
           (.chk (IntKind.i64 = IntKind.i64 ∧
  Mb.ramOf (Mb.kindOf kd) rm =
    Mb.ramOf (Mb.kindOf kd) rm)
           (.chk (false = false)
           (.chk (IntKind.i64 = IntKind.i64 ∧ Mb.kindOf kd = Mb.kindOf kd)
           (.chk (IntKind.i64 = IntKind.i64 ∧ Mb.banksOf bk = Mb.banksOf bk)
           (.chk (IntKind.i64 = IntKind.i64 ∧
  Mb.ramOf (Mb.kindOf kd) rm =
    Mb.ramOf (Mb.kindOf kd) rm)
           (.chk (Mb.wOn (Mb.kindOf kd) (P i.toNat) (X i.toNat) on =
  Mb.wOn (Mb.kindOf kd) (P i.toNat) (X i.toNat) on)
           (.chk (Mb.wMode (Mb.kindOf kd) (P i.toNat) (X i.toNat) mode =
  Mb.wMode (Mb.kindOf kd) (P i.toNat) (X i.toNat) mode)
           (.chk (IntKind.i64 = IntKind.i64 ∧
  Mb.wLow (Mb.kindOf kd) (P i.toNat) (X i.toNat) low =
    Mb.wLow (Mb.kindOf kd) (P i.toNat) (X i.toNat) low)
           (.chk (IntKind.i64 = IntKind.i64 ∧
  Mb.wHigh (Mb.kindOf kd) (P i.toNat) (X i.toNat) high =
    Mb.wHigh (Mb.kindOf kd) (P i.toNat) (X i.toNat) high)
           (.chk (IntKind.u8 = IntKind.u8 ∧
  Mb.wLast (Mb.kindOf kd) (P i.toNat) (X i.toNat) last =
    Mb.wLast (Mb.kindOf kd) (P i.toNat) (X i.toNat) last)
           (.leaf (.inl ⟨IntKind.i64.wrap (i + (1 : Int)), Mb.wOn (Mb.kindOf kd) (P i.toNat) (X i.toNat) on, Mb.wMode (Mb.kindOf kd) (P i.toNat) (X i.toNat) mode, Mb.wLow (Mb.kindOf kd) (P i.toNat) (X i.toNat) low, Mb.wHigh (Mb.kindOf kd) (P i.toNat) (X i.toNat) high, Mb.wLast (Mb.kindOf kd) (P i.toNat) (X i.toNat) last⟩)))))))))))))))))))))))))))))))
    (.br (!Mb.sees (Mb.kindOf kd)
    (Mb.ramOf (Mb.kindOf kd) rm) at_
    (Mb.wHigh (Mb.kindOf kd) (P i.toNat) (X i.toNat) high)
    (Mb.wOn (Mb.kindOf kd) (P i.toNat) (X i.toNat) on))
     (.br (Mb.at_ (Mb.kindOf kd)
    (Mb.ramOf (Mb.kindOf kd) rm) at_
    (Mb.wHigh (Mb.kindOf kd) (P i.toNat) (X i.toNat) high)
    (Mb.wOn (Mb.kindOf kd) (P i.toNat) (X i.toNat) on)
    (Mb.wMode (Mb.kindOf kd) (P i.toNat) (X i.toNat) mode) !=
  (0 : Int))
      (.fail "ret")
      (.br (Mb.clk (Mb.kindOf kd)
  (Mb.wHigh (Mb.kindOf kd) (P i.toNat) (X i.toNat) high)
  (Mb.wOn (Mb.kindOf kd) (P i.toNat) (X i.toNat) on))
       (.br (decide
  (Mb.part (Mb.kindOf kd)
      (Mb.wHigh (Mb.kindOf kd) (P i.toNat) (X i.toNat) high)
      (Mb.wOn (Mb.kindOf kd) (P i.toNat) (X i.toNat) on) <
    (0 : Int)))
        (.fail "ret")
        (.br (decide
  (Mb.part (Mb.kindOf kd)
      (Mb.wHigh (Mb.kindOf kd) (P i.toNat) (X i.toNat) high)
      (Mb.wOn (Mb.kindOf kd) (P i.toNat) (X i.toNat) on) >
    (4 : Int)))
         (.fail "ret")
         (.br (Mb.sees (Mb.kindOf kd)
  (Mb.ramOf (Mb.kindOf kd) rm) at_
  (Mb.wHigh (Mb.kindOf kd) (P i.toNat) (X i.toNat) high)
  (Mb.wOn (Mb.kindOf kd) (P i.toNat) (X i.toNat) on))
          (.fail "ret")
          (.chk (Mb.W
    (bits BinOp.or IntKind.u16 (bits BinOp.and IntKind.u16 at_ (16384 : Int))
      (bits BinOp.and IntKind.u16 by_ (16383 : Int))) ∧
  ((0 : Int) ≤
        Mb.wLow (Mb.kindOf kd) (P i.toNat) (X i.toNat) low ∧
      Mb.wLow (Mb.kindOf kd) (P i.toNat) (X i.toNat) low <
        (512 : Int)) ∧
    (0 : Int) ≤
        Mb.wHigh (Mb.kindOf kd) (P i.toNat) (X i.toNat) high ∧
      Mb.wHigh (Mb.kindOf kd) (P i.toNat) (X i.toNat) high <
          (16 : Int) ∧
        Mb.banksOf bk ≤ (512 : Int))
          (.chk (Mb.W at_ ∧
  ((0 : Int) ≤
        Mb.wLow (Mb.kindOf kd) (P i.toNat) (X i.toNat) low ∧
      Mb.wLow (Mb.kindOf kd) (P i.toNat) (X i.toNat) low <
        (512 : Int)) ∧
    (0 : Int) ≤
        Mb.wHigh (Mb.kindOf kd) (P i.toNat) (X i.toNat) high ∧
      Mb.wHigh (Mb.kindOf kd) (P i.toNat) (X i.toNat) high <
          (16 : Int) ∧
        Mb.banksOf bk ≤ (512 : Int))
          (.br (IntKind.i64.wrap
    (Mb.rom (Mb.kindOf kd)
        (Mb.banksOf bk)
        (bits BinOp.or IntKind.u16 (bits BinOp.and IntKind.u16 at_ (16384 : Int))
          (bits BinOp.and IntKind.u16 by_ (16383 : Int)))
        (Mb.wLow (Mb.kindOf kd) (P i.toNat) (X i.toNat) low)
        (Mb.wHigh (Mb.kindOf kd) (P i.toNat) (X i.toNat) high)
        (Mb.wMode (Mb.kindOf kd) (P i.toNat) (X i.toNat) mode) -
      Mb.rom (Mb.kindOf kd)
        (Mb.banksOf bk) at_
        (Mb.wLow (Mb.kindOf kd) (P i.toNat) (X i.toNat) low)
        (Mb.wHigh (Mb.kindOf kd) (P i.toNat) (X i.toNat) high)
        (Mb.wMode (Mb.kindOf kd) (P i.toNat) (X i.toNat) mode)) !=
  IntKind.i64.wrap
    (IntKind.i64.wrap
        (bits BinOp.and IntKind.u16
          (bits BinOp.or IntKind.u16 (bits BinOp.and IntKind.u16 at_ (16384 : Int))
            (bits BinOp.and IntKind.u16 by_ (16383 : Int)))
          (16383 : Int)) -
      IntKind.i64.wrap (bits BinOp.and IntKind.u16 at_ (16383 : Int))))
           (.fail "ret")
           (.chk (A = A ∧
  pokeCell P X = pokeCell P X ∧
    (2 : Nat) = (2 : Nat) ∧ len = len ∧ cap = cap)
           (.chk (IntKind.u16 = IntKind.u16 ∧ at_ = at_)
           (.chk (IntKind.u16 = IntKind.u16 ∧ by_ = by_)
           (.chk (IntKind.i64 = IntKind.i64 ∧ (↑len : Int) = (↑len : Int))
           (.chk (IntKind.i64 = IntKind.i64 ∧ IntKind.i64.wrap (i + (1 : Int)) = IntKind.i64.wrap (i + (1 : Int)))
           (.chk (Go.Value.string { data := #[] } = Go.Value.string { data := #[] })
           (.chk (IntKind.i64 = IntKind.i64 ∧ Mb.kindOf kd = Mb.kindOf kd)
           (.chk (false = false)
           (.chk (false = false)
           (.chk (IntKind.i64 = IntKind.i64 ∧ Mb.banksOf bk = Mb.banksOf bk)
           (.chk (IntKind.i64 = IntKind.i64 ∧
  Mb.ramOf (Mb.kindOf kd) rm =
    Mb.ramOf (Mb.kindOf kd) rm)
           (.chk (false = false)
           (.chk (IntKind.i64 = IntKind.i64 ∧ Mb.kindOf kd = Mb.kindOf kd)
           (.chk (IntKind.i64 = IntKind.i64 ∧ Mb.banksOf bk = Mb.banksOf bk)
           (.chk (IntKind.i64 = IntKind.i64 ∧
  Mb.ramOf (Mb.kindOf kd) rm =
    Mb.ramOf (Mb.kindOf kd) rm)
           (.chk (Mb.wOn (Mb.kindOf kd) (P i.toNat) (X i.toNat) on =
  Mb.wOn (Mb.kindOf kd) (P i.toNat) (X i.toNat) on)
           (.chk (Mb.wMode (Mb.kindOf kd) (P i.toNat) (X i.toNat) mode =
  Mb.wMode (Mb.kindOf kd) (P i.toNat) (X i.toNat) mode)
           (.chk (IntKind.i64 = IntKind.i64 ∧
  Mb.wLow (Mb.kindOf kd) (P i.toNat) (X i.toNat) low =
    Mb.wLow (Mb.kindOf kd) (P i.toNat) (X i.toNat) low)
           (.chk (IntKind.i64 = IntKind.i64 ∧
  Mb.wHigh (Mb.kindOf kd) (P i.toNat) (X i.toNat) high =
    Mb.wHigh (Mb.kindOf kd) (P i.toNat) (X i.toNat) high)
           (.chk (IntKind.u8 = IntKind.u8 ∧
  Mb.wLast (Mb.kindOf kd) (P i.toNat) (X i.toNat) last =
    Mb.wLast (Mb.kindOf kd) (P i.toNat) (X i.toNat) last)
           (.leaf (.inl ⟨IntKind.i64.wrap (i + (1 : Int)), Mb.wOn (Mb.kindOf kd) (P i.toNat) (X i.toNat) on, Mb.wMode (Mb.kindOf kd) (P i.toNat) (X i.toNat) mode, Mb.wLow (Mb.kindOf kd) (P i.toNat) (X i.toNat) low, Mb.wHigh (Mb.kindOf kd) (P i.toNat) (X i.toNat) high, Mb.wLast (Mb.kindOf kd) (P i.toNat) (X i.toNat) last⟩))))))))))))))))))))))))))))
       (.chk (Mb.W
    (bits BinOp.or IntKind.u16 (bits BinOp.and IntKind.u16 at_ (16384 : Int))
      (bits BinOp.and IntKind.u16 by_ (16383 : Int))) ∧
  ((0 : Int) ≤
        Mb.wLow (Mb.kindOf kd) (P i.toNat) (X i.toNat) low ∧
      Mb.wLow (Mb.kindOf kd) (P i.toNat) (X i.toNat) low <
        (512 : Int)) ∧
    (0 : Int) ≤
        Mb.wHigh (Mb.kindOf kd) (P i.toNat) (X i.toNat) high ∧
      Mb.wHigh (Mb.kindOf kd) (P i.toNat) (X i.toNat) high <
          (16 : Int) ∧
        Mb.banksOf bk ≤ (512 : Int))
       (.chk (Mb.W at_ ∧
  ((0 : Int) ≤
        Mb.wLow (Mb.kindOf kd) (P i.toNat) (X i.toNat) low ∧
      Mb.wLow (Mb.kindOf kd) (P i.toNat) (X i.toNat) low <
        (512 : Int)) ∧
    (0 : Int) ≤
        Mb.wHigh (Mb.kindOf kd) (P i.toNat) (X i.toNat) high ∧
      Mb.wHigh (Mb.kindOf kd) (P i.toNat) (X i.toNat) high <
          (16 : Int) ∧
        Mb.banksOf bk ≤ (512 : Int))
       (.br (IntKind.i64.wrap
    (Mb.rom (Mb.kindOf kd)
        (Mb.banksOf bk)
        (bits BinOp.or IntKind.u16 (bits BinOp.and IntKind.u16 at_ (16384 : Int))
          (bits BinOp.and IntKind.u16 by_ (16383 : Int)))
        (Mb.wLow (Mb.kindOf kd) (P i.toNat) (X i.toNat) low)
        (Mb.wHigh (Mb.kindOf kd) (P i.toNat) (X i.toNat) high)
        (Mb.wMode (Mb.kindOf kd) (P i.toNat) (X i.toNat) mode) -
      Mb.rom (Mb.kindOf kd)
        (Mb.banksOf bk) at_
        (Mb.wLow (Mb.kindOf kd) (P i.toNat) (X i.toNat) low)
        (Mb.wHigh (Mb.kindOf kd) (P i.toNat) (X i.toNat) high)
        (Mb.wMode (Mb.kindOf kd) (P i.toNat) (X i.toNat) mode)) !=
  IntKind.i64.wrap
    (IntKind.i64.wrap
        (bits BinOp.and IntKind.u16
          (bits BinOp.or IntKind.u16 (bits BinOp.and IntKind.u16 at_ (16384 : Int))
            (bits BinOp.and IntKind.u16 by_ (16383 : Int)))
          (16383 : Int)) -
      IntKind.i64.wrap (bits BinOp.and IntKind.u16 at_ (16383 : Int))))
        (.fail "ret")
        (.chk (A = A ∧
  pokeCell P X = pokeCell P X ∧
    (2 : Nat) = (2 : Nat) ∧ len = len ∧ cap = cap)
        (.chk (IntKind.u16 = IntKind.u16 ∧ at_ = at_)
        (.chk (IntKind.u16 = IntKind.u16 ∧ by_ = by_)
        (.chk (IntKind.i64 = IntKind.i64 ∧ (↑len : Int) = (↑len : Int))
        (.chk (IntKind.i64 = IntKind.i64 ∧ IntKind.i64.wrap (i + (1 : Int)) = IntKind.i64.wrap (i + (1 : Int)))
        (.chk (Go.Value.string { data := #[] } = Go.Value.string { data := #[] })
        (.chk (IntKind.i64 = IntKind.i64 ∧ Mb.kindOf kd = Mb.kindOf kd)
        (.chk (false = false)
        (.chk (false = false)
        (.chk (IntKind.i64 = IntKind.i64 ∧ Mb.banksOf bk = Mb.banksOf bk)
        (.chk (IntKind.i64 = IntKind.i64 ∧
  Mb.ramOf (Mb.kindOf kd) rm =
    Mb.ramOf (Mb.kindOf kd) rm)
        (.chk (false = false)
        (.chk (IntKind.i64 = IntKind.i64 ∧ Mb.kindOf kd = Mb.kindOf kd)
        (.chk (IntKind.i64 = IntKind.i64 ∧ Mb.banksOf bk = Mb.banksOf bk)
        (.chk (IntKind.i64 = IntKind.i64 ∧
  Mb.ramOf (Mb.kindOf kd) rm =
    Mb.ramOf (Mb.kindOf kd) rm)
        (.chk (Mb.wOn (Mb.kindOf kd) (P i.toNat) (X i.toNat) on =
  Mb.wOn (Mb.kindOf kd) (P i.toNat) (X i.toNat) on)
        (.chk (Mb.wMode (Mb.kindOf kd) (P i.toNat) (X i.toNat) mode =
  Mb.wMode (Mb.kindOf kd) (P i.toNat) (X i.toNat) mode)
        (.chk (IntKind.i64 = IntKind.i64 ∧
  Mb.wLow (Mb.kindOf kd) (P i.toNat) (X i.toNat) low =
    Mb.wLow (Mb.kindOf kd) (P i.toNat) (X i.toNat) low)
        (.chk (IntKind.i64 = IntKind.i64 ∧
  Mb.wHigh (Mb.kindOf kd) (P i.toNat) (X i.toNat) high =
    Mb.wHigh (Mb.kindOf kd) (P i.toNat) (X i.toNat) high)
        (.chk (IntKind.u8 = IntKind.u8 ∧
  Mb.wLast (Mb.kindOf kd) (P i.toNat) (X i.toNat) last =
    Mb.wLast (Mb.kindOf kd) (P i.toNat) (X i.toNat) last)
        (.leaf (.inl ⟨IntKind.i64.wrap (i + (1 : Int)), Mb.wOn (Mb.kindOf kd) (P i.toNat) (X i.toNat) on, Mb.wMode (Mb.kindOf kd) (P i.toNat) (X i.toNat) mode, Mb.wLow (Mb.kindOf kd) (P i.toNat) (X i.toNat) low, Mb.wHigh (Mb.kindOf kd) (P i.toNat) (X i.toNat) high, Mb.wLast (Mb.kindOf kd) (P i.toNat) (X i.toNat) last⟩)))))))))))))))))))))))))))
     (.br (Mb.clk (Mb.kindOf kd)
  (Mb.wHigh (Mb.kindOf kd) (P i.toNat) (X i.toNat) high)
  (Mb.wOn (Mb.kindOf kd) (P i.toNat) (X i.toNat) on))
      (.br (decide
  (Mb.part (Mb.kindOf kd)
      (Mb.wHigh (Mb.kindOf kd) (P i.toNat) (X i.toNat) high)
      (Mb.wOn (Mb.kindOf kd) (P i.toNat) (X i.toNat) on) <
    (0 : Int)))
       (.fail "ret")
       (.br (decide
  (Mb.part (Mb.kindOf kd)
      (Mb.wHigh (Mb.kindOf kd) (P i.toNat) (X i.toNat) high)
      (Mb.wOn (Mb.kindOf kd) (P i.toNat) (X i.toNat) on) >
    (4 : Int)))
        (.fail "ret")
        (.br (Mb.sees (Mb.kindOf kd)
  (Mb.ramOf (Mb.kindOf kd) rm) at_
  (Mb.wHigh (Mb.kindOf kd) (P i.toNat) (X i.toNat) high)
  (Mb.wOn (Mb.kindOf kd) (P i.toNat) (X i.toNat) on))
         (.fail "ret")
         (.chk (Mb.W
    (bits BinOp.or IntKind.u16 (bits BinOp.and IntKind.u16 at_ (16384 : Int))
      (bits BinOp.and IntKind.u16 by_ (16383 : Int))) ∧
  ((0 : Int) ≤
        Mb.wLow (Mb.kindOf kd) (P i.toNat) (X i.toNat) low ∧
      Mb.wLow (Mb.kindOf kd) (P i.toNat) (X i.toNat) low <
        (512 : Int)) ∧
    (0 : Int) ≤
        Mb.wHigh (Mb.kindOf kd) (P i.toNat) (X i.toNat) high ∧
      Mb.wHigh (Mb.kindOf kd) (P i.toNat) (X i.toNat) high <
          (16 : Int) ∧
        Mb.banksOf bk ≤ (512 : Int))
         (.chk (Mb.W at_ ∧
  ((0 : Int) ≤
        Mb.wLow (Mb.kindOf kd) (P i.toNat) (X i.toNat) low ∧
      Mb.wLow (Mb.kindOf kd) (P i.toNat) (X i.toNat) low <
        (512 : Int)) ∧
    (0 : Int) ≤
        Mb.wHigh (Mb.kindOf kd) (P i.toNat) (X i.toNat) high ∧
      Mb.wHigh (Mb.kindOf kd) (P i.toNat) (X i.toNat) high <
          (16 : Int) ∧
        Mb.banksOf bk ≤ (512 : Int))
         (.br (IntKind.i64.wrap
    (Mb.rom (Mb.kindOf kd)
        (Mb.banksOf bk)
        (bits BinOp.or IntKind.u16 (bits BinOp.and IntKind.u16 at_ (16384 : Int))
          (bits BinOp.and IntKind.u16 by_ (16383 : Int)))
        (Mb.wLow (Mb.kindOf kd) (P i.toNat) (X i.toNat) low)
        (Mb.wHigh (Mb.kindOf kd) (P i.toNat) (X i.toNat) high)
        (Mb.wMode (Mb.kindOf kd) (P i.toNat) (X i.toNat) mode) -
      Mb.rom (Mb.kindOf kd)
        (Mb.banksOf bk) at_
        (Mb.wLow (Mb.kindOf kd) (P i.toNat) (X i.toNat) low)
        (Mb.wHigh (Mb.kindOf kd) (P i.toNat) (X i.toNat) high)
        (Mb.wMode (Mb.kindOf kd) (P i.toNat) (X i.toNat) mode)) !=
  IntKind.i64.wrap
    (IntKind.i64.wrap
        (bits BinOp.and IntKind.u16
          (bits BinOp.or IntKind.u16 (bits BinOp.and IntKind.u16 at_ (16384 : Int))
            (bits BinOp.and IntKind.u16 by_ (16383 : Int)))
          (16383 : Int)) -
      IntKind.i64.wrap (bits BinOp.and IntKind.u16 at_ (16383 : Int))))
          (.fail "ret")
          (.chk (A = A ∧
  pokeCell P X = pokeCell P X ∧
    (2 : Nat) = (2 : Nat) ∧ len = len ∧ cap = cap)
          (.chk (IntKind.u16 = IntKind.u16 ∧ at_ = at_)
          (.chk (IntKind.u16 = IntKind.u16 ∧ by_ = by_)
          (.chk (IntKind.i64 = IntKind.i64 ∧ (↑len : Int) = (↑len : Int))
          (.chk (IntKind.i64 = IntKind.i64 ∧ IntKind.i64.wrap (i + (1 : Int)) = IntKind.i64.wrap (i + (1 : Int)))
          (.chk (Go.Value.string { data := #[] } = Go.Value.string { data := #[] })
          (.chk (IntKind.i64 = IntKind.i64 ∧ Mb.kindOf kd = Mb.kindOf kd)
          (.chk (false = false)
          (.chk (false = false)
          (.chk (IntKind.i64 = IntKind.i64 ∧ Mb.banksOf bk = Mb.banksOf bk)
          (.chk (IntKind.i64 = IntKind.i64 ∧
  Mb.ramOf (Mb.kindOf kd) rm =
    Mb.ramOf (Mb.kindOf kd) rm)
          (.chk (false = false)
          (.chk (IntKind.i64 = IntKind.i64 ∧ Mb.kindOf kd = Mb.kindOf kd)
          (.chk (IntKind.i64 = IntKind.i64 ∧ Mb.banksOf bk = Mb.banksOf bk)
          (.chk (IntKind.i64 = IntKind.i64 ∧
  Mb.ramOf (Mb.kindOf kd) rm =
    Mb.ramOf (Mb.kindOf kd) rm)
          (.chk (Mb.wOn (Mb.kindOf kd) (P i.toNat) (X i.toNat) on =
  Mb.wOn (Mb.kindOf kd) (P i.toNat) (X i.toNat) on)
          (.chk (Mb.wMode (Mb.kindOf kd) (P i.toNat) (X i.toNat) mode =
  Mb.wMode (Mb.kindOf kd) (P i.toNat) (X i.toNat) mode)
          (.chk (IntKind.i64 = IntKind.i64 ∧
  Mb.wLow (Mb.kindOf kd) (P i.toNat) (X i.toNat) low =
    Mb.wLow (Mb.kindOf kd) (P i.toNat) (X i.toNat) low)
          (.chk (IntKind.i64 = IntKind.i64 ∧
  Mb.wHigh (Mb.kindOf kd) (P i.toNat) (X i.toNat) high =
    Mb.wHigh (Mb.kindOf kd) (P i.toNat) (X i.toNat) high)
          (.chk (IntKind.u8 = IntKind.u8 ∧
  Mb.wLast (Mb.kindOf kd) (P i.toNat) (X i.toNat) last =
    Mb.wLast (Mb.kindOf kd) (P i.toNat) (X i.toNat) last)
          (.leaf (.inl ⟨IntKind.i64.wrap (i + (1 : Int)), Mb.wOn (Mb.kindOf kd) (P i.toNat) (X i.toNat) on, Mb.wMode (Mb.kindOf kd) (P i.toNat) (X i.toNat) mode, Mb.wLow (Mb.kindOf kd) (P i.toNat) (X i.toNat) low, Mb.wHigh (Mb.kindOf kd) (P i.toNat) (X i.toNat) high, Mb.wLast (Mb.kindOf kd) (P i.toNat) (X i.toNat) last⟩))))))))))))))))))))))))))))
      (.chk (Mb.W
    (bits BinOp.or IntKind.u16 (bits BinOp.and IntKind.u16 at_ (16384 : Int))
      (bits BinOp.and IntKind.u16 by_ (16383 : Int))) ∧
  ((0 : Int) ≤
        Mb.wLow (Mb.kindOf kd) (P i.toNat) (X i.toNat) low ∧
      Mb.wLow (Mb.kindOf kd) (P i.toNat) (X i.toNat) low <
        (512 : Int)) ∧
    (0 : Int) ≤
        Mb.wHigh (Mb.kindOf kd) (P i.toNat) (X i.toNat) high ∧
      Mb.wHigh (Mb.kindOf kd) (P i.toNat) (X i.toNat) high <
          (16 : Int) ∧
        Mb.banksOf bk ≤ (512 : Int))
      (.chk (Mb.W at_ ∧
  ((0 : Int) ≤
        Mb.wLow (Mb.kindOf kd) (P i.toNat) (X i.toNat) low ∧
      Mb.wLow (Mb.kindOf kd) (P i.toNat) (X i.toNat) low <
        (512 : Int)) ∧
    (0 : Int) ≤
        Mb.wHigh (Mb.kindOf kd) (P i.toNat) (X i.toNat) high ∧
      Mb.wHigh (Mb.kindOf kd) (P i.toNat) (X i.toNat) high <
          (16 : Int) ∧
        Mb.banksOf bk ≤ (512 : Int))
      (.br (IntKind.i64.wrap
    (Mb.rom (Mb.kindOf kd)
        (Mb.banksOf bk)
        (bits BinOp.or IntKind.u16 (bits BinOp.and IntKind.u16 at_ (16384 : Int))
          (bits BinOp.and IntKind.u16 by_ (16383 : Int)))
        (Mb.wLow (Mb.kindOf kd) (P i.toNat) (X i.toNat) low)
        (Mb.wHigh (Mb.kindOf kd) (P i.toNat) (X i.toNat) high)
        (Mb.wMode (Mb.kindOf kd) (P i.toNat) (X i.toNat) mode) -
      Mb.rom (Mb.kindOf kd)
        (Mb.banksOf bk) at_
        (Mb.wLow (Mb.kindOf kd) (P i.toNat) (X i.toNat) low)
        (Mb.wHigh (Mb.kindOf kd) (P i.toNat) (X i.toNat) high)
        (Mb.wMode (Mb.kindOf kd) (P i.toNat) (X i.toNat) mode)) !=
  IntKind.i64.wrap
    (IntKind.i64.wrap
        (bits BinOp.and IntKind.u16
          (bits BinOp.or IntKind.u16 (bits BinOp.and IntKind.u16 at_ (16384 : Int))
            (bits BinOp.and IntKind.u16 by_ (16383 : Int)))
          (16383 : Int)) -
      IntKind.i64.wrap (bits BinOp.and IntKind.u16 at_ (16383 : Int))))
       (.fail "ret")
       (.chk (A = A ∧
  pokeCell P X = pokeCell P X ∧
    (2 : Nat) = (2 : Nat) ∧ len = len ∧ cap = cap)
       (.chk (IntKind.u16 = IntKind.u16 ∧ at_ = at_)
       (.chk (IntKind.u16 = IntKind.u16 ∧ by_ = by_)
       (.chk (IntKind.i64 = IntKind.i64 ∧ (↑len : Int) = (↑len : Int))
       (.chk (IntKind.i64 = IntKind.i64 ∧ IntKind.i64.wrap (i + (1 : Int)) = IntKind.i64.wrap (i + (1 : Int)))
       (.chk (Go.Value.string { data := #[] } = Go.Value.string { data := #[] })
       (.chk (IntKind.i64 = IntKind.i64 ∧ Mb.kindOf kd = Mb.kindOf kd)
       (.chk (false = false)
       (.chk (false = false)
       (.chk (IntKind.i64 = IntKind.i64 ∧ Mb.banksOf bk = Mb.banksOf bk)
       (.chk (IntKind.i64 = IntKind.i64 ∧
  Mb.ramOf (Mb.kindOf kd) rm =
    Mb.ramOf (Mb.kindOf kd) rm)
       (.chk (false = false)
       (.chk (IntKind.i64 = IntKind.i64 ∧ Mb.kindOf kd = Mb.kindOf kd)
       (.chk (IntKind.i64 = IntKind.i64 ∧ Mb.banksOf bk = Mb.banksOf bk)
       (.chk (IntKind.i64 = IntKind.i64 ∧
  Mb.ramOf (Mb.kindOf kd) rm =
    Mb.ramOf (Mb.kindOf kd) rm)
       (.chk (Mb.wOn (Mb.kindOf kd) (P i.toNat) (X i.toNat) on =
  Mb.wOn (Mb.kindOf kd) (P i.toNat) (X i.toNat) on)
       (.chk (Mb.wMode (Mb.kindOf kd) (P i.toNat) (X i.toNat) mode =
  Mb.wMode (Mb.kindOf kd) (P i.toNat) (X i.toNat) mode)
       (.chk (IntKind.i64 = IntKind.i64 ∧
  Mb.wLow (Mb.kindOf kd) (P i.toNat) (X i.toNat) low =
    Mb.wLow (Mb.kindOf kd) (P i.toNat) (X i.toNat) low)
       (.chk (IntKind.i64 = IntKind.i64 ∧
  Mb.wHigh (Mb.kindOf kd) (P i.toNat) (X i.toNat) high =
    Mb.wHigh (Mb.kindOf kd) (P i.toNat) (X i.toNat) high)
       (.chk (IntKind.u8 = IntKind.u8 ∧
  Mb.wLast (Mb.kindOf kd) (P i.toNat) (X i.toNat) last =
    Mb.wLast (Mb.kindOf kd) (P i.toNat) (X i.toNat) last)
       (.leaf (.inl ⟨IntKind.i64.wrap (i + (1 : Int)), Mb.wOn (Mb.kindOf kd) (P i.toNat) (X i.toNat) on, Mb.wMode (Mb.kindOf kd) (P i.toNat) (X i.toNat) mode, Mb.wLow (Mb.kindOf kd) (P i.toNat) (X i.toNat) low, Mb.wHigh (Mb.kindOf kd) (P i.toNat) (X i.toNat) high, Mb.wLast (Mb.kindOf kd) (P i.toNat) (X i.toNat) last⟩))))))))))))))))))))))))))))))))))))))))
 (.chk (A = A ∧
  pokeCell P X = pokeCell P X ∧
    (2 : Nat) = (2 : Nat) ∧ len = len ∧ cap = cap)
 (.chk (IntKind.u16 = IntKind.u16 ∧ at_ = at_)
 (.chk (IntKind.u16 = IntKind.u16 ∧ by_ = by_)
 (.chk (IntKind.i64 = IntKind.i64 ∧ (↑len : Int) = (↑len : Int))
 (.chk (IntKind.i64 = IntKind.i64 ∧ i = i)
 (.chk (Go.Value.string { data := #[] } = Go.Value.string { data := #[] })
 (.chk (IntKind.i64 = IntKind.i64 ∧ Mb.kindOf kd = Mb.kindOf kd)
 (.chk (false = false)
 (.chk (false = false)
 (.chk (IntKind.i64 = IntKind.i64 ∧ Mb.banksOf bk = Mb.banksOf bk)
 (.chk (IntKind.i64 = IntKind.i64 ∧
  Mb.ramOf (Mb.kindOf kd) rm =
    Mb.ramOf (Mb.kindOf kd) rm)
 (.chk (false = false)
 (.chk (IntKind.i64 = IntKind.i64 ∧ Mb.kindOf kd = Mb.kindOf kd)
 (.chk (IntKind.i64 = IntKind.i64 ∧ Mb.banksOf bk = Mb.banksOf bk)
 (.chk (IntKind.i64 = IntKind.i64 ∧
  Mb.ramOf (Mb.kindOf kd) rm =
    Mb.ramOf (Mb.kindOf kd) rm)
 (.chk (on = on)
 (.chk (mode = mode)
 (.chk (IntKind.i64 = IntKind.i64 ∧ low = low)
 (.chk (IntKind.i64 = IntKind.i64 ∧ high = high)
 (.chk (IntKind.u8 = IntKind.u8 ∧ last = last)
 (.leaf (.inr ⟨i, on, mode, low, high, last⟩))))))))))))))))))))))) := by kernel_rfl
theorem there_tree (w : World) (A : Option Addr) (P X : Nat → Int) (len cap : Nat) (kd bk rm at_ by_ : Int) :
    callV Try.prog w (flatT Try.prog) (ctrOf table2) (lpOf Try.prog [l7Lp A P X len cap kd bk rm at_ by_]) 20 7 [.v (.one (.int false .u8 kd)), .v (.one (.int false .u8 bk)), .v (.one (.int false .u8 rm)), .v (.one (.xs A (pokeCell P X) 2 len cap)), .v (.one (.int false .u16 at_)), .v (.one (.int false .u16 by_))] =
(.chk (True)
(.br (decide ((↑len : Int) > (100 : Int)))
 (.chk (True)
 (.leaf (.v (.one (.bool true true)))))
 (.chk (Mb.B kd ∧ Mb.B bk ∧ Mb.B rm)
 (.chk (True)
 (.chk (sym.bodyAt Go.Proofs.Try.prog (7 : Go.FuncId) (0 : Nat) = sym.bodyAt Go.Proofs.Try.prog (7 : Go.FuncId) (0 : Nat))
 (.chk (A = A ∧
  pokeCell P X = pokeCell P X ∧
    (2 : Nat) = (2 : Nat) ∧ len = len ∧ cap = cap)
 (.chk (IntKind.u16 = IntKind.u16 ∧ at_ = at_)
 (.chk (IntKind.u16 = IntKind.u16 ∧ by_ = by_)
 (.chk (IntKind.i64 = IntKind.i64 ∧ (↑len : Int) = (↑len : Int))
 (.chk (IntKind.i64 = IntKind.i64 ∧ (0 : Int) = (0 : Int))
 (.chk (Go.Value.string { data := #[] } = Go.Value.string { data := #[] })
 (.chk (IntKind.i64 = IntKind.i64 ∧ Mb.kindOf kd = Mb.kindOf kd)
 (.chk (false = false)
 (.chk (false = false)
 (.chk (IntKind.i64 = IntKind.i64 ∧ Mb.banksOf bk = Mb.banksOf bk)
 (.chk (IntKind.i64 = IntKind.i64 ∧
  Mb.ramOf (Mb.kindOf kd) rm =
    Mb.ramOf (Mb.kindOf kd) rm)
 (.chk (false = false)
 (.chk (IntKind.i64 = IntKind.i64 ∧ Mb.kindOf kd = Mb.kindOf kd)
 (.chk (IntKind.i64 = IntKind.i64 ∧ Mb.banksOf bk = Mb.banksOf bk)
 (.chk (IntKind.i64 = IntKind.i64 ∧
  Mb.ramOf (Mb.kindOf kd) rm =
    Mb.ramOf (Mb.kindOf kd) rm)
 (.chk ((Mb.kindOf kd == (0 : Int)) = (Mb.kindOf kd == (0 : Int)))
 (.chk (false = false)
 (.chk (IntKind.i64 = IntKind.i64 ∧ (1 : Int) = (1 : Int))
 (.chk (IntKind.i64 = IntKind.i64 ∧ (0 : Int) = (0 : Int))
 (.chk (IntKind.u8 = IntKind.u8 ∧ (255 : Int) = (255 : Int))
 (.chk (l7Inv A P X len cap kd bk rm at_ by_ { }
  { i := (0 : Int), on := Mb.kindOf kd == (0 : Int), mode := false, low := (1 : Int),
    high := (0 : Int), last := (255 : Int) })
 (.all fun x : sym.Got l7X
  (l7Post A P X len cap kd bk rm at_ by_ { }) =>
  (.leaf (.v (.one (.bool true true))))))))))))))))))))))))))))))) := by kernel_rfl
theorem banks_512 (b : Int) : 2 ≤ Mb.banksOf b ∧ Mb.banksOf b ≤ 512 := by
  have := Mb.banks_any b
  omega
theorem rom_in {k a bk low high : Int} {mode : Bool} (ba : Mb.W a) (bl : 0 ≤ low ∧ low < 512) (bh : 0 ≤ high ∧ high < 16) : ¬ Mb.rom k (Mb.banksOf bk) a low high mode < 0 ∧ ¬ Mb.rom k (Mb.banksOf bk) a low high mode ≥ IntKind.i64.wrap (16384 * Mb.banksOf bk) := by
  obtain ⟨b1, b2⟩ := banks_512 bk
  have hb := bank_in k (Mb.banksOf bk) a low high mode bl bh
  rw [Mb.wi64 _ (by omega) (by omega)]
  unfold Mb.rom
  omega
theorem at_in {k r a high : Int} {on mode : Bool} (ba : Mb.W a) (bh : 0 ≤ high ∧ high < 16) : (Mb.sees k r a high on = true → ¬ Mb.at_ k r a high on mode < 0 ∧ ¬ Mb.at_ k r a high on mode ≥ r ∧ ¬ a < 40960 ∧ ¬ a > 49151 ∧ (k = 3 → high ≤ 3)) ∧ (Mb.sees k r a high on = false → Mb.at_ k r a high on mode = 0) := by
  refine ⟨fun h => ?_, fun h => ?_⟩
  · have h2 := h
    simp only [Mb.sees, decide_eq_true_eq] at h2
    unfold Mb.at_
    rw [if_pos h]
    have h3 : 0 ≤ Mb.place k a high mode := by
      obtain ⟨a1, a2⟩ := ba
      unfold Mb.place
      repeat' split
      all_goals omega
    refine ⟨?_, ?_, by omega, by omega, by omega⟩
    · have := Int.emod_nonneg (Mb.place k a high mode) (b := r) (by omega); omega
    · have := Int.emod_lt_of_pos (Mb.place k a high mode) (b := r) (by omega); omega
  · unfold Mb.at_
    rw [if_neg (by simp [h])]
theorem part_in {k high : Int} {on : Bool} (h : Mb.clk k high on = true) : ¬ Mb.part k high on < 0 ∧ ¬ Mb.part k high on > 4 ∧ k = 3 ∧ 8 ≤ high := by
  have h2 := h
  simp only [Mb.clk, decide_eq_true_eq] at h2
  unfold Mb.part
  rw [if_pos h]
  omega
theorem lowb {a : Int} (h : Mb.W a) : bits .and .u16 a 16383 = a % 16384 := by
  obtain ⟨n, rfl⟩ := Int.eq_ofNat_of_zero_le h.1
  have := u16_and_nat n 16383 (by have := h.2; omega) (by omega)
  rw [show (16383 : Int) = ((16383 : Nat) : Int) from rfl, this, show (16383 : Nat) = 2 ^ 14 - 1 from rfl, Nat.and_two_pow_sub_one_eq_mod]
  simp
theorem highb {a : Int} (h : Mb.W a) : bits .and .u16 a 16384 = a / 16384 % 2 * 16384 := by
  have := bit16 h 14 (by decide)
  rw [show ((2 ^ 14 : Nat) : Int) = 16384 from rfl] at this
  rw [this]; rfl
theorem near_ok {a b : Int} (h : Mb.W a) (hb : Mb.W b) : bits .or .u16 (bits .and .u16 a 16384) (bits .and .u16 b 16383) = a / 16384 % 2 * 16384 + b % 16384 := by
  rw [highb h, lowb hb]
  obtain ⟨n, rfl⟩ := Int.eq_ofNat_of_zero_le h.1
  obtain ⟨m, rfl⟩ := Int.eq_ofNat_of_zero_le hb.1
  have e := u16_or_nat (n / 16384 % 2 * 16384) (m % 16384) (by omega) (by omega)
  have e1 := Nat.two_pow_add_eq_or_of_lt (show m % 16384 < 2 ^ 14 by omega) (n / 16384 % 2)
  have e2 : n / 16384 % 2 * 16384 = 2 ^ 14 * (n / 16384 % 2) := by omega
  rw [show (n : Int) / 16384 % 2 * 16384 = ((n / 16384 % 2 * 16384 : Nat) : Int) by omega, show (m : Int) % 16384 = ((m % 16384 : Nat) : Int) by omega, e, e2, ← e1]
  omega
theorem near_w {a b : Int} (h : Mb.W a) (hb : Mb.W b) : Mb.W (bits .or .u16 (bits .and .u16 a 16384) (bits .and .u16 b 16383)) := by
  rw [near_ok h hb]
  have := h.1; have := hb.1
  exact ⟨by omega, by omega⟩
theorem apart_ok {k a b bk low high : Int} {mode : Bool} (h : Mb.W a) (hb : Mb.W b) (bl : 0 ≤ low ∧ low < 512) (bh : 0 ≤ high ∧ high < 16) :
    IntKind.i64.wrap (Mb.rom k (Mb.banksOf bk) (bits .or .u16 (bits .and .u16 a 16384) (bits .and .u16 b 16383)) low high mode - Mb.rom k (Mb.banksOf bk) a low high mode) = IntKind.i64.wrap (IntKind.i64.wrap (bits .and .u16 (bits .or .u16 (bits .and .u16 a 16384) (bits .and .u16 b 16383)) 16383) - IntKind.i64.wrap (bits .and .u16 a 16383)) := by
  have hw := near_w h hb
  rw [lowb hw, lowb h]
  rw [near_ok h hb] at hw ⊢
  have e : Mb.bank k (Mb.banksOf bk) (a / 16384 % 2 * 16384 + b % 16384) low high mode = Mb.bank k (Mb.banksOf bk) a low high mode := by
    have e1 : (a / 16384 % 2 * 16384 + b % 16384) / 16384 % 2 = a / 16384 % 2 := by omega
    simp only [Mb.bank, Mb.bankN, e1]
  unfold Mb.rom
  rw [e]
  have h1 := h.1
  rw [Mb.wi64 ((a / 16384 % 2 * 16384 + b % 16384) % 16384) (by omega) (by omega), Mb.wi64 (a % 16384) (by omega) (by omega)]
  congr 1
  omega
def l7Mu (A : Option Addr) (P X : Nat → Int) (len cap : Nat) (kd bk rm at_ by_ : Int) (p : l7P) (x : l7X) : Nat := ((len : Int) - x.i).toNat
theorem l7_step (w : World) (A : Option Addr) (P X : Nat → Int) (len cap : Nat) (kd bk rm at_ by_ : Int) (p : l7P) (x : l7X) (hX : XOk w A (pokeCell P X) 2 len) (hB : ∀ i, i < len → Mb.B (X i)) (hP : ∀ i, i < len → Mb.W (P i)) (hat : Mb.W at_) (hby : Mb.W by_) (h : l7Inv A P X len cap kd bk rm at_ by_ p x) : Hid (roundT Try.prog w (flatT Try.prog) (ctrOf table2) (callT Try.prog w (flatT Try.prog) (ctrOf table2) (noLoop) 20) ((noLoop) 7) (roundOf (bodyAt Try.prog 7 0)) 0 (l7St A P X len cap kd bk rm at_ by_ p) (l7Fin A P X len cap kd bk rm at_ by_ p) l7NxX l7NxX x) (Kept (l7Inv A P X len cap kd bk rm at_ by_ p) (l7Post A P X len cap kd bk rm at_ by_ p) (l7Mu A P X len cap kd bk rm at_ by_ p) x) := by
  obtain ⟨⟩ := p
  obtain ⟨i, on, mode, low, high, last⟩ := x
  constructor
  rw [l7step_tree]
  simp only [T.holds, Kept, l7Mu, and_self, true_and, and_true]
  try simp only [beq_self_eq_true, bne_self_eq_false, Bool.and_true, Bool.true_and, Bool.and_self, Bool.not_true, Bool.not_false, Bool.false_eq_true, Bool.true_eq_false, false_implies, forall_const, and_self, true_and, and_true, if_true, if_false, reduceIte]
  obtain ⟨h1, h2, hl, hk⟩ := h
  simp only at h1 h2 hl hk
  have next : i < (len : Int) → IntKind.i64.wrap (i + 1) = i + 1 := fun hi => Mb.wi64 _ (by omega) (by omega)
  have mu : i < (len : Int) → ((len : Int) - (i + 1)).toNat < ((len : Int) - i).toNat := fun hi => by omega
  refine ⟨fun h => ?_, fun h => ⟨hk⟩⟩
  have hi : i < (len : Int) := by simpa using h
  have hx1 : XOk w A (pokeCell P X) 2 len ∧ 0 ≤ i ∧ i < (len : Int) ∧ 0 < 2 := ⟨hX, h1, hi, by decide⟩
  have hx2 : XOk w A (pokeCell P X) 2 len ∧ 0 < len ∧ 0 < 2 := ⟨hX, by omega, by decide⟩
  have hx3 : XOk w A (pokeCell P X) 2 len ∧ i.toNat < len ∧ 1 ≤ 2 := ⟨hX, by omega, by decide⟩
  have hx4 : XOk w A (pokeCell P X) 2 len ∧ i.toNat < len ∧ 2 ≤ 2 := ⟨hX, by omega, by decide⟩
  have bX := hB i.toNat (by omega)
  have bP := hP i.toNat (by omega)
  have ask : Mb.W (P i.toNat) ∧ Mb.B (X i.toNat) ∧ 0 ≤ low ∧ low < 512 := ⟨bP, bX, hk.low⟩
  rw [next hi]
  have hk' := Mb.w_ok (k := Mb.kindOf kd) (a := P i.toNat) bX hk
  have inv : l7Inv A P X len cap kd bk rm at_ by_ {} ⟨i + 1, Mb.wOn (Mb.kindOf kd) (P i.toNat) (X i.toNat) on, Mb.wMode (Mb.kindOf kd) (P i.toNat) (X i.toNat) mode, Mb.wLow (Mb.kindOf kd) (P i.toNat) (X i.toNat) low, Mb.wHigh (Mb.kindOf kd) (P i.toNat) (X i.toNat) high, Mb.wLast (Mb.kindOf kd) (P i.toNat) (X i.toNat) last⟩ := ⟨by show 0 ≤ i + 1; omega, by show i + 1 ≤ (len : Int); omega, hl, hk'⟩
  have hm := mu hi
  obtain ⟨bl, bh, _⟩ := hk'
  generalize Mb.wOn (Mb.kindOf kd) (P i.toNat) (X i.toNat) on = on' at *
  generalize Mb.wMode (Mb.kindOf kd) (P i.toNat) (X i.toNat) mode = mode' at *
  generalize Mb.wLow (Mb.kindOf kd) (P i.toNat) (X i.toNat) low = low' at *
  generalize Mb.wHigh (Mb.kindOf kd) (P i.toNat) (X i.toNat) high = high' at *
  generalize Mb.wLast (Mb.kindOf kd) (P i.toNat) (X i.toNat) last = last' at *
  have asks : Mb.W at_ ∧ (0 ≤ low' ∧ low' < 512) ∧ 0 ≤ high' ∧ high' < 16 := ⟨hat, bl, bh⟩
  have asks2 : Mb.W at_ ∧ (0 ≤ low' ∧ low' < 512) ∧ 0 ≤ high' ∧ high' < 16 ∧ Mb.banksOf bk ≤ 512 := ⟨hat, bl, bh.1, bh.2, (banks_512 bk).2⟩
  have asks3 : Mb.W (bits .or .u16 (bits .and .u16 at_ 16384) (bits .and .u16 by_ 16383)) ∧ (0 ≤ low' ∧ low' < 512) ∧ 0 ≤ high' ∧ high' < 16 ∧ Mb.banksOf bk ≤ 512 := ⟨near_w hat hby, bl, bh.1, bh.2, (banks_512 bk).2⟩
  obtain ⟨r1, r2⟩ := @rom_in (Mb.kindOf kd) at_ bk low' high' mode' hat bl bh
  obtain ⟨s1, s2⟩ := @at_in (Mb.kindOf kd) (Mb.ramOf (Mb.kindOf kd) rm) at_ high' on' mode' hat bh
  have p1 := @part_in (Mb.kindOf kd) high' on'
  have ap := @apart_ok (Mb.kindOf kd) at_ by_ bk low' high' mode' hat hby bl bh
  repeat' first
    | exact hx1 | exact hx2 | exact hx3 | exact hx4 | exact ask | exact asks | exact asks2 | exact asks3 | exact bh | exact inv | exact hm
    | refine And.intro ?_ ?_
    | intro hh
  all_goals
    exfalso
    clear inv hm hx1 hx2 hx3 hx4 ask asks asks2 asks3
    try simp only [decide_eq_true_eq, decide_eq_false_iff_not, Bool.not_eq_true', Bool.not_eq_false', bne_iff_ne, ne_eq, bne_eq_false_iff_eq] at *
    first
      | contradiction
      | (have q := s1 ‹_›; omega)
      | (have q := s2 ‹_›; omega)
      | (have q := p1 ‹_›; omega)
      | (have q := p1 ‹_›; have q2 := s1 ‹_›; omega)
theorem l7Lp_ok (w : World) (A : Option Addr) (P X : Nat → Int) (len cap : Nat) (kd bk rm at_ by_ : Int) (hX : XOk w A (pokeCell P X) 2 len) (hB : ∀ i, i < len → Mb.B (X i)) (hP : ∀ i, i < len → Mb.W (P i)) (hat : Mb.W at_) (hby : Mb.W by_) : (l7Lp A P X len cap kd bk rm at_ by_).ok Try.prog w := by
  intro s t h
  unfold l7Lp at h
  simp only at h
  split at h
  · rename_i p _
    split at h
    · rename_i x _
      cases h
      exact loop_ok base2 (table2_ok w) (callT_ok base2.mixed base2.names base2.eqs (table2_ok w).ok (table2_ok w).there (loops_none _ _) 20) ((loops_none _ _) 7) (c := roundOf (bodyAt Try.prog 7 0)) (by kernel_rfl) (id := 0) (n := 2) (st := l7St A P X len cap kd bk rm at_ by_ p) (fin := l7Fin A P X len cap kd bk rm at_ by_ p) (inv := l7Inv A P X len cap kd bk rm at_ by_ p) (post := l7Post A P X len cap kd bk rm at_ by_ p) (nx := l7NxX) (fx := l7NxX) (l7Mu A P X len cap kd bk rm at_ by_ p) (fun x => by kernel_rfl) (fun y => by kernel_rfl) (fun x hx => l7_step w A P X len cap kd bk rm at_ by_ p x hX hB hP hat hby hx) s x
    · cases h
  · cases h
set_option maxHeartbeats 4000000 in
theorem there_walk (w : World) (A : Option Addr) (P X : Nat → Int) (len cap : Nat) (kd bk rm at_ by_ : Int) (hX : XOk w A (pokeCell P X) 2 len) (hB : ∀ i, i < len → Mb.B (X i)) (hP : ∀ i, i < len → Mb.W (P i)) (bkd : Mb.B kd) (bbk : Mb.B bk) (brm : Mb.B rm) (hat : Mb.W at_) (hby : Mb.W by_) : Calls Try.prog 7 #[.int .u8 kd, .int .u8 bk, .int .u8 rm, .slice A len cap, .int .u16 at_, .int .u16 by_] w fun e w' => e = .returned (.bool true) ∧ Below w.heap.size w w' := by
  have hl : LcsOk Try.prog w (lpOf Try.prog [l7Lp A P X len cap kd bk rm at_ by_]) := lps_ok fun l hl => by
    simp only [List.mem_cons, List.not_mem_nil, or_false] at hl
    subst hl
    exact l7Lp_ok w A P X len cap kd bk rm at_ by_ hX hB hP hat hby
  refine val_eq base2 (table2_ok w) hl (there_tree w A P X len cap kd bk rm at_ by_) rfl ?_
  simp only [T.holds, and_self, true_and, and_true]
  refine ⟨fun _ => ⟨rfl, rfl⟩, fun h => ⟨⟨bkd, bbk, brm⟩, ⟨by show (0:Int) ≤ 0; omega, by show (0:Int) ≤ (len : Int); omega, by simp at h; omega, ok0⟩, fun y => ⟨rfl, rfl⟩⟩⟩
end Go.Proofs.Ythfloebldapfbaa
