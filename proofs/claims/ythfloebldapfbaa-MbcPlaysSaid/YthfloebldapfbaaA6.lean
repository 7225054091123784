/-
  Walk of a statement of the map, by computing, with its rounds: the map, and what is seen anywhere. Bytes are below 256, places below 65536; no other condition.
-/
import Derived.Test.YthfloebldapfbaaA4
namespace Go.Proofs.Ythfloebldapfbaa
open Go.RowKit sym
set_option linter.unusedVariables false
set_option linter.unusedSimpArgs false
set_option maxRecDepth 100000
def pokeCell (P X : Nat → Int) : Nat → Nat → Sc := fun i q => match q with
  | 0 => .int false .u16 (P i)
  | _ => .int false .u8 (X i)
def byteCell (X : Nat → Int) : Nat → Nat → Sc := fun i _ => .int false .u8 (X i)
theorem ok0 : Mb.Ok 1 0 255 := ⟨⟨by decide, by decide⟩, ⟨by decide, by decide⟩, ⟨by decide, by decide⟩⟩
structure l6P where
structure l6X where
  i : Int
  on : Bool
  mode : Bool
  low : Int
  high : Int
  last : Int
def l6St (A : Option Addr) (P X : Nat → Int) (len cap : Nat) (kd bk rm at_ : Int) : l6P → l6X → ASt := fun ⟨⟩ ⟨i, on, mode, low, high, last⟩ => ⟨slots (List.replicate 148 .any) [(3, .v (.one (.xs A (pokeCell P X) 2 len cap))), (4, .v (.one (.int false .u16 at_))), (11, .v (.one (.ptr 0 0))), (12, .v (.one (.ptr 1 0))), (13, .v (.one (.ptr 2 0))), (42, .v (.one (.int false .i64 (len : Int)))), (43, .v (.one (.int false .i64 i)))], [⟨[.val (.string { data := #[] }), .int false .i64 (Mb.kindOf kd), .bool true false, .bool true false, .int false .i64 (Mb.banksOf bk), .int false .i64 (Mb.ramOf (Mb.kindOf kd) rm), .bool true false], 25⟩, ⟨[.int false .i64 (Mb.kindOf kd), .int false .i64 (Mb.banksOf bk), .int false .i64 (Mb.ramOf (Mb.kindOf kd) rm), .bool false on, .bool false mode, .int false .i64 low, .int false .i64 high, .int false .u8 last], 28⟩, ⟨[.int false .i64 (Mb.kindOf kd), .int false .i64 (Mb.banksOf bk), .int false .i64 (Mb.ramOf (Mb.kindOf kd) rm), .bool false on, .bool false mode, .int false .i64 low, .int false .i64 high, .int false .u8 last], 42⟩]⟩
def l6Fin (A : Option Addr) (P X : Nat → Int) (len cap : Nat) (kd bk rm at_ : Int) : l6P → l6X → ASt := fun ⟨⟩ ⟨i, on, mode, low, high, last⟩ => ⟨slots (List.replicate 148 .any) [(3, .v (.one (.xs A (pokeCell P X) 2 len cap))), (4, .v (.one (.int false .u16 at_))), (11, .v (.one (.ptr 0 0))), (12, .v (.one (.ptr 1 0))), (13, .v (.one (.ptr 2 0))), (42, .v (.one (.int false .i64 (len : Int)))), (43, .v (.one (.int false .i64 i)))], [⟨[.val (.string { data := #[] }), .int false .i64 (Mb.kindOf kd), .bool true false, .bool true false, .int false .i64 (Mb.banksOf bk), .int false .i64 (Mb.ramOf (Mb.kindOf kd) rm), .bool true false], 25⟩, ⟨[.int false .i64 (Mb.kindOf kd), .int false .i64 (Mb.banksOf bk), .int false .i64 (Mb.ramOf (Mb.kindOf kd) rm), .bool false on, .bool false mode, .int false .i64 low, .int false .i64 high, .int false .u8 last], 28⟩, ⟨[.int false .i64 (Mb.kindOf kd), .int false .i64 (Mb.banksOf bk), .int false .i64 (Mb.ramOf (Mb.kindOf kd) rm), .bool false on, .bool false mode, .int false .i64 low, .int false .i64 high, .int false .u8 last], 42⟩]⟩
def l6NxP : ASt → Option l6P := fun st_ => some ⟨⟩
def l6NxX : ASt → Option l6X := fun st_ => match gI st_ 43 with | none => none | some i => match hB st_ 1 3 with | none => none | some on => match hB st_ 1 4 with | none => none | some mode => match hI st_ 1 5 with | none => none | some low => match hI st_ 1 6 with | none => none | some high => match hI st_ 1 7 with | none => none | some last => some ⟨i, on, mode, low, high, last⟩
structure l6Inv (A : Option Addr) (P X : Nat → Int) (len cap : Nat) (kd bk rm at_ : Int) (p : l6P) (x : l6X) : Prop where
  i0 : 0 ≤ x.i
  i1 : x.i ≤ len
  lm : len ≤ 100
  ok : Mb.Ok x.low x.high x.last
structure l6Post (A : Option Addr) (P X : Nat → Int) (len cap : Nat) (kd bk rm at_ : Int) (p : l6P) (x : l6X) : Prop where
  ok : Mb.Ok x.low x.high x.last
def l6Lp (A : Option Addr) (P X : Nat → Int) (len cap : Nat) (kd bk rm at_ : Int) : Lp := ⟨6, 0, fun s => match l6NxP s with
  | some p => match l6NxX s with
    | some x => some (loopT 0 3 (l6St A P X len cap kd bk rm at_ p) (l6Fin A P X len cap kd bk rm at_ p) (l6Inv A P X len cap kd bk rm at_ p) (l6Post A P X len cap kd bk rm at_ p) s x)
    | none => none
  | none => none⟩
theorem l6step_tree (w : World) (A : Option Addr) (P X : Nat → Int) (len cap : Nat) (kd bk rm at_ : Int) (i : Int) (on : Bool) (mode : Bool) (low : Int) (high : Int) (last : Int) :
    roundT Try.prog w (flatT Try.prog) (ctrOf table2) (callT Try.prog w (flatT Try.prog) (ctrOf table2) (noLoop) 20) ((noLoop) 6) (roundOf (bodyAt Try.prog 6 0)) 0 (l6St A P X len cap kd bk rm at_ ⟨⟩) (l6Fin A P X len cap kd bk rm at_ ⟨⟩) l6NxX l6NxX ⟨i, on, mode, low, high, last⟩ =
(.br (decide (i < (↑len : Int)))
 (.chk (sym.XOk w A (pokeCell P X) (2 : Nat) len ∧
  (0 : Int) ≤ i ∧ i < (↑len : Int) ∧ (0 : Nat) < (2 : Nat))
 (.chk (sym.XOk w A (pokeCell P X) (2 : Nat) len ∧
  (0 : Nat) < len ∧ (0 : Nat) < (2 : Nat))
 (.chk (sym.XOk w A (pokeCell P X) (2 : Nat) len ∧
  i.toNat < len ∧ (1 : Nat) ≤ (2 : Nat))
 (.chk (sym.XOk w A (pokeCell P X) (2 : Nat) len ∧
  (0 : Int) ≤ i ∧ i < (↑len : Int) ∧ (0 : Nat) < (2 : Nat))
 (.chk (sym.XOk w A (pokeCell P X) (2 : Nat) len ∧
  (0 : Nat) < len ∧ (0 : Nat) < (2 : Nat))
 (.chk (sym.XOk w A (pokeCell P X) (2 : Nat) len ∧
  i.toNat < len ∧ (2 : Nat) ≤ (2 : Nat))
 (.chk (Mb.W (P i.toNat) ∧
  Mb.B (X i.toNat) ∧ (0 : Int) ≤ low ∧ low < (512 : Int))
 (.chk (sym.XOk w A (pokeCell P X) (2 : Nat) len ∧
  (0 : Int) ≤ i ∧ i < (↑len : Int) ∧ (0 : Nat) < (2 : Nat))
 (.chk (sym.XOk w A (pokeCell P X) (2 : Nat) len ∧
  (0 : Nat) < len ∧ (0 : Nat) < (2 : Nat))
 (.chk (sym.XOk w A (pokeCell P X) (2 : Nat) len ∧
  i.toNat < len ∧ (1 : Nat) ≤ (2 : Nat))
 (.chk (sym.XOk w A (pokeCell P X) (2 : Nat) len ∧
  (0 : Int) ≤ i ∧ i < (↑len : Int) ∧ (0 : Nat) < (2 : Nat))
 (.chk (sym.XOk w A (pokeCell P X) (2 : Nat) len ∧
  (0 : Nat) < len ∧ (0 : Nat) < (2 : Nat))
 (.chk (sym.XOk w A (pokeCell P X) (2 : Nat) len ∧
  i.toNat < len ∧ (2 : Nat) ≤ (2 : Nat))
 (.chk (Mb.W (P i.toNat) ∧
  Mb.B (X i.toNat) ∧ (0 : Int) ≤ low ∧ low < (512 : Int))
 (.chk (Mb.W at_ ∧
  ((0 : Int) ≤
        Mb.wLow (Mb.kindOf kd) (P i.toNat) (X i.toNat) low ∧
      Mb.wLow (Mb.kindOf kd) (P i.toNat) (X i.toNat) low <
        (512 : Int)) ∧
    (0 : Int) ≤
        Mb.wHigh (Mb.kindOf kd) (P i.toNat) (X i.toNat) high ∧
      Mb.wHigh (Mb.kindOf kd) (P i.toNat) (X i.toNat) high <
        (16 : Int))
 (.chk (Mb.W at_ ∧
  ((0 : Int) ≤
        Mb.wLow (Mb.kindOf kd) (P i.toNat) (X i.toNat) low ∧
      Mb.wLow (Mb.kindOf kd) (P i.toNat) (X i.toNat) low <
        (512 : Int)) ∧
    (0 : Int) ≤
        Mb.wHigh (Mb.kindOf kd) (P i.toNat) (X i.toNat) high ∧
      Mb.wHigh (Mb.kindOf kd) (P i.toNat) (X i.toNat) high <
        (16 : Int))
 (.chk ((0 : Int) ≤ Mb.wHigh (Mb.kindOf kd) (P i.toNat) (X i.toNat) high ∧
  Mb.wHigh (Mb.kindOf kd) (P i.toNat) (X i.toNat) high <
    (16 : Int))
 (.chk ((0 : Int) ≤ Mb.wHigh (Mb.kindOf kd) (P i.toNat) (X i.toNat) high ∧
  Mb.wHigh (Mb.kindOf kd) (P i.toNat) (X i.toNat) high <
    (16 : Int))
 (.br (!Mb.wHeld (Mb.kindOf kd) (P i.toNat) (X i.toNat) last ==
    Mb.wHeld (Mb.kindOf kd) (P i.toNat) (X i.toNat) last)
  (.fail "ret")
  (.br (!(Mb.kindOf kd == Mb.kindOf kd &&
    (Mb.banksOf bk == Mb.banksOf bk &&
      (Mb.ramOf (Mb.kindOf kd) rm ==
          Mb.ramOf (Mb.kindOf kd) rm &&
        (Mb.wOn (Mb.kindOf kd) (P i.toNat) (X i.toNat) on ==
            Mb.wOn (Mb.kindOf kd) (P i.toNat) (X i.toNat) on &&
          (Mb.wMode (Mb.kindOf kd) (P i.toNat) (X i.toNat) mode ==
              Mb.wMode (Mb.kindOf kd) (P i.toNat) (X i.toNat)
                mode &&
            (Mb.wLow (Mb.kindOf kd) (P i.toNat) (X i.toNat) low ==
                Mb.wLow (Mb.kindOf kd) (P i.toNat) (X i.toNat)
                  low &&
              (Mb.wHigh (Mb.kindOf kd) (P i.toNat) (X i.toNat)
                    high ==
                  Mb.wHigh (Mb.kindOf kd) (P i.toNat) (X i.toNat)
                    high &&
                (Mb.wLast (Mb.kindOf kd) (P i.toNat) (X i.toNat)
                      last ==
                    Mb.wLast (Mb.kindOf kd) (P i.toNat)
                      (X i.toNat) last &&
                  true)))))))))
   (.fail "ret")
   (.chk (Mb.W at_ ∧
  ((0 : Int) ≤
        Mb.wLow (Mb.kindOf kd) (P i.toNat) (X i.toNat) low ∧
      Mb.wLow (Mb.kindOf kd) (P i.toNat) (X i.toNat) low <
        (512 : Int)) ∧
    (0 : Int) ≤
        Mb.wHigh (Mb.kindOf kd) (P i.toNat) (X i.toNat) high ∧
      Mb.wHigh (Mb.kindOf kd) (P i.toNat) (X i.toNat) high <
        (16 : Int))
   (.chk (Mb.W at_ ∧
  ((0 : Int) ≤
        Mb.wLow (Mb.kindOf kd) (P i.toNat) (X i.toNat) low ∧
      Mb.wLow (Mb.kindOf kd) (P i.toNat) (X i.toNat) low <
        (512 : Int)) ∧
    (0 : Int) ≤
        Mb.wHigh (Mb.kindOf kd) (P i.toNat) (X i.toNat) high ∧
      Mb.wHigh (Mb.kindOf kd) (P i.toNat) (X i.toNat) high <
        (16 : Int))
   (.br (Mb.bank (Mb.kindOf kd) (Mb.banksOf bk)
    at_ (Mb.wLow (Mb.kindOf kd) (P i.toNat) (X i.toNat) low)
    (Mb.wHigh (Mb.kindOf kd) (P i.toNat) (X i.toNat) high)
    (Mb.wMode (Mb.kindOf kd) (P i.toNat) (X i.toNat) mode) !=
  Mb.bank (Mb.kindOf kd)
    (Mb.banksOf bk) at_
    (Mb.wLow (Mb.kindOf kd) (P i.toNat) (X i.toNat) low)
    (Mb.wHigh (Mb.kindOf kd) (P i.toNat) (X i.toNat) high)
    (Mb.wMode (Mb.kindOf kd) (P i.toNat) (X i.toNat) mode))
    (.fail "ret")
    (.chk (Mb.W at_ ∧
  ((0 : Int) ≤
        Mb.wLow (Mb.kindOf kd) (P i.toNat) (X i.toNat) low ∧
      Mb.wLow (Mb.kindOf kd) (P i.toNat) (X i.toNat) low <
        (512 : Int)) ∧
    (0 : Int) ≤
        Mb.wHigh (Mb.kindOf kd) (P i.toNat) (X i.toNat) high ∧
      Mb.wHigh (Mb.kindOf kd) (P i.toNat) (X i.toNat) high <
          (16 : Int) ∧
        Mb.banksOf bk ≤ (512 : Int))
    (.chk (Mb.W at_ ∧
  ((0 : Int) ≤
        Mb.wLow (Mb.kindOf kd) (P i.toNat) (X i.toNat) low ∧
      Mb.wLow (Mb.kindOf kd) (P i.toNat) (X i.toNat) low <
        (512 : Int)) ∧
    (0 : Int) ≤
        Mb.wHigh (Mb.kindOf kd) (P i.toNat) (X i.toNat) high ∧
      Mb.wHigh (Mb.kindOf kd) (P i.toNat) (X i.toNat) high <
          (16 : Int) ∧
        Mb.banksOf bk ≤ (512 : Int))
    (.br (Mb.rom (Mb.kindOf kd) (Mb.banksOf bk)
    at_ (Mb.wLow (Mb.kindOf kd) (P i.toNat) (X i.toNat) low)
    (Mb.wHigh (Mb.kindOf kd) (P i.toNat) (X i.toNat) high)
    (Mb.wMode (Mb.kindOf kd) (P i.toNat) (X i.toNat) mode) !=
  Mb.rom (Mb.kindOf kd) (Mb.banksOf bk)
    at_ (Mb.wLow (Mb.kindOf kd) (P i.toNat) (X i.toNat) low)
    (Mb.wHigh (Mb.kindOf kd) (P i.toNat) (X i.toNat) high)
    (Mb.wMode (Mb.kindOf kd) (P i.toNat) (X i.toNat) mode))
     (.fail "ret")
     (.br (Mb.at_ (Mb.kindOf kd)
    (Mb.ramOf (Mb.kindOf kd) rm) at_
    (Mb.wHigh (Mb.kindOf kd) (P i.toNat) (X i.toNat) high)
    (Mb.wOn (Mb.kindOf kd) (P i.toNat) (X i.toNat) on)
    (Mb.wMode (Mb.kindOf kd) (P i.toNat) (X i.toNat) mode) !=
  Mb.at_ (Mb.kindOf kd)
    (Mb.ramOf (Mb.kindOf kd) rm) at_
    (Mb.wHigh (Mb.kindOf kd) (P i.toNat) (X i.toNat) high)
    (Mb.wOn (Mb.kindOf kd) (P i.toNat) (X i.toNat) on)
    (Mb.wMode (Mb.kindOf kd) (P i.toNat) (X i.toNat) mode))
      (.fail "ret")
      (.br (!Mb.sees (Mb.kindOf kd)
      (Mb.ramOf (Mb.kindOf kd) rm) at_
      (Mb.wHigh (Mb.kindOf kd) (P i.toNat) (X i.toNat) high)
      (Mb.wOn (Mb.kindOf kd) (P i.toNat) (X i.toNat) on) ==
    Mb.sees (Mb.kindOf kd)
      (Mb.ramOf (Mb.kindOf kd) rm) at_
      (Mb.wHigh (Mb.kindOf kd) (P i.toNat) (X i.toNat) high)
      (Mb.wOn (Mb.kindOf kd) (P i.toNat) (X i.toNat) on))
       (.fail "ret")
       (.br (Mb.part (Mb.kindOf kd)
    (Mb.wHigh (Mb.kindOf kd) (P i.toNat) (X i.toNat) high)
    (Mb.wOn (Mb.kindOf kd) (P i.toNat) (X i.toNat) on) !=
  Mb.part (Mb.kindOf kd)
    (Mb.wHigh (Mb.kindOf kd) (P i.toNat) (X i.toNat) high)
    (Mb.wOn (Mb.kindOf kd) (P i.toNat) (X i.toNat) on))
        (.fail "ret")
        (.br (!Mb.clk (Mb.kindOf kd)
      (Mb.wHigh (Mb.kindOf kd) (P i.toNat) (X i.toNat) high)
      (Mb.wOn (Mb.kindOf kd) (P i.toNat) (X i.toNat) on) ==
    Mb.clk (Mb.kindOf kd)
      (Mb.wHigh (Mb.kindOf kd) (P i.toNat) (X i.toNat) high)
      (Mb.wOn (Mb.kindOf kd) (P i.toNat) (X i.toNat) on))
         (.fail "ret")
         (.chk (A = A ∧
  pokeCell P X = pokeCell P X ∧
    (2 : Nat) = (2 : Nat) ∧ len = len ∧ cap = cap)
         (.chk (IntKind.u16 = IntKind.u16 ∧ at_ = at_)
         (.chk (IntKind.i64 = IntKind.i64 ∧ (↑len : Int) = (↑len : Int))
         (.chk (IntKind.i64 = IntKind.i64 ∧ IntKind.i64.wrap (i + (1 : Int)) = IntKind.i64.wrap (i + (1 : Int)))
         (.chk (Go.Value.string { data := #[] } = Go.Value.string { data := #[] })
         (.chk (IntKind.i64 = IntKind.i64 ∧ Mb.kindOf kd = Mb.kindOf kd)
         (.chk (false = false)
         (.chk (false = false)
         (.chk (IntKind.i64 = IntKind.i64 ∧ Mb.banksOf bk = Mb.banksOf bk)
         (.chk (IntKind.i64 = IntKind.i64 ∧
  Mb.ramOf (Mb.kindOf kd) rm =
    Mb.ramOf (Mb.kindOf kd) rm)
         (.chk (false = false)
         (.chk (IntKind.i64 = IntKind.i64 ∧ Mb.kindOf kd = Mb.kindOf kd)
         (.chk (IntKind.i64 = IntKind.i64 ∧ Mb.banksOf bk = Mb.banksOf bk)
         (.chk (IntKind.i64 = IntKind.i64 ∧
  Mb.ramOf (Mb.kindOf kd) rm =
    Mb.ramOf (Mb.kindOf kd) rm)
         (.chk (Mb.wOn (Mb.kindOf kd) (P i.toNat) (X i.toNat) on =
  Mb.wOn (Mb.kindOf kd) (P i.toNat) (X i.toNat) on)
         (.chk (Mb.wMode (Mb.kindOf kd) (P i.toNat) (X i.toNat) mode =
  Mb.wMode (Mb.kindOf kd) (P i.toNat) (X i.toNat) mode)
         (.chk (IntKind.i64 = IntKind.i64 ∧
  Mb.wLow (Mb.kindOf kd) (P i.toNat) (X i.toNat) low =
    Mb.wLow (Mb.kindOf kd) (P i.toNat) (X i.toNat) low)
         (.chk (IntKind.i64 = IntKind.i64 ∧
  Mb.wHigh (Mb.kindOf kd) (P i.toNat) (X i.toNat) high =
    Mb.wHigh (Mb.kindOf kd) (P i.toNat) (X i.toNat) high)
         (.chk (IntKind.u8 = IntKind.u8 ∧
  Mb.wLast (Mb.kindOf kd) (P i.toNat) (X i.toNat) last =
    Mb.wLast (Mb.kindOf kd) (P i.toNat) (X i.toNat) last)
         (.chk (IntKind.i64 = IntKind.i64 ∧ Mb.kindOf kd = Mb.kindOf kd)
         (.chk (IntKind.i64 = IntKind.i64 ∧ Mb.banksOf bk = Mb.banksOf bk)
         (.chk (IntKind.i64 = IntKind.i64 ∧
  Mb.ramOf (Mb.kindOf kd) rm =
    Mb.ramOf (Mb.kindOf kd) rm)
         (.chk (Mb.wOn (Mb.kindOf kd) (P i.toNat) (X i.toNat) on =
  Mb.wOn (Mb.kindOf kd) (P i.toNat) (X i.toNat) on)
         (.chk (Mb.wMode (Mb.kindOf kd) (P i.toNat) (X i.toNat) mode =
  Mb.wMode (Mb.kindOf kd) (P i.toNat) (X i.toNat) mode)
         (.chk (IntKind.i64 = IntKind.i64 ∧
  Mb.wLow (Mb.kindOf kd) (P i.toNat) (X i.toNat) low =
    Mb.wLow (Mb.kindOf kd) (P i.toNat) (X i.toNat) low)
         (.chk (IntKind.i64 = IntKind.i64 ∧
  Mb.wHigh (Mb.kindOf kd) (P i.toNat) (X i.toNat) high =
    Mb.wHigh (Mb.kindOf kd) (P i.toNat) (X i.toNat) high)
         (.chk (IntKind.u8 = IntKind.u8 ∧
  Mb.wLast (Mb.kindOf kd) (P i.toNat) (X i.toNat) last =
    Mb.wLast (Mb.kindOf kd) (P i.toNat) (X i.toNat) last)
         (.leaf (.inl ⟨IntKind.i64.wrap (i + (1 : Int)), Mb.wOn (Mb.kindOf kd) (P i.toNat) (X i.toNat) on, Mb.wMode (Mb.kindOf kd) (P i.toNat) (X i.toNat) mode, Mb.wLow (Mb.kindOf kd) (P i.toNat) (X i.toNat) low, Mb.wHigh (Mb.kindOf kd) (P i.toNat) (X i.toNat) high, Mb.wLast (Mb.kindOf kd) (P i.toNat) (X i.toNat) last⟩)))))))))))))))))))))))))))))))))))))))))))))))))))))))))))
 (.chk (A = A ∧
  pokeCell P X = pokeCell P X ∧
    (2 : Nat) = (2 : Nat) ∧ len = len ∧ cap = cap)
 (.chk (IntKind.u16 = IntKind.u16 ∧ at_ = at_)
 (.chk (IntKind.i64 = IntKind.i64 ∧ (↑len : Int) = (↑len : Int))
 (.chk (IntKind.i64 = IntKind.i64 ∧ i = i)
 (.chk (Go.Value.string { data := #[] } = Go.Value.string { data := #[] })
 (.chk (IntKind.i64 = IntKind.i64 ∧ Mb.kindOf kd = Mb.kindOf kd)
 (.chk (false = false)
 (.chk (false = false)
 (.chk (IntKind.i64 = IntKind.i64 ∧ Mb.banksOf bk = Mb.banksOf bk)
 (.chk (IntKind.i64 = IntKind.i64 ∧
  Mb.ramOf (Mb.kindOf kd) rm =
    Mb.ramOf (Mb.kindOf kd) rm)
 (.chk (false = false)
 (.chk (IntKind.i64 = IntKind.i64 ∧ Mb.kindOf kd = Mb.kindOf kd)
 (.chk (IntKind.i64 = IntKind.i64 ∧ Mb.banksOf bk = Mb.banksOf bk)
 (.chk (IntKind.i64 = IntKind.i64 ∧
  Mb.ramOf (Mb.kindOf kd) rm =
    Mb.ramOf (Mb.kindOf kd) rm)
 (.chk (on = on)
 (.chk (mode = mode)
 (.chk (IntKind.i64 = IntKind.i64 ∧ low = low)
 (.chk (IntKind.i64 = IntKind.i64 ∧ high = high)
 (.chk (IntKind.u8 = IntKind.u8 ∧ last = last)
 (.chk (IntKind.i64 = IntKind.i64 ∧ Mb.kindOf kd = Mb.kindOf kd)
 (.chk (IntKind.i64 = IntKind.i64 ∧ Mb.banksOf bk = Mb.banksOf bk)
 (.chk (IntKind.i64 = IntKind.i64 ∧
  Mb.ramOf (Mb.kindOf kd) rm =
    Mb.ramOf (Mb.kindOf kd) rm)
 (.chk (on = on)
 (.chk (mode = mode)
 (.chk (IntKind.i64 = IntKind.i64 ∧ low = low)
 (.chk (IntKind.i64 = IntKind.i64 ∧ high = high)
 (.chk (IntKind.u8 = IntKind.u8 ∧ last = last)
 (.leaf (.inr ⟨i, on, mode, low, high, last⟩)))))))))))))))))))))))))))))) := by kernel_rfl
theorem plays_tree (w : World) (A : Option Addr) (P X : Nat → Int) (len cap : Nat) (kd bk rm at_ : Int) :
    callV Try.prog w (flatT Try.prog) (ctrOf table2) (lpOf Try.prog [l6Lp A P X len cap kd bk rm at_]) 20 6 [.v (.one (.int false .u8 kd)), .v (.one (.int false .u8 bk)), .v (.one (.int false .u8 rm)), .v (.one (.xs A (pokeCell P X) 2 len cap)), .v (.one (.int false .u16 at_))] =
(.chk (True)
(.br (decide ((↑len : Int) > (100 : Int)))
 (.chk (True)
 (.leaf (.v (.one (.bool true true)))))
 (.chk (Mb.B kd ∧ Mb.B bk ∧ Mb.B rm)
 (.chk (True)
 (.chk (True)
 (.chk (sym.bodyAt Go.Proofs.Try.prog (6 : Go.FuncId) (0 : Nat) = sym.bodyAt Go.Proofs.Try.prog (6 : Go.FuncId) (0 : Nat))
 (.chk (A = A ∧
  pokeCell P X = pokeCell P X ∧
    (2 : Nat) = (2 : Nat) ∧ len = len ∧ cap = cap)
 (.chk (IntKind.u16 = IntKind.u16 ∧ at_ = at_)
 (.chk (IntKind.i64 = IntKind.i64 ∧ (↑len : Int) = (↑len : Int))
 (.chk (IntKind.i64 = IntKind.i64 ∧ (0 : Int) = (0 : Int))
 (.chk (Go.Value.string { data := #[] } = Go.Value.string { data := #[] })
 (.chk (IntKind.i64 = IntKind.i64 ∧ Mb.kindOf kd = Mb.kindOf kd)
 (.chk (false = false)
 (.chk (false = false)
 (.chk (IntKind.i64 = IntKind.i64 ∧ Mb.banksOf bk = Mb.banksOf bk)
 (.chk (IntKind.i64 = IntKind.i64 ∧
  Mb.ramOf (Mb.kindOf kd) rm =
    Mb.ramOf (Mb.kindOf kd) rm)
 (.chk (false = false)
 (.chk (IntKind.i64 = IntKind.i64 ∧ Mb.kindOf kd = Mb.kindOf kd)
 (.chk (IntKind.i64 = IntKind.i64 ∧ Mb.banksOf bk = Mb.banksOf bk)
 (.chk (IntKind.i64 = IntKind.i64 ∧
  Mb.ramOf (Mb.kindOf kd) rm =
    Mb.ramOf (Mb.kindOf kd) rm)
 (.chk ((Mb.kindOf kd == (0 : Int)) = (Mb.kindOf kd == (0 : Int)))
 (.chk (false = false)
 (.chk (IntKind.i64 = IntKind.i64 ∧ (1 : Int) = (1 : Int))
 (.chk (IntKind.i64 = IntKind.i64 ∧ (0 : Int) = (0 : Int))
 (.chk (IntKind.u8 = IntKind.u8 ∧ (255 : Int) = (255 : Int))
 (.chk (IntKind.i64 = IntKind.i64 ∧ Mb.kindOf kd = Mb.kindOf kd)
 (.chk (IntKind.i64 = IntKind.i64 ∧ Mb.banksOf bk = Mb.banksOf bk)
 (.chk (IntKind.i64 = IntKind.i64 ∧
  Mb.ramOf (Mb.kindOf kd) rm =
    Mb.ramOf (Mb.kindOf kd) rm)
 (.chk ((Mb.kindOf kd == (0 : Int)) = (Mb.kindOf kd == (0 : Int)))
 (.chk (false = false)
 (.chk (IntKind.i64 = IntKind.i64 ∧ (1 : Int) = (1 : Int))
 (.chk (IntKind.i64 = IntKind.i64 ∧ (0 : Int) = (0 : Int))
 (.chk (IntKind.u8 = IntKind.u8 ∧ (255 : Int) = (255 : Int))
 (.chk (l6Inv A P X len cap kd bk rm at_ { }
  { i := (0 : Int), on := Mb.kindOf kd == (0 : Int), mode := false, low := (1 : Int),
    high := (0 : Int), last := (255 : Int) })
 (.all fun x : sym.Got l6X
  (l6Post A P X len cap kd bk rm at_ { }) =>
  (.leaf (.v (.one (.bool false (Mb.kindOf kd == Mb.kindOf kd &&
  (Mb.banksOf bk == Mb.banksOf bk &&
    (Mb.ramOf (Mb.kindOf kd) rm ==
        Mb.ramOf (Mb.kindOf kd) rm &&
      (x.1.2 == x.1.2 && (x.1.3 == x.1.3 && (x.1.4 == x.1.4 && (x.1.5 == x.1.5 && (x.1.6 == x.1.6 && true))))))))))))))))))))))))))))))))))))))))))))))) := by kernel_rfl
theorem banks_512 (b : Int) : Mb.banksOf b ≤ 512 := by
  have := Mb.banks_any b
  omega
def l6Mu (A : Option Addr) (P X : Nat → Int) (len cap : Nat) (kd bk rm at_ : Int) (p : l6P) (x : l6X) : Nat := ((len : Int) - x.i).toNat
theorem l6_step (w : World) (A : Option Addr) (P X : Nat → Int) (len cap : Nat) (kd bk rm at_ : Int) (p : l6P) (x : l6X) (hX : XOk w A (pokeCell P X) 2 len) (hB : ∀ i, i < len → Mb.B (X i)) (hP : ∀ i, i < len → Mb.W (P i)) (hat : Mb.W at_) (h : l6Inv A P X len cap kd bk rm at_ p x) : Hid (roundT Try.prog w (flatT Try.prog) (ctrOf table2) (callT Try.prog w (flatT Try.prog) (ctrOf table2) (noLoop) 20) ((noLoop) 6) (roundOf (bodyAt Try.prog 6 0)) 0 (l6St A P X len cap kd bk rm at_ p) (l6Fin A P X len cap kd bk rm at_ p) l6NxX l6NxX x) (Kept (l6Inv A P X len cap kd bk rm at_ p) (l6Post A P X len cap kd bk rm at_ p) (l6Mu A P X len cap kd bk rm at_ p) x) := by
  obtain ⟨⟩ := p
  obtain ⟨i, on, mode, low, high, last⟩ := x
  constructor
  rw [l6step_tree]
  simp only [T.holds, Kept, l6Mu, and_self, true_and, and_true]
  try simp only [beq_self_eq_true, bne_self_eq_false, Bool.and_true, Bool.true_and, Bool.and_self, Bool.not_true, Bool.not_false, Bool.false_eq_true, Bool.true_eq_false, false_implies, forall_const, and_self, true_and, and_true, if_true, if_false, reduceIte]
  obtain ⟨h1, h2, hl, hk⟩ := h
  simp only at h1 h2 hl hk
  have next : i < (len : Int) → IntKind.i64.wrap (i + 1) = i + 1 := fun hi => Mb.wi64 _ (by omega) (by omega)
  have mu : i < (len : Int) → ((len : Int) - (i + 1)).toNat < ((len : Int) - i).toNat := fun hi => by omega
  refine ⟨fun h => ?_, fun h => ⟨hk⟩⟩
  have hi : i < (len : Int) := by simpa using h
  have hx1 : XOk w A (pokeCell P X) 2 len ∧ 0 ≤ i ∧ i < (len : Int) ∧ 0 < 2 := ⟨hX, h1, hi, by decide⟩
  have hx2 : XOk w A (pokeCell P X) 2 len ∧ 0 < len ∧ 0 < 2 := ⟨hX, by omega, by decide⟩
  have hx3 : XOk w A (pokeCell P X) 2 len ∧ i.toNat < len ∧ 1 ≤ 2 := ⟨hX, by omega, by decide⟩
  have hx4 : XOk w A (pokeCell P X) 2 len ∧ i.toNat < len ∧ 2 ≤ 2 := ⟨hX, by omega, by decide⟩
  have bX := hB i.toNat (by omega)
  have bP := hP i.toNat (by omega)
  have ask : Mb.W (P i.toNat) ∧ Mb.B (X i.toNat) ∧ 0 ≤ low ∧ low < 512 := ⟨bP, bX, hk.low⟩
  rw [next hi]
  have hk' := Mb.w_ok (k := Mb.kindOf kd) (a := P i.toNat) bX hk
  have asks : Mb.W at_ ∧ (0 ≤ Mb.wLow (Mb.kindOf kd) (P i.toNat) (X i.toNat) low ∧ Mb.wLow (Mb.kindOf kd) (P i.toNat) (X i.toNat) low < 512) ∧ 0 ≤ Mb.wHigh (Mb.kindOf kd) (P i.toNat) (X i.toNat) high ∧ Mb.wHigh (Mb.kindOf kd) (P i.toNat) (X i.toNat) high < 16 := ⟨hat, hk'.low, hk'.high⟩
  have inv : l6Inv A P X len cap kd bk rm at_ {} ⟨i + 1, Mb.wOn (Mb.kindOf kd) (P i.toNat) (X i.toNat) on, Mb.wMode (Mb.kindOf kd) (P i.toNat) (X i.toNat) mode, Mb.wLow (Mb.kindOf kd) (P i.toNat) (X i.toNat) low, Mb.wHigh (Mb.kindOf kd) (P i.toNat) (X i.toNat) high, Mb.wLast (Mb.kindOf kd) (P i.toNat) (X i.toNat) last⟩ := ⟨by show 0 ≤ i + 1; omega, by show i + 1 ≤ (len : Int); omega, hl, hk'⟩
  have asks2 : Mb.W at_ ∧ (0 ≤ Mb.wLow (Mb.kindOf kd) (P i.toNat) (X i.toNat) low ∧ Mb.wLow (Mb.kindOf kd) (P i.toNat) (X i.toNat) low < 512) ∧ 0 ≤ Mb.wHigh (Mb.kindOf kd) (P i.toNat) (X i.toNat) high ∧ Mb.wHigh (Mb.kindOf kd) (P i.toNat) (X i.toNat) high < 16 ∧ Mb.banksOf bk ≤ 512 := ⟨hat, hk'.low, hk'.high.1, hk'.high.2, banks_512 bk⟩
  have asks3 : 0 ≤ Mb.wHigh (Mb.kindOf kd) (P i.toNat) (X i.toNat) high ∧ Mb.wHigh (Mb.kindOf kd) (P i.toNat) (X i.toNat) high < 16 := hk'.high
  repeat' first
    | exact hx1 | exact hx2 | exact hx3 | exact hx4 | exact ask | exact asks | exact asks2 | exact asks3 | exact inv | exact mu hi
    | refine And.intro ?_ ?_
    | fail
theorem l6Lp_ok (w : World) (A : Option Addr) (P X : Nat → Int) (len cap : Nat) (kd bk rm at_ : Int) (hX : XOk w A (pokeCell P X) 2 len) (hB : ∀ i, i < len → Mb.B (X i)) (hP : ∀ i, i < len → Mb.W (P i)) (hat : Mb.W at_) : (l6Lp A P X len cap kd bk rm at_).ok Try.prog w := by
  intro s t h
  unfold l6Lp at h
  simp only at h
  split at h
  · rename_i p _
    split at h
    · rename_i x _
      cases h
      exact loop_ok base2 (table2_ok w) (callT_ok base2.mixed base2.names base2.eqs (table2_ok w).ok (table2_ok w).there (loops_none _ _) 20) ((loops_none _ _) 6) (c := roundOf (bodyAt Try.prog 6 0)) (by kernel_rfl) (id := 0) (n := 3) (st := l6St A P X len cap kd bk rm at_ p) (fin := l6Fin A P X len cap kd bk rm at_ p) (inv := l6Inv A P X len cap kd bk rm at_ p) (post := l6Post A P X len cap kd bk rm at_ p) (nx := l6NxX) (fx := l6NxX) (l6Mu A P X len cap kd bk rm at_ p) (fun x => by kernel_rfl) (fun y => by kernel_rfl) (fun x hx => l6_step w A P X len cap kd bk rm at_ p x hX hB hP hat hx) s x
    · cases h
  · cases h
set_option maxHeartbeats 4000000 in
theorem plays_walk (w : World) (A : Option Addr) (P X : Nat → Int) (len cap : Nat) (kd bk rm at_ : Int) (hX : XOk w A (pokeCell P X) 2 len) (hB : ∀ i, i < len → Mb.B (X i)) (hP : ∀ i, i < len → Mb.W (P i)) (bkd : Mb.B kd) (bbk : Mb.B bk) (brm : Mb.B rm) (hat : Mb.W at_) : Calls Try.prog 6 #[.int .u8 kd, .int .u8 bk, .int .u8 rm, .slice A len cap, .int .u16 at_] w fun e w' => e = .returned (.bool true) ∧ Below w.heap.size w w' := by
  have hl : LcsOk Try.prog w (lpOf Try.prog [l6Lp A P X len cap kd bk rm at_]) := lps_ok fun l hl => by
    simp only [List.mem_cons, List.not_mem_nil, or_false] at hl
    subst hl
    exact l6Lp_ok w A P X len cap kd bk rm at_ hX hB hP hat
  refine val_eq base2 (table2_ok w) hl (plays_tree w A P X len cap kd bk rm at_) rfl ?_
  simp only [T.holds, and_self, true_and, and_true]
  refine ⟨fun _ => ⟨rfl, rfl⟩, fun h => ⟨⟨bkd, bbk, brm⟩, ⟨by show (0:Int) ≤ 0; omega, by show (0:Int) ≤ (len : Int); omega, by simp at h; omega, ok0⟩, fun y => ?_⟩⟩
  simp only [beq_self_eq_true, Bool.and_self]
  exact ⟨rfl, rfl⟩
end Go.Proofs.Ythfloebldapfbaa
