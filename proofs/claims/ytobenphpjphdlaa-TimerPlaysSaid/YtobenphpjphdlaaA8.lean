/-
  Walk of a statement of the timer, by computing, with its rounds: whatever cycles go by, and whatever is written. Bytes are below 256, the counter below 65536; no other condition.
-/
import Derived.Test.YtobenphpjphdlaaA3
import Derived.Test.YtobenphpjphdlaaSymA
namespace Go.Proofs.Ytobenphpjphdlaa
open Go.RowKit sym
set_option linter.unusedVariables false
set_option linter.unusedSimpArgs false
set_option maxRecDepth 100000
def opCell (K M X : Nat → Int) : Nat → Nat → Sc := fun i q => match q with
  | 0 => .int false .i64 (K i)
  | 1 => .int false .i64 (M i)
  | _ => .int false .u8 (X i)
structure j6P where
  i : Int
  n : Int
  oa : Int
  ob : Int
  oc : Int
structure j6X where
  j : Int
  c : Int
  tima : Int
  tma : Int
  tac : Int
  ov : Bool
def j6St (A : Option Addr) (K M X : Nat → Int) (len cap : Nat) : j6P → j6X → ASt := fun ⟨i, n, oa, ob, oc⟩ ⟨j, c, tima, tma, tac, ov⟩ => ⟨slots (List.replicate 90 .any) [(1, .v (.one (.xs A (opCell K M X) 3 len cap))), (2, .v (.one (.ptr 0 0))), (5, .v (.one (.ptr 1 0))), (6, .v (.one (.int false .i64 i))), (7, .v (.one (.ptr 2 0))), (24, .v (.one (.int false .i64 (len : Int)))), (25, .v (.one (.int false .i64 i))), (39, .v (.one (.int false .i64 n))), (40, .v (.one (.int false .i64 j)))], [⟨[.int false .u16 c, .int false .u8 tima, .int false .u8 tma, .int false .u8 tac, .bool false ov], 32⟩, ⟨[.int false .u16 c, .int false .u8 tima, .int false .u8 tma, .int false .u8 tac, .bool false ov], 25⟩, ⟨[.int false .i64 oa, .int false .i64 ob, .int false .u8 oc], 37⟩]⟩
def j6Fin (A : Option Addr) (K M X : Nat → Int) (len cap : Nat) : j6P → j6X → ASt := fun ⟨i, n, oa, ob, oc⟩ ⟨j, c, tima, tma, tac, ov⟩ => ⟨slots (List.replicate 90 .any) [(1, .v (.one (.xs A (opCell K M X) 3 len cap))), (2, .v (.one (.ptr 0 0))), (5, .v (.one (.ptr 1 0))), (6, .v (.one (.int false .i64 i))), (7, .v (.one (.ptr 2 0))), (24, .v (.one (.int false .i64 (len : Int)))), (25, .v (.one (.int false .i64 i))), (39, .v (.one (.int false .i64 n))), (40, .v (.one (.int false .i64 j)))], [⟨[.int false .u16 c, .int false .u8 tima, .int false .u8 tma, .int false .u8 tac, .bool false ov], 32⟩, ⟨[.int false .u16 c, .int false .u8 tima, .int false .u8 tma, .int false .u8 tac, .bool false ov], 25⟩, ⟨[.int false .i64 oa, .int false .i64 ob, .int false .u8 oc], 37⟩]⟩
def j6NxP : ASt → Option j6P := fun s => match gI s 25 with | none => none | some i => match gI s 39 with | none => none | some n => match hI s 2 0 with | none => none | some oa => match hI s 2 1 with | none => none | some ob => match hI s 2 2 with | none => none | some oc => some ⟨i, n, oa, ob, oc⟩
def j6NxX : ASt → Option j6X := fun s => match gI s 40 with | none => none | some j => match hI s 1 0 with | none => none | some c => match hI s 1 1 with | none => none | some tima => match hI s 1 2 with | none => none | some tma => match hI s 1 3 with | none => none | some tac => match hB s 1 4 with | none => none | some ov => some ⟨j, c, tima, tma, tac, ov⟩
structure j6Inv (A : Option Addr) (K M X : Nat → Int) (len cap : Nat) (p : j6P) (x : j6X) : Prop where
  j0 : 0 ≤ x.j
  j1 : x.j ≤ p.n
  n1 : p.n ≤ 400
  tb : TB x.c x.tima x.tma x.tac
structure j6Post (A : Option Addr) (K M X : Nat → Int) (len cap : Nat) (p : j6P) (x : j6X) : Prop where
  tb : TB x.c x.tima x.tma x.tac
def j6Lp (A : Option Addr) (K M X : Nat → Int) (len cap : Nat) : Lp := ⟨6, 3, fun s => match j6NxP s with
  | some p => match j6NxX s with
    | some x => some (loopT 3 3 (j6St A K M X len cap p) (j6Fin A K M X len cap p) (j6Inv A K M X len cap p) (j6Post A K M X len cap p) s x)
    | none => none
  | none => none⟩
structure d6P where
structure d6X where
  i : Int
  c : Int
  tima : Int
  tma : Int
  tac : Int
  ov : Bool
def d6St (A : Option Addr) (K M X : Nat → Int) (len cap : Nat) : d6P → d6X → ASt := fun ⟨⟩ ⟨i, c, tima, tma, tac, ov⟩ => ⟨slots (List.replicate 90 .any) [(1, .v (.one (.xs A (opCell K M X) 3 len cap))), (2, .v (.one (.ptr 0 0))), (5, .v (.one (.ptr 1 0))), (24, .v (.one (.int false .i64 (len : Int)))), (25, .v (.one (.int false .i64 i)))], [⟨[.int false .u16 c, .int false .u8 tima, .int false .u8 tma, .int false .u8 tac, .bool false ov], 32⟩, ⟨[.int false .u16 c, .int false .u8 tima, .int false .u8 tma, .int false .u8 tac, .bool false ov], 25⟩]⟩
def d6Fin (A : Option Addr) (K M X : Nat → Int) (len cap : Nat) : d6P → d6X → ASt := fun ⟨⟩ ⟨i, c, tima, tma, tac, ov⟩ => ⟨slots (List.replicate 90 .any) [(1, .v (.one (.xs A (opCell K M X) 3 len cap))), (2, .v (.one (.ptr 0 0))), (5, .v (.one (.ptr 1 0))), (24, .v (.one (.int false .i64 (len : Int)))), (25, .v (.one (.int false .i64 i)))], [⟨[.int false .u16 c, .int false .u8 tima, .int false .u8 tma, .int false .u8 tac, .bool false ov], 32⟩, ⟨[.int false .u16 c, .int false .u8 tima, .int false .u8 tma, .int false .u8 tac, .bool false ov], 25⟩]⟩
def d6NxP : ASt → Option d6P := fun s => some ⟨⟩
def d6NxX : ASt → Option d6X := fun s => match gI s 25 with | none => none | some i => match hI s 1 0 with | none => none | some c => match hI s 1 1 with | none => none | some tima => match hI s 1 2 with | none => none | some tma => match hI s 1 3 with | none => none | some tac => match hB s 1 4 with | none => none | some ov => some ⟨i, c, tima, tma, tac, ov⟩
structure d6Inv (A : Option Addr) (K M X : Nat → Int) (len cap : Nat) (p : d6P) (x : d6X) : Prop where
  i0 : 0 ≤ x.i
  i1 : x.i ≤ len
  lm : len ≤ 60
  tb : TB x.c x.tima x.tma x.tac
structure d6Post (A : Option Addr) (K M X : Nat → Int) (len cap : Nat) (p : d6P) (x : d6X) : Prop where
  tb : True
def d6Lp (A : Option Addr) (K M X : Nat → Int) (len cap : Nat) : Lp := ⟨6, 0, fun s => match d6NxP s with
  | some p => match d6NxX s with
    | some x => some (loopT 0 2 (d6St A K M X len cap p) (d6Fin A K M X len cap p) (d6Inv A K M X len cap p) (d6Post A K M X len cap p) s x)
    | none => none
  | none => none⟩
theorem j6step_tree (w : World) (A : Option Addr) (K M X : Nat → Int) (len cap : Nat) (i : Int) (n : Int) (oa : Int) (ob : Int) (oc : Int) (j : Int) (c : Int) (tima : Int) (tma : Int) (tac : Int) (ov : Bool) :
    roundT Try.prog w (flatT Try.prog) (ctrOf table) (callT Try.prog w (flatT Try.prog) (ctrOf table) (noLoop) 20) ((noLoop) 6) (roundOf (bodyAt Try.prog 6 3)) 3 (j6St A K M X len cap ⟨i, n, oa, ob, oc⟩) (j6Fin A K M X len cap ⟨i, n, oa, ob, oc⟩) j6NxX j6NxX ⟨j, c, tima, tma, tac, ov⟩ =
(.br (decide (j < n))
 (.chk (TB c tima tma tac)
 (.chk (TB c tima tma tac)
 (.br (!ov == ov)
  (.fail "ret")
  (.br (!(Tm.tkC c == Tm.tkC c &&
    (Tm.tkT c tima tma tac ov == Tm.tkT c tima tma tac ov &&
      (tma == tma &&
        (tac == tac &&
          (Tm.tkO c tima tma tac ov == Tm.tkO c tima tma tac ov &&
            true))))))
   (.fail "ret")
   (.chk (A = A ∧
  opCell K M X = opCell K M X ∧
    (3 : Nat) = (3 : Nat) ∧ len = len ∧ cap = cap)
   (.chk (IntKind.i64 = IntKind.i64 ∧ i = i)
   (.chk (IntKind.i64 = IntKind.i64 ∧ (↑len : Int) = (↑len : Int))
   (.chk (IntKind.i64 = IntKind.i64 ∧ i = i)
   (.chk (IntKind.i64 = IntKind.i64 ∧ n = n)
   (.chk (IntKind.i64 = IntKind.i64 ∧ IntKind.i64.wrap (j + (1 : Int)) = IntKind.i64.wrap (j + (1 : Int)))
   (.chk (IntKind.u16 = IntKind.u16 ∧ Tm.tkC c = Tm.tkC c)
   (.chk (IntKind.u8 = IntKind.u8 ∧
  Tm.tkT c tima tma tac ov = Tm.tkT c tima tma tac ov)
   (.chk (IntKind.u8 = IntKind.u8 ∧ tma = tma)
   (.chk (IntKind.u8 = IntKind.u8 ∧ tac = tac)
   (.chk (Tm.tkO c tima tma tac ov = Tm.tkO c tima tma tac ov)
   (.chk (IntKind.u16 = IntKind.u16 ∧ Tm.tkC c = Tm.tkC c)
   (.chk (IntKind.u8 = IntKind.u8 ∧
  Tm.tkT c tima tma tac ov = Tm.tkT c tima tma tac ov)
   (.chk (IntKind.u8 = IntKind.u8 ∧ tma = tma)
   (.chk (IntKind.u8 = IntKind.u8 ∧ tac = tac)
   (.chk (Tm.tkO c tima tma tac ov = Tm.tkO c tima tma tac ov)
   (.chk (IntKind.i64 = IntKind.i64 ∧ oa = oa)
   (.chk (IntKind.i64 = IntKind.i64 ∧ ob = ob)
   (.chk (IntKind.u8 = IntKind.u8 ∧ oc = oc)
   (.leaf (.inl ⟨IntKind.i64.wrap (j + (1 : Int)), Tm.tkC c, Tm.tkT c tima tma tac ov, tma, tac, Tm.tkO c tima tma tac ov⟩)))))))))))))))))))))))))
 (.chk (A = A ∧
  opCell K M X = opCell K M X ∧
    (3 : Nat) = (3 : Nat) ∧ len = len ∧ cap = cap)
 (.chk (IntKind.i64 = IntKind.i64 ∧ i = i)
 (.chk (IntKind.i64 = IntKind.i64 ∧ (↑len : Int) = (↑len : Int))
 (.chk (IntKind.i64 = IntKind.i64 ∧ i = i)
 (.chk (IntKind.i64 = IntKind.i64 ∧ n = n)
 (.chk (IntKind.i64 = IntKind.i64 ∧ j = j)
 (.chk (IntKind.u16 = IntKind.u16 ∧ c = c)
 (.chk (IntKind.u8 = IntKind.u8 ∧ tima = tima)
 (.chk (IntKind.u8 = IntKind.u8 ∧ tma = tma)
 (.chk (IntKind.u8 = IntKind.u8 ∧ tac = tac)
 (.chk (ov = ov)
 (.chk (IntKind.u16 = IntKind.u16 ∧ c = c)
 (.chk (IntKind.u8 = IntKind.u8 ∧ tima = tima)
 (.chk (IntKind.u8 = IntKind.u8 ∧ tma = tma)
 (.chk (IntKind.u8 = IntKind.u8 ∧ tac = tac)
 (.chk (ov = ov)
 (.chk (IntKind.i64 = IntKind.i64 ∧ oa = oa)
 (.chk (IntKind.i64 = IntKind.i64 ∧ ob = ob)
 (.chk (IntKind.u8 = IntKind.u8 ∧ oc = oc)
 (.leaf (.inr ⟨j, c, tima, tma, tac, ov⟩)))))))))))))))))))))) := by kernel_rfl
theorem d6step_tree (w : World) (A : Option Addr) (K M X : Nat → Int) (len cap : Nat) (i : Int) (c : Int) (tima : Int) (tma : Int) (tac : Int) (ov : Bool) :
    roundT Try.prog w (flatT Try.prog) (ctrOf table) (callT Try.prog w (flatT Try.prog) (ctrOf table) (lpOf Try.prog [j6Lp A K M X len cap]) 20) ((lpOf Try.prog [j6Lp A K M X len cap]) 6) (roundOf (bodyAt Try.prog 6 0)) 0 (d6St A K M X len cap ⟨⟩) (d6Fin A K M X len cap ⟨⟩) d6NxX d6NxX ⟨i, c, tima, tma, tac, ov⟩ =
(.br (decide (i < (↑len : Int)))
 (.chk (sym.XOk w A (opCell K M X) (3 : Nat) len ∧
  (0 : Int) ≤ i ∧ i < (↑len : Int) ∧ (0 : Nat) < (3 : Nat))
 (.chk (sym.XOk w A (opCell K M X) (3 : Nat) len ∧
  (0 : Nat) < (3 : Nat) ∧ i.toNat < len ∧ (3 : Nat) ≤ (3 : Nat))
 (.br (K i.toNat == (1 : Int))
  (.chk (sym.bodyAt Go.Proofs.Try.prog (6 : Go.FuncId) (3 : Nat) = sym.bodyAt Go.Proofs.Try.prog (6 : Go.FuncId) (3 : Nat))
  (.chk (A = A ∧
  opCell K M X = opCell K M X ∧
    (3 : Nat) = (3 : Nat) ∧ len = len ∧ cap = cap)
  (.chk (IntKind.i64 = IntKind.i64 ∧ i = i)
  (.chk (IntKind.i64 = IntKind.i64 ∧ (↑len : Int) = (↑len : Int))
  (.chk (IntKind.i64 = IntKind.i64 ∧ i = i)
  (.chk (IntKind.i64 = IntKind.i64 ∧
  (if true = true then
      if
          (if false = true then if (400 : Int) > M i.toNat then (400 : Int) else M i.toNat
            else if (400 : Int) < M i.toNat then (400 : Int) else M i.toNat) >
            (0 : Int) then
        if false = true then if (400 : Int) > M i.toNat then (400 : Int) else M i.toNat
        else if (400 : Int) < M i.toNat then (400 : Int) else M i.toNat
      else (0 : Int)
    else
      if
          (if false = true then if (400 : Int) > M i.toNat then (400 : Int) else M i.toNat
            else if (400 : Int) < M i.toNat then (400 : Int) else M i.toNat) <
            (0 : Int) then
        if false = true then if (400 : Int) > M i.toNat then (400 : Int) else M i.toNat
        else if (400 : Int) < M i.toNat then (400 : Int) else M i.toNat
      else (0 : Int)) =
    if true = true then
      if
          (if false = true then if (400 : Int) > M i.toNat then (400 : Int) else M i.toNat
            else if (400 : Int) < M i.toNat then (400 : Int) else M i.toNat) >
            (0 : Int) then
        if false = true then if (400 : Int) > M i.toNat then (400 : Int) else M i.toNat
        else if (400 : Int) < M i.toNat then (400 : Int) else M i.toNat
      else (0 : Int)
    else
      if
          (if false = true then if (400 : Int) > M i.toNat then (400 : Int) else M i.toNat
            else if (400 : Int) < M i.toNat then (400 : Int) else M i.toNat) <
            (0 : Int) then
        if false = true then if (400 : Int) > M i.toNat then (400 : Int) else M i.toNat
        else if (400 : Int) < M i.toNat then (400 : Int) else M i.toNat
      else (0 : Int))
  (.chk (IntKind.i64 = IntKind.i64 ∧ (0 : Int) = (0 : Int))
  (.chk (IntKind.u16 = IntKind.u16 ∧ c = c)
  (.chk (IntKind.u8 = IntKind.u8 ∧ tima = tima)
  (.chk (IntKind.u8 = IntKind.u8 ∧ tma = tma)
  (.chk (IntKind.u8 = IntKind.u8 ∧ tac = tac)
  (.chk (ov = ov)
  (.chk (IntKind.u16 = IntKind.u16 ∧ c = c)
  (.chk (IntKind.u8 = IntKind.u8 ∧ tima = tima)
  (.chk (IntKind.u8 = IntKind.u8 ∧ tma = tma)
  (.chk (IntKind.u8 = IntKind.u8 ∧ tac = tac)
  (.chk (ov = ov)
  (.chk (IntKind.i64 = IntKind.i64 ∧ K i.toNat = K i.toNat)
  (.chk (IntKind.i64 = IntKind.i64 ∧ M i.toNat = M i.toNat)
  (.chk (IntKind.u8 = IntKind.u8 ∧ X i.toNat = X i.toNat)
  (.chk (j6Inv A K M X len cap
  { i := i,
    n :=
      if true = true then
        if
            (if false = true then if (400 : Int) > M i.toNat then (400 : Int) else M i.toNat
              else if (400 : Int) < M i.toNat then (400 : Int) else M i.toNat) >
              (0 : Int) then
          if false = true then if (400 : Int) > M i.toNat then (400 : Int) else M i.toNat
          else if (400 : Int) < M i.toNat then (400 : Int) else M i.toNat
        else (0 : Int)
      else
        if
            (if false = true then if (400 : Int) > M i.toNat then (400 : Int) else M i.toNat
              else if (400 : Int) < M i.toNat then (400 : Int) else M i.toNat) <
              (0 : Int) then
          if false = true then if (400 : Int) > M i.toNat then (400 : Int) else M i.toNat
          else if (400 : Int) < M i.toNat then (400 : Int) else M i.toNat
        else (0 : Int),
    oa := K i.toNat, ob := M i.toNat, oc := X i.toNat }
  { j := (0 : Int), c := c, tima := tima, tma := tma, tac := tac, ov := ov })
  (.all fun x : sym.Got j6X
  (j6Post A K M X len cap
    { i := i,
      n :=
        if true = true then
          if
              (if false = true then if (400 : Int) > M i.toNat then (400 : Int) else M i.toNat
                else if (400 : Int) < M i.toNat then (400 : Int) else M i.toNat) >
                (0 : Int) then
            if false = true then if (400 : Int) > M i.toNat then (400 : Int) else M i.toNat
            else if (400 : Int) < M i.toNat then (400 : Int) else M i.toNat
          else (0 : Int)
        else
          if
              (if false = true then if (400 : Int) > M i.toNat then (400 : Int) else M i.toNat
                else if (400 : Int) < M i.toNat then (400 : Int) else M i.toNat) <
                (0 : Int) then
            if false = true then if (400 : Int) > M i.toNat then (400 : Int) else M i.toNat
            else if (400 : Int) < M i.toNat then (400 : Int) else M i.toNat
          else (0 : Int),
      oa := K i.toNat, ob := M i.toNat, oc := X i.toNat }) =>
   (.br (!(x.1.2 == x.1.2 && (x.1.3 == x.1.3 && (x.1.4 == x.1.4 && (x.1.5 == x.1.5 && (x.1.6 == x.1.6 && true))))))
    (.fail "ret")
    (.chk (TB x.1.2 x.1.3 x.1.4 x.1.5)
    (.chk (TB x.1.2 x.1.3 x.1.4 x.1.5)
    (.br (Tm.rd (M i.toNat) x.1.2 x.1.3 x.1.4 x.1.5 !=
  Tm.rd (M i.toNat) x.1.2 x.1.3 x.1.4 x.1.5)
     (.fail "ret")
     (.chk (A = A ∧
  opCell K M X = opCell K M X ∧
    (3 : Nat) = (3 : Nat) ∧ len = len ∧ cap = cap)
     (.chk (IntKind.i64 = IntKind.i64 ∧ (↑len : Int) = (↑len : Int))
     (.chk (IntKind.i64 = IntKind.i64 ∧ IntKind.i64.wrap (i + (1 : Int)) = IntKind.i64.wrap (i + (1 : Int)))
     (.chk (IntKind.u16 = IntKind.u16 ∧ x.1.2 = x.1.2)
     (.chk (IntKind.u8 = IntKind.u8 ∧ x.1.3 = x.1.3)
     (.chk (IntKind.u8 = IntKind.u8 ∧ x.1.4 = x.1.4)
     (.chk (IntKind.u8 = IntKind.u8 ∧ x.1.5 = x.1.5)
     (.chk (x.1.6 = x.1.6)
     (.chk (IntKind.u16 = IntKind.u16 ∧ x.1.2 = x.1.2)
     (.chk (IntKind.u8 = IntKind.u8 ∧ x.1.3 = x.1.3)
     (.chk (IntKind.u8 = IntKind.u8 ∧ x.1.4 = x.1.4)
     (.chk (IntKind.u8 = IntKind.u8 ∧ x.1.5 = x.1.5)
     (.chk (x.1.6 = x.1.6)
     (.leaf (.inl ⟨IntKind.i64.wrap (i + (1 : Int)), x.1.2, x.1.3, x.1.4, x.1.5, x.1.6⟩)))))))))))))))))))))))))))))))))))))))))
  (.br (K i.toNat == (2 : Int))
   (.chk (TB c tima tma tac ∧ Tm.B (X i.toNat))
   (.chk (TB c tima tma tac ∧ Tm.B (X i.toNat))
   (.br (!(Tm.wC (M i.toNat) c == Tm.wC (M i.toNat) c &&
    (Tm.wT (M i.toNat) (X i.toNat) c tima tac ==
        Tm.wT (M i.toNat) (X i.toNat) c tima tac &&
      (Tm.wM (M i.toNat) (X i.toNat) tma ==
          Tm.wM (M i.toNat) (X i.toNat) tma &&
        (Tm.wA (M i.toNat) (X i.toNat) tac ==
            Tm.wA (M i.toNat) (X i.toNat) tac &&
          (Tm.wO (M i.toNat) (X i.toNat) c tima tac ov ==
              Tm.wO (M i.toNat) (X i.toNat) c tima tac ov &&
            true))))))
    (.fail "ret")
    (.chk (TB (Tm.wC (M i.toNat) c)
  (Tm.wT (M i.toNat) (X i.toNat) c tima tac)
  (Tm.wM (M i.toNat) (X i.toNat) tma)
  (Tm.wA (M i.toNat) (X i.toNat) tac))
    (.chk (TB (Tm.wC (M i.toNat) c)
  (Tm.wT (M i.toNat) (X i.toNat) c tima tac)
  (Tm.wM (M i.toNat) (X i.toNat) tma)
  (Tm.wA (M i.toNat) (X i.toNat) tac))
    (.br (Tm.rd (M i.toNat) (Tm.wC (M i.toNat) c)
    (Tm.wT (M i.toNat) (X i.toNat) c tima tac)
    (Tm.wM (M i.toNat) (X i.toNat) tma)
    (Tm.wA (M i.toNat) (X i.toNat) tac) !=
  Tm.rd (M i.toNat) (Tm.wC (M i.toNat) c)
    (Tm.wT (M i.toNat) (X i.toNat) c tima tac)
    (Tm.wM (M i.toNat) (X i.toNat) tma)
    (Tm.wA (M i.toNat) (X i.toNat) tac))
     (.fail "ret")
     (.chk (A = A ∧
  opCell K M X = opCell K M X ∧
    (3 : Nat) = (3 : Nat) ∧ len = len ∧ cap = cap)
     (.chk (IntKind.i64 = IntKind.i64 ∧ (↑len : Int) = (↑len : Int))
     (.chk (IntKind.i64 = IntKind.i64 ∧ IntKind.i64.wrap (i + (1 : Int)) = IntKind.i64.wrap (i + (1 : Int)))
     (.chk (IntKind.u16 = IntKind.u16 ∧
  Tm.wC (M i.toNat) c = Tm.wC (M i.toNat) c)
     (.chk (IntKind.u8 = IntKind.u8 ∧
  Tm.wT (M i.toNat) (X i.toNat) c tima tac =
    Tm.wT (M i.toNat) (X i.toNat) c tima tac)
     (.chk (IntKind.u8 = IntKind.u8 ∧
  Tm.wM (M i.toNat) (X i.toNat) tma =
    Tm.wM (M i.toNat) (X i.toNat) tma)
     (.chk (IntKind.u8 = IntKind.u8 ∧
  Tm.wA (M i.toNat) (X i.toNat) tac =
    Tm.wA (M i.toNat) (X i.toNat) tac)
     (.chk (Tm.wO (M i.toNat) (X i.toNat) c tima tac ov =
  Tm.wO (M i.toNat) (X i.toNat) c tima tac ov)
     (.chk (IntKind.u16 = IntKind.u16 ∧
  Tm.wC (M i.toNat) c = Tm.wC (M i.toNat) c)
     (.chk (IntKind.u8 = IntKind.u8 ∧
  Tm.wT (M i.toNat) (X i.toNat) c tima tac =
    Tm.wT (M i.toNat) (X i.toNat) c tima tac)
     (.chk (IntKind.u8 = IntKind.u8 ∧
  Tm.wM (M i.toNat) (X i.toNat) tma =
    Tm.wM (M i.toNat) (X i.toNat) tma)
     (.chk (IntKind.u8 = IntKind.u8 ∧
  Tm.wA (M i.toNat) (X i.toNat) tac =
    Tm.wA (M i.toNat) (X i.toNat) tac)
     (.chk (Tm.wO (M i.toNat) (X i.toNat) c tima tac ov =
  Tm.wO (M i.toNat) (X i.toNat) c tima tac ov)
     (.leaf (.inl ⟨IntKind.i64.wrap (i + (1 : Int)), Tm.wC (M i.toNat) c, Tm.wT (M i.toNat) (X i.toNat) c tima tac, Tm.wM (M i.toNat) (X i.toNat) tma, Tm.wA (M i.toNat) (X i.toNat) tac, Tm.wO (M i.toNat) (X i.toNat) c tima tac ov⟩)))))))))))))))))))))
   (.br (!(c == c && (tima == tima && (tma == tma && (tac == tac && (ov == ov && true))))))
    (.fail "ret")
    (.chk (TB c tima tma tac)
    (.chk (TB c tima tma tac)
    (.br (Tm.rd (M i.toNat) c tima tma tac !=
  Tm.rd (M i.toNat) c tima tma tac)
     (.fail "ret")
     (.chk (A = A ∧
  opCell K M X = opCell K M X ∧
    (3 : Nat) = (3 : Nat) ∧ len = len ∧ cap = cap)
     (.chk (IntKind.i64 = IntKind.i64 ∧ (↑len : Int) = (↑len : Int))
     (.chk (IntKind.i64 = IntKind.i64 ∧ IntKind.i64.wrap (i + (1 : Int)) = IntKind.i64.wrap (i + (1 : Int)))
     (.chk (IntKind.u16 = IntKind.u16 ∧ c = c)
     (.chk (IntKind.u8 = IntKind.u8 ∧ tima = tima)
     (.chk (IntKind.u8 = IntKind.u8 ∧ tma = tma)
     (.chk (IntKind.u8 = IntKind.u8 ∧ tac = tac)
     (.chk (ov = ov)
     (.chk (IntKind.u16 = IntKind.u16 ∧ c = c)
     (.chk (IntKind.u8 = IntKind.u8 ∧ tima = tima)
     (.chk (IntKind.u8 = IntKind.u8 ∧ tma = tma)
     (.chk (IntKind.u8 = IntKind.u8 ∧ tac = tac)
     (.chk (ov = ov)
     (.leaf (.inl ⟨IntKind.i64.wrap (i + (1 : Int)), c, tima, tma, tac, ov⟩)))))))))))))))))))))))
 (.chk (A = A ∧
  opCell K M X = opCell K M X ∧
    (3 : Nat) = (3 : Nat) ∧ len = len ∧ cap = cap)
 (.chk (IntKind.i64 = IntKind.i64 ∧ (↑len : Int) = (↑len : Int))
 (.chk (IntKind.i64 = IntKind.i64 ∧ i = i)
 (.chk (IntKind.u16 = IntKind.u16 ∧ c = c)
 (.chk (IntKind.u8 = IntKind.u8 ∧ tima = tima)
 (.chk (IntKind.u8 = IntKind.u8 ∧ tma = tma)
 (.chk (IntKind.u8 = IntKind.u8 ∧ tac = tac)
 (.chk (ov = ov)
 (.chk (IntKind.u16 = IntKind.u16 ∧ c = c)
 (.chk (IntKind.u8 = IntKind.u8 ∧ tima = tima)
 (.chk (IntKind.u8 = IntKind.u8 ∧ tma = tma)
 (.chk (IntKind.u8 = IntKind.u8 ∧ tac = tac)
 (.chk (ov = ov)
 (.leaf (.inr ⟨i, c, tima, tma, tac, ov⟩)))))))))))))))) := by kernel_rfl
theorem plays_tree (w : World) (c tima tma tac : Int) (ov : Bool) (A : Option Addr) (K M X : Nat → Int) (len cap : Nat) :
    callV Try.prog w (flatT Try.prog) (ctrOf table) (lpOf Try.prog [j6Lp A K M X len cap, d6Lp A K M X len cap]) 20 6 [.v (.agg [.int false .u16 c, .int false .u8 tima, .int false .u8 tma, .int false .u8 tac, .bool false ov]), .v (.one (.xs A (opCell K M X) 3 len cap))] =
(.br (decide ((↑len : Int) > (60 : Int)))
 (.leaf (.v (.one (.bool true true))))
 (.chk (sym.bodyAt Go.Proofs.Try.prog (6 : Go.FuncId) (0 : Nat) = sym.bodyAt Go.Proofs.Try.prog (6 : Go.FuncId) (0 : Nat))
 (.chk (A = A ∧
  opCell K M X = opCell K M X ∧
    (3 : Nat) = (3 : Nat) ∧ len = len ∧ cap = cap)
 (.chk (IntKind.i64 = IntKind.i64 ∧ (↑len : Int) = (↑len : Int))
 (.chk (IntKind.i64 = IntKind.i64 ∧ (0 : Int) = (0 : Int))
 (.chk (IntKind.u16 = IntKind.u16 ∧ c = c)
 (.chk (IntKind.u8 = IntKind.u8 ∧ tima = tima)
 (.chk (IntKind.u8 = IntKind.u8 ∧ tma = tma)
 (.chk (IntKind.u8 = IntKind.u8 ∧ tac.tmod (8 : Int) = tac.tmod (8 : Int))
 (.chk (ov = ov)
 (.chk (IntKind.u16 = IntKind.u16 ∧ c = c)
 (.chk (IntKind.u8 = IntKind.u8 ∧ tima = tima)
 (.chk (IntKind.u8 = IntKind.u8 ∧ tma = tma)
 (.chk (IntKind.u8 = IntKind.u8 ∧ tac.tmod (8 : Int) = tac.tmod (8 : Int))
 (.chk (ov = ov)
 (.chk (d6Inv A K M X len cap { }
  { i := (0 : Int), c := c, tima := tima, tma := tma, tac := tac.tmod (8 : Int), ov := ov })
 (.all fun x : sym.Got d6X
  (d6Post A K M X len cap { }) =>
  (.leaf (.v (.one (.bool true true))))))))))))))))))))) := by kernel_rfl
def j6Mu (A : Option Addr) (K M X : Nat → Int) (len cap : Nat) (p : j6P) (x : j6X) : Nat := (p.n - x.j).toNat
theorem j6_step (w : World) (A : Option Addr) (K M X : Nat → Int) (len cap : Nat) (p : j6P) (x : j6X) (hX : XOk w A (opCell K M X) 3 len) (hB : ∀ i, i < len → Tm.B (X i)) (h : j6Inv A K M X len cap p x) : Hid (roundT Try.prog w (flatT Try.prog) (ctrOf table) (callT Try.prog w (flatT Try.prog) (ctrOf table) (noLoop) 20) ((noLoop) 6) (roundOf (bodyAt Try.prog 6 3)) 3 (j6St A K M X len cap p) (j6Fin A K M X len cap p) j6NxX j6NxX x) (Kept (j6Inv A K M X len cap p) (j6Post A K M X len cap p) (j6Mu A K M X len cap p) x) := by
  obtain ⟨i, n, oa, ob, oc⟩ := p
  obtain ⟨j, c, tima, tma, tac, ov⟩ := x
  constructor
  rw [j6step_tree]
  simp only [T.holds, Kept, j6Mu, and_self, true_and, and_true]
  simp only [beq_self_eq_true, bne_self_eq_false, Bool.and_true, Bool.true_and, Bool.and_self, Bool.not_true, Bool.not_false, Bool.false_eq_true, Bool.true_eq_false, false_implies, forall_const, and_self, true_and, and_true, if_true, if_false, reduceIte]
  obtain ⟨h1, h2, h3, h4⟩ := h
  simp only at h1 h2 h3 h4
  refine ⟨fun h => ⟨h4, h4, ?_, ?_⟩, fun h => ⟨h4⟩⟩
  · have hi : j < n := by simpa using h
    have e : IntKind.i64.wrap (j + 1) = j + 1 := Tm.wi64 _ (by omega) (by omega)
    rw [e]
    exact ⟨by show 0 ≤ j + 1; omega, by show j + 1 ≤ n; omega, h3, TB_tick h4⟩
  · have hi : j < n := by simpa using h
    have e : IntKind.i64.wrap (j + 1) = j + 1 := Tm.wi64 _ (by omega) (by omega)
    rw [e]
    show (n - (j + 1)).toNat < (n - j).toNat
    omega
theorem j6Lp_ok (w : World) (A : Option Addr) (K M X : Nat → Int) (len cap : Nat) (hX : XOk w A (opCell K M X) 3 len) (hB : ∀ i, i < len → Tm.B (X i)) : (j6Lp A K M X len cap).ok Try.prog w := by
  intro s t h
  unfold j6Lp at h
  simp only at h
  split at h
  · rename_i p _
    split at h
    · rename_i x _
      cases h
      exact loop_ok base2 (table_ok w) (callT_ok base2.mixed base2.names base2.eqs (table_ok w).ok (table_ok w).there (loops_none _ _) 20) ((loops_none _ _) 6) (c := roundOf (bodyAt Try.prog 6 3)) (by kernel_rfl) (id := 3) (n := 3) (st := j6St A K M X len cap p) (fin := j6Fin A K M X len cap p) (inv := j6Inv A K M X len cap p) (post := j6Post A K M X len cap p) (nx := j6NxX) (fx := j6NxX) (j6Mu A K M X len cap p) (fun x => by kernel_rfl) (fun y => by kernel_rfl) (fun x hx => j6_step w A K M X len cap p x hX hB hx) s x
    · cases h
  · cases h
theorem j6_loops (w : World) (A : Option Addr) (K M X : Nat → Int) (len cap : Nat) (hX : XOk w A (opCell K M X) 3 len) (hB : ∀ i, i < len → Tm.B (X i)) : LcsOk Try.prog w (lpOf Try.prog [j6Lp A K M X len cap]) := lps_ok fun l hl => by
  simp only [List.mem_cons, List.not_mem_nil, or_false] at hl
  subst hl
  exact j6Lp_ok w A K M X len cap hX hB
def d6Mu (A : Option Addr) (K M X : Nat → Int) (len cap : Nat) (p : d6P) (x : d6X) : Nat := ((len : Int) - x.i).toNat
theorem d6_step (w : World) (A : Option Addr) (K M X : Nat → Int) (len cap : Nat) (p : d6P) (x : d6X) (hX : XOk w A (opCell K M X) 3 len) (hB : ∀ i, i < len → Tm.B (X i)) (h : d6Inv A K M X len cap p x) : Hid (roundT Try.prog w (flatT Try.prog) (ctrOf table) (callT Try.prog w (flatT Try.prog) (ctrOf table) (lpOf Try.prog [j6Lp A K M X len cap]) 20) ((lpOf Try.prog [j6Lp A K M X len cap]) 6) (roundOf (bodyAt Try.prog 6 0)) 0 (d6St A K M X len cap p) (d6Fin A K M X len cap p) d6NxX d6NxX x) (Kept (d6Inv A K M X len cap p) (d6Post A K M X len cap p) (d6Mu A K M X len cap p) x) := by
  obtain ⟨⟩ := p
  obtain ⟨i, c, tima, tma, tac, ov⟩ := x
  constructor
  rw [d6step_tree]
  simp only [T.holds, Kept, d6Mu, and_self, true_and, and_true]
  simp only [beq_self_eq_true, bne_self_eq_false, Bool.and_true, Bool.true_and, Bool.and_self, Bool.not_true, Bool.not_false, Bool.false_eq_true, Bool.true_eq_false, false_implies, forall_const, and_self, true_and, and_true, if_true, if_false, reduceIte]
  obtain ⟨h1, h2, hl, h3⟩ := h
  simp only at h1 h2 hl h3
  have next : ∀ {c tima tma tac : Int} {ov : Bool}, i < (len : Int) → TB c tima tma tac → d6Inv A K M X len cap {} ⟨IntKind.i64.wrap (i + 1), c, tima, tma, tac, ov⟩ ∧ ((len : Int) - IntKind.i64.wrap (i + 1)).toNat < ((len : Int) - i).toNat := fun hi hb => by
    have e : IntKind.i64.wrap (i + 1) = i + 1 := Tm.wi64 _ (by omega) (by omega)
    rw [e]
    exact ⟨⟨by show 0 ≤ i + 1; omega, by show i + 1 ≤ (len : Int); omega, hl, hb⟩, by omega⟩
  refine ⟨fun h => ?_, fun h => ⟨trivial⟩⟩
  have hi : i < (len : Int) := by simpa using h
  have hx : XOk w A (opCell K M X) 3 len ∧ 0 ≤ i ∧ i < (len : Int) ∧ 0 < 3 := ⟨hX, h1, hi, by decide⟩
  have hx2 : XOk w A (opCell K M X) 3 len ∧ 0 < 3 ∧ i.toNat < len ∧ 3 ≤ 3 := ⟨hX, by decide, by omega, by decide⟩
  have bX := hB i.toNat (by omega)
  refine ⟨hx, hx2, fun _ => ⟨⟨by show (0:Int) ≤ 0; omega, ?_, ?_, h3⟩, fun y => ?_⟩, fun _ => ⟨fun _ => ?_, fun _ => ?_⟩⟩
  · show (0:Int) ≤ if (if (400:Int) < M i.toNat then 400 else M i.toNat) > 0 then (if (400:Int) < M i.toNat then 400 else M i.toNat) else 0
    split <;> omega
  · show (if (if (400:Int) < M i.toNat then 400 else M i.toNat) > 0 then (if (400:Int) < M i.toNat then 400 else M i.toNat) else 0) ≤ (400:Int)
    split <;> split <;> omega
  · obtain ⟨y, hy⟩ := y
    obtain ⟨hy⟩ := hy
    exact ⟨hy, hy, next hi hy⟩
  · have hw := TB_write (n := M i.toNat) h3 bX
    exact ⟨⟨h3, bX⟩, ⟨h3, bX⟩, hw, hw, next hi hw⟩
  · exact ⟨h3, h3, next hi h3⟩
theorem d6Lp_ok (w : World) (A : Option Addr) (K M X : Nat → Int) (len cap : Nat) (hX : XOk w A (opCell K M X) 3 len) (hB : ∀ i, i < len → Tm.B (X i)) : (d6Lp A K M X len cap).ok Try.prog w := by
  intro s t h
  unfold d6Lp at h
  simp only at h
  split at h
  · rename_i p _
    split at h
    · rename_i x _
      cases h
      exact loop_ok base2 (table_ok w) (callT_ok base2.mixed base2.names base2.eqs (table_ok w).ok (table_ok w).there (j6_loops w A K M X len cap hX hB) 20) ((j6_loops w A K M X len cap hX hB) 6) (c := roundOf (bodyAt Try.prog 6 0)) (by kernel_rfl) (id := 0) (n := 2) (st := d6St A K M X len cap p) (fin := d6Fin A K M X len cap p) (inv := d6Inv A K M X len cap p) (post := d6Post A K M X len cap p) (nx := d6NxX) (fx := d6NxX) (d6Mu A K M X len cap p) (fun x => by kernel_rfl) (fun y => by kernel_rfl) (fun x hx => d6_step w A K M X len cap p x hX hB hx) s x
    · cases h
  · cases h
theorem plays_walk (w : World) (c tima tma tac : Int) (ov : Bool) (A : Option Addr) (K M X : Nat → Int) (len cap : Nat) (hX : XOk w A (opCell K M X) 3 len) (hB : ∀ i, i < len → Tm.B (X i)) (hb : TB c tima tma tac) : Calls Try.prog 6 #[.agg #[.int .u16 c, .int .u8 tima, .int .u8 tma, .int .u8 tac, .bool ov], .slice A len cap] w fun e w' => e = .returned (.bool true) ∧ Below w.heap.size w w' := by
  have hl : LcsOk Try.prog w (lpOf Try.prog [j6Lp A K M X len cap, d6Lp A K M X len cap]) := lps_ok fun l hl => by
    simp only [List.mem_cons, List.not_mem_nil, or_false] at hl
    rcases hl with rfl | rfl
    · exact j6Lp_ok w A K M X len cap hX hB
    · exact d6Lp_ok w A K M X len cap hX hB
  refine val_eq base2 (table_ok w) hl (plays_tree w c tima tma tac ov A K M X len cap) rfl ?_
  obtain ⟨bc, bt, bm, ba1, ba2⟩ := hb
  simp only [T.holds, and_self, true_and, and_true]
  rw [Int.tmod_eq_emod_of_nonneg ba1]
  have hb : TB c tima tma (tac % 8) := ⟨bc, bt, bm, ⟨by omega, by omega⟩⟩
  refine ⟨fun _ => ⟨rfl, rfl⟩, fun h => ⟨⟨by show (0:Int) ≤ 0; omega, by show (0:Int) ≤ (len : Int); omega, by simp at h; omega, hb⟩, fun _ => ⟨rfl, rfl⟩⟩⟩
end Go.Proofs.Ytobenphpjphdlaa
