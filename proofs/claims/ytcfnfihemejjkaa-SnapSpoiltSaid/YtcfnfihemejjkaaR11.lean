/-
  Walk of the statement of spoilt packs. A slice of bytes and one of pairs of words; no other condition.
-/
import Derived.Test.YtcfnfihemejjkaaR10
namespace Go.Proofs.Ytcfnfihemejjkaa
open Go.RowKit sym
set_option linter.unusedVariables false
set_option linter.unusedSimpArgs false
set_option maxRecDepth 100000
theorem spoilt_tree (w : World) (A : Option Addr) (X : List Int) (n cap : Nat) (A2 : Option Addr) (L : List Int) (k cap2 : Nat) (u x v : Int) :
    callV Try.prog w (flatT Try.prog) (ctrOf awT) (preOf w tab9) (noLoop) 20 5 [.v (.one (.xr A [.u8] X n cap)), .v (.one (.xr A2 [.u16, .u16] L k cap2)), .v (.one (.int false .u64 u)), .v (.one (.int false .u8 x)), .v (.one (.int false .u64 v))] =
(.br (decide ((↑n : Int) > (3000 : Int)))
 (.leaf (.v (.one (.bool true true))))
 (.br (decide ((↑k : Int) > (60 : Int)))
  (.leaf (.v (.one (.bool true true))))
  (.chk ((sym.XR w A [IntKind.u8] X n ∧ n ≤ cap) ∧
  (sym.XR w A2 [IntKind.u16, IntKind.u16] L k ∧ k ≤ cap2) ∧ True)
  (.chk (n ≤ (16000 : Nat) ∧ k ≤ (1000 : Nat) ∧ ∀ (j : Nat), W (L.getD j (0 : Int)))
  (.all fun x_1 : RowR n =>
   (.chk ((sym.XR w A [IntKind.u8] X n ∧ n ≤ cap) ∧
  (x_1.nl = x_1.nl ∧
      ((0 : Nat) + n) * [IntKind.u8].length ≤ (chg X L).length ∧ n ≤ x_1.cap) ∧
    True)
   (.chk (n ≤ (16000 : Nat))
   (.all fun x_2 : RowR
  (pk n n X
      (sym.cutL (chg X L) (0 : Nat) ((0 : Nat) + n)
        [IntKind.u8].length)).length =>
    (.br ((↑(pk n n X
          (sym.cutL (chg X L) (0 : Nat) ((0 : Nat) + n)
            [IntKind.u8].length)).length :
    Int) ==
  (0 : Int))
     (.leaf (.v (.one (.bool true false))))
     (.chk (IntKind.u64.wrap
    (↑(pk n n X
            (sym.cutL (chg X L) (0 : Nat) ((0 : Nat) + n)
              [IntKind.u8].length)).length :
      Int) ≠
  (0 : Int))
     (.chk ((0 : Int) ≤ (↑(0 : Nat) : Int) ∧
  (↑(0 : Nat) : Int) ≤
      IntKind.i64.wrap
        (v.tmod
          (IntKind.u64.wrap
            (↑(pk n n X
                    (sym.cutL (chg X L) (0 : Nat) ((0 : Nat) + n)
                      [IntKind.u8].length)).length :
              Int))) ∧
    IntKind.i64.wrap
        (v.tmod
          (IntKind.u64.wrap
            (↑(pk n n X
                    (sym.cutL (chg X L) (0 : Nat) ((0 : Nat) + n)
                      [IntKind.u8].length)).length :
              Int))) ≤
      (↑x_2.cap : Int))
     (.chk ((sym.XR w A [IntKind.u8] X n ∧ n ≤ cap) ∧
  (x_2.nl = x_2.nl ∧
      (sym.cutO (0 : Nat) x_2.cap (0 : Nat) +
              ((IntKind.i64.wrap
                    (v.tmod
                      (IntKind.u64.wrap
                        (↑(pk n n X
                                (sym.cutL (chg X L) (0 : Nat)
                                  ((0 : Nat) + n) [IntKind.u8].length)).length :
                          Int)))).toNat -
                (0 : Nat))) *
            [IntKind.u8].length ≤
          (pk n n X
              (sym.cutL (chg X L) (0 : Nat) ((0 : Nat) + n)
                [IntKind.u8].length)).length ∧
        (IntKind.i64.wrap
                (v.tmod
                  (IntKind.u64.wrap
                    (↑(pk n n X
                            (sym.cutL (chg X L) (0 : Nat)
                              ((0 : Nat) + n) [IntKind.u8].length)).length :
                      Int)))).toNat -
            (0 : Nat) ≤
          x_2.cap - (0 : Nat)) ∧
    True)
     (.chk (n ≤ (16000 : Nat) ∧
  (IntKind.i64.wrap
            (v.tmod
              (IntKind.u64.wrap
                (↑(pk n n X
                        (sym.cutL (chg X L) (0 : Nat)
                          ((0 : Nat) + n) [IntKind.u8].length)).length :
                  Int)))).toNat -
        (0 : Nat) ≤
      (1000000 : Nat) ∧
    Bs X ∧
      Bs
        (sym.cutL
          (pk n n X
            (sym.cutL (chg X L) (0 : Nat) ((0 : Nat) + n)
              [IntKind.u8].length))
          (sym.cutO (0 : Nat) x_2.cap (0 : Nat))
          (sym.cutO (0 : Nat) x_2.cap (0 : Nat) +
            ((IntKind.i64.wrap
                  (v.tmod
                    (IntKind.u64.wrap
                      (↑(pk n n X
                              (sym.cutL (chg X L) (0 : Nat)
                                ((0 : Nat) + n) [IntKind.u8].length)).length :
                        Int)))).toNat -
              (0 : Nat)))
          [IntKind.u8].length))
     (.all fun x_3 : RowR
  (unp X
        (sym.cutL
          (pk n n X
            (sym.cutL (chg X L) (0 : Nat) ((0 : Nat) + n)
              [IntKind.u8].length))
          (sym.cutO (0 : Nat) x_2.cap (0 : Nat))
          (sym.cutO (0 : Nat) x_2.cap (0 : Nat) +
            ((IntKind.i64.wrap
                  (v.tmod
                    (IntKind.u64.wrap
                      (↑(pk n n X
                              (sym.cutL (chg X L) (0 : Nat)
                                ((0 : Nat) + n) [IntKind.u8].length)).length :
                        Int)))).toNat -
              (0 : Nat)))
          [IntKind.u8].length)).snd.length =>
      (.chk ((x_2.nl = x_2.nl ∧
    ((0 : Nat) +
            (pk n n X
                (sym.cutL (chg X L) (0 : Nat) ((0 : Nat) + n)
                  [IntKind.u8].length)).length) *
          [IntKind.u8].length ≤
        (pk n n X
            (sym.cutL (chg X L) (0 : Nat) ((0 : Nat) + n)
              [IntKind.u8].length)).length ∧
      (pk n n X
            (sym.cutL (chg X L) (0 : Nat) ((0 : Nat) + n)
              [IntKind.u8].length)).length ≤
        x_2.cap) ∧
  True ∧
    ((0 : Nat) +
          (pk n n X
              (sym.cutL (chg X L) (0 : Nat) ((0 : Nat) + n)
                [IntKind.u8].length)).length) *
        (1 : Nat) ≤
      (140737488355328 : Nat))
      (.all fun x_4 : sym.Grown false
  (pk n n X
      (sym.cutL (chg X L) (0 : Nat) ((0 : Nat) + n)
        [IntKind.u8].length)).length
  ((0 : Nat) +
    (pk n n X
        (sym.cutL (chg X L) (0 : Nat) ((0 : Nat) + n)
          [IntKind.u8].length)).length) =>
       (.chk (True ∧
  (x_4.nl' = x_4.nl' ∧
      (0 : Nat) = (0 : Nat) ∧
        x_4.cap = x_4.cap ∧
          ((0 : Nat) +
                  (pk n n X
                      (sym.cutL (chg X L) (0 : Nat)
                        ((0 : Nat) + n) [IntKind.u8].length)).length) *
                [IntKind.u8].length ≤
              ([] ++
                  sym.cutL
                    (pk n n X
                      (sym.cutL (chg X L) (0 : Nat)
                        ((0 : Nat) + n) [IntKind.u8].length))
                    (0 : Nat)
                    ((0 : Nat) +
                      (pk n n X
                          (sym.cutL (chg X L) (0 : Nat)
                            ((0 : Nat) + n) [IntKind.u8].length)).length)
                    [IntKind.u8].length).length ∧
            (0 : Nat) +
                  (pk n n X
                      (sym.cutL (chg X L) (0 : Nat)
                        ((0 : Nat) + n) [IntKind.u8].length)).length ≤
                x_4.cap ∧
              x_4.cap ≤ Go.maxLen ∧ (x_4.nl' = true → x_4.cap = (0 : Nat))) ∧
    ((0 : Nat) +
            (pk n n X
                (sym.cutL (chg X L) (0 : Nat) ((0 : Nat) + n)
                  [IntKind.u8].length)).length +
          (1 : Nat)) *
        (1 : Nat) ≤
      (140737488355328 : Nat))
       (.all fun x_5 : sym.Grown x_4.nl' (1 : Nat)
  ((0 : Nat) +
      (pk n n X
          (sym.cutL (chg X L) (0 : Nat) ((0 : Nat) + n)
            [IntKind.u8].length)).length +
    (1 : Nat)) =>
        (.chk ((sym.XR w A [IntKind.u8] X n ∧ n ≤ cap) ∧
  (x_5.nl' = x_5.nl' ∧
      ((0 : Nat) +
              ((0 : Nat) +
                  (pk n n X
                      (sym.cutL (chg X L) (0 : Nat)
                        ((0 : Nat) + n) [IntKind.u8].length)).length +
                (1 : Nat))) *
            [IntKind.u8].length ≤
          (List.take
                (((0 : Nat) +
                    (pk n n X
                        (sym.cutL (chg X L) (0 : Nat)
                          ((0 : Nat) + n) [IntKind.u8].length)).length) *
                  [IntKind.u8].length)
                ([] ++
                  sym.cutL
                    (pk n n X
                      (sym.cutL (chg X L) (0 : Nat)
                        ((0 : Nat) + n) [IntKind.u8].length))
                    (0 : Nat)
                    ((0 : Nat) +
                      (pk n n X
                          (sym.cutL (chg X L) (0 : Nat)
                            ((0 : Nat) + n) [IntKind.u8].length)).length)
                    [IntKind.u8].length) ++
              [x]).length ∧
        (0 : Nat) +
              (pk n n X
                  (sym.cutL (chg X L) (0 : Nat) ((0 : Nat) + n)
                    [IntKind.u8].length)).length +
            (1 : Nat) ≤
          x_5.cap) ∧
    True)
        (.chk (n ≤ (16000 : Nat) ∧
  (0 : Nat) +
          (pk n n X
              (sym.cutL (chg X L) (0 : Nat) ((0 : Nat) + n)
                [IntKind.u8].length)).length +
        (1 : Nat) ≤
      (1000000 : Nat) ∧
    Bs X ∧
      Bs
        (sym.cutL
          (List.take
              (((0 : Nat) +
                  (pk n n X
                      (sym.cutL (chg X L) (0 : Nat)
                        ((0 : Nat) + n) [IntKind.u8].length)).length) *
                [IntKind.u8].length)
              ([] ++
                sym.cutL
                  (pk n n X
                    (sym.cutL (chg X L) (0 : Nat) ((0 : Nat) + n)
                      [IntKind.u8].length))
                  (0 : Nat)
                  ((0 : Nat) +
                    (pk n n X
                        (sym.cutL (chg X L) (0 : Nat)
                          ((0 : Nat) + n) [IntKind.u8].length)).length)
                  [IntKind.u8].length) ++
            [x])
          (0 : Nat)
          ((0 : Nat) +
            ((0 : Nat) +
                (pk n n X
                    (sym.cutL (chg X L) (0 : Nat) ((0 : Nat) + n)
                      [IntKind.u8].length)).length +
              (1 : Nat)))
          [IntKind.u8].length))
        (.all fun x_6 : RowR
  (unp X
        (sym.cutL
          (List.take
              (((0 : Nat) +
                  (pk n n X
                      (sym.cutL (chg X L) (0 : Nat)
                        ((0 : Nat) + n) [IntKind.u8].length)).length) *
                [IntKind.u8].length)
              ([] ++
                sym.cutL
                  (pk n n X
                    (sym.cutL (chg X L) (0 : Nat) ((0 : Nat) + n)
                      [IntKind.u8].length))
                  (0 : Nat)
                  ((0 : Nat) +
                    (pk n n X
                        (sym.cutL (chg X L) (0 : Nat)
                          ((0 : Nat) + n) [IntKind.u8].length)).length)
                  [IntKind.u8].length) ++
            [x])
          (0 : Nat)
          ((0 : Nat) +
            ((0 : Nat) +
                (pk n n X
                    (sym.cutL (chg X L) (0 : Nat) ((0 : Nat) + n)
                      [IntKind.u8].length)).length +
              (1 : Nat)))
          [IntKind.u8].length)).snd.length =>
         (.chk ((x_2.nl = x_2.nl ∧
    ((0 : Nat) +
            (pk n n X
                (sym.cutL (chg X L) (0 : Nat) ((0 : Nat) + n)
                  [IntKind.u8].length)).length) *
          [IntKind.u8].length ≤
        (pk n n X
            (sym.cutL (chg X L) (0 : Nat) ((0 : Nat) + n)
              [IntKind.u8].length)).length ∧
      (pk n n X
            (sym.cutL (chg X L) (0 : Nat) ((0 : Nat) + n)
              [IntKind.u8].length)).length ≤
        x_2.cap) ∧
  True ∧
    ((0 : Nat) +
          (pk n n X
              (sym.cutL (chg X L) (0 : Nat) ((0 : Nat) + n)
                [IntKind.u8].length)).length) *
        (1 : Nat) ≤
      (140737488355328 : Nat))
         (.all fun x_7 : sym.Grown false
  (pk n n X
      (sym.cutL (chg X L) (0 : Nat) ((0 : Nat) + n)
        [IntKind.u8].length)).length
  ((0 : Nat) +
    (pk n n X
        (sym.cutL (chg X L) (0 : Nat) ((0 : Nat) + n)
          [IntKind.u8].length)).length) =>
          (.chk (IntKind.u64.wrap
    (↑((0 : Nat) +
          (pk n n X
              (sym.cutL (chg X L) (0 : Nat) ((0 : Nat) + n)
                [IntKind.u8].length)).length) :
      Int) ≠
  (0 : Int))
          (.chk (x_7.nl' = false ∧
  (0 : Int) ≤
      IntKind.i64.wrap
        (u.tmod
          (IntKind.u64.wrap
            (↑((0 : Nat) +
                  (pk n n X
                      (sym.cutL (chg X L) (0 : Nat)
                        ((0 : Nat) + n) [IntKind.u8].length)).length) :
              Int))) ∧
    IntKind.i64.wrap
        (u.tmod
          (IntKind.u64.wrap
            (↑((0 : Nat) +
                  (pk n n X
                      (sym.cutL (chg X L) (0 : Nat)
                        ((0 : Nat) + n) [IntKind.u8].length)).length) :
              Int))) <
      (↑((0 : Nat) +
            (pk n n X
                (sym.cutL (chg X L) (0 : Nat) ((0 : Nat) + n)
                  [IntKind.u8].length)).length) :
        Int))
          (.chk (x_7.nl' = false ∧
  ((0 : Nat) +
          (IntKind.i64.wrap
              (u.tmod
                (IntKind.u64.wrap
                  (↑((0 : Nat) +
                        (pk n n X
                            (sym.cutL (chg X L) (0 : Nat)
                              ((0 : Nat) + n) [IntKind.u8].length)).length) :
                    Int)))).toNat) *
        [IntKind.u8].length +
      (1 : Nat) ≤
    ([] ++
        sym.cutL
          (pk n n X
            (sym.cutL (chg X L) (0 : Nat) ((0 : Nat) + n)
              [IntKind.u8].length))
          (0 : Nat)
          ((0 : Nat) +
            (pk n n X
                (sym.cutL (chg X L) (0 : Nat) ((0 : Nat) + n)
                  [IntKind.u8].length)).length)
          [IntKind.u8].length).length)
          (.chk (x_7.nl' = false ∧
  (0 : Int) ≤
      IntKind.i64.wrap
        (u.tmod
          (IntKind.u64.wrap
            (↑((0 : Nat) +
                  (pk n n X
                      (sym.cutL (chg X L) (0 : Nat)
                        ((0 : Nat) + n) [IntKind.u8].length)).length) :
              Int))) ∧
    IntKind.i64.wrap
        (u.tmod
          (IntKind.u64.wrap
            (↑((0 : Nat) +
                  (pk n n X
                      (sym.cutL (chg X L) (0 : Nat)
                        ((0 : Nat) + n) [IntKind.u8].length)).length) :
              Int))) <
      (↑((0 : Nat) +
            (pk n n X
                (sym.cutL (chg X L) (0 : Nat) ((0 : Nat) + n)
                  [IntKind.u8].length)).length) :
        Int))
          (.chk (x_7.nl' = false ∧
  ((0 : Nat) +
          (IntKind.i64.wrap
              (u.tmod
                (IntKind.u64.wrap
                  (↑((0 : Nat) +
                        (pk n n X
                            (sym.cutL (chg X L) (0 : Nat)
                              ((0 : Nat) + n) [IntKind.u8].length)).length) :
                    Int)))).toNat) *
        [IntKind.u8].length +
      (0 : Nat) <
    ([] ++
        sym.cutL
          (pk n n X
            (sym.cutL (chg X L) (0 : Nat) ((0 : Nat) + n)
              [IntKind.u8].length))
          (0 : Nat)
          ((0 : Nat) +
            (pk n n X
                (sym.cutL (chg X L) (0 : Nat) ((0 : Nat) + n)
                  [IntKind.u8].length)).length)
          [IntKind.u8].length).length)
          (.chk ((sym.XR w A [IntKind.u8] X n ∧ n ≤ cap) ∧
  (x_7.nl' = x_7.nl' ∧
      ((0 : Nat) +
              ((0 : Nat) +
                (pk n n X
                    (sym.cutL (chg X L) (0 : Nat) ((0 : Nat) + n)
                      [IntKind.u8].length)).length)) *
            [IntKind.u8].length ≤
          (([] ++
                  sym.cutL
                    (pk n n X
                      (sym.cutL (chg X L) (0 : Nat)
                        ((0 : Nat) + n) [IntKind.u8].length))
                    (0 : Nat)
                    ((0 : Nat) +
                      (pk n n X
                          (sym.cutL (chg X L) (0 : Nat)
                            ((0 : Nat) + n) [IntKind.u8].length)).length)
                    [IntKind.u8].length).set
              (((0 : Nat) +
                    (IntKind.i64.wrap
                        (u.tmod
                          (IntKind.u64.wrap
                            (↑((0 : Nat) +
                                  (pk n n X
                                      (sym.cutL (chg X L)
                                        (0 : Nat) ((0 : Nat) + n) [IntKind.u8].length)).length) :
                              Int)))).toNat) *
                  [IntKind.u8].length +
                (0 : Nat))
              (bits BinOp.xor ([IntKind.u8].getD (0 : Nat) IntKind.u8)
                (([] ++
                      sym.cutL
                        (pk n n X
                          (sym.cutL (chg X L) (0 : Nat)
                            ((0 : Nat) + n) [IntKind.u8].length))
                        (0 : Nat)
                        ((0 : Nat) +
                          (pk n n X
                              (sym.cutL (chg X L) (0 : Nat)
                                ((0 : Nat) + n) [IntKind.u8].length)).length)
                        [IntKind.u8].length).getD
                  (((0 : Nat) +
                        (IntKind.i64.wrap
                            (u.tmod
                              (IntKind.u64.wrap
                                (↑((0 : Nat) +
                                      (pk n n X
                                          (sym.cutL (chg X L)
                                            (0 : Nat) ((0 : Nat) + n) [IntKind.u8].length)).length) :
                                  Int)))).toNat) *
                      [IntKind.u8].length +
                    (0 : Nat))
                  (0 : Int))
                x)).length ∧
        (0 : Nat) +
            (pk n n X
                (sym.cutL (chg X L) (0 : Nat) ((0 : Nat) + n)
                  [IntKind.u8].length)).length ≤
          x_7.cap) ∧
    True)
          (.chk (n ≤ (16000 : Nat) ∧
  (0 : Nat) +
        (pk n n X
            (sym.cutL (chg X L) (0 : Nat) ((0 : Nat) + n)
              [IntKind.u8].length)).length ≤
      (1000000 : Nat) ∧
    Bs X ∧
      Bs
        (sym.cutL
          (([] ++
                sym.cutL
                  (pk n n X
                    (sym.cutL (chg X L) (0 : Nat) ((0 : Nat) + n)
                      [IntKind.u8].length))
                  (0 : Nat)
                  ((0 : Nat) +
                    (pk n n X
                        (sym.cutL (chg X L) (0 : Nat)
                          ((0 : Nat) + n) [IntKind.u8].length)).length)
                  [IntKind.u8].length).set
            (((0 : Nat) +
                  (IntKind.i64.wrap
                      (u.tmod
                        (IntKind.u64.wrap
                          (↑((0 : Nat) +
                                (pk n n X
                                    (sym.cutL (chg X L) (0 : Nat)
                                      ((0 : Nat) + n) [IntKind.u8].length)).length) :
                            Int)))).toNat) *
                [IntKind.u8].length +
              (0 : Nat))
            (bits BinOp.xor ([IntKind.u8].getD (0 : Nat) IntKind.u8)
              (([] ++
                    sym.cutL
                      (pk n n X
                        (sym.cutL (chg X L) (0 : Nat)
                          ((0 : Nat) + n) [IntKind.u8].length))
                      (0 : Nat)
                      ((0 : Nat) +
                        (pk n n X
                            (sym.cutL (chg X L) (0 : Nat)
                              ((0 : Nat) + n) [IntKind.u8].length)).length)
                      [IntKind.u8].length).getD
                (((0 : Nat) +
                      (IntKind.i64.wrap
                          (u.tmod
                            (IntKind.u64.wrap
                              (↑((0 : Nat) +
                                    (pk n n X
                                        (sym.cutL (chg X L)
                                          (0 : Nat) ((0 : Nat) + n) [IntKind.u8].length)).length) :
                                Int)))).toNat) *
                    [IntKind.u8].length +
                  (0 : Nat))
                (0 : Int))
              x))
          (0 : Nat)
          ((0 : Nat) +
            ((0 : Nat) +
              (pk n n X
                  (sym.cutL (chg X L) (0 : Nat) ((0 : Nat) + n)
                    [IntKind.u8].length)).length))
          [IntKind.u8].length))
          (.all fun x_8 : RowR
  (unp X
        (sym.cutL
          (([] ++
                sym.cutL
                  (pk n n X
                    (sym.cutL (chg X L) (0 : Nat) ((0 : Nat) + n)
                      [IntKind.u8].length))
                  (0 : Nat)
                  ((0 : Nat) +
                    (pk n n X
                        (sym.cutL (chg X L) (0 : Nat)
                          ((0 : Nat) + n) [IntKind.u8].length)).length)
                  [IntKind.u8].length).set
            (((0 : Nat) +
                  (IntKind.i64.wrap
                      (u.tmod
                        (IntKind.u64.wrap
                          (↑((0 : Nat) +
                                (pk n n X
                                    (sym.cutL (chg X L) (0 : Nat)
                                      ((0 : Nat) + n) [IntKind.u8].length)).length) :
                            Int)))).toNat) *
                [IntKind.u8].length +
              (0 : Nat))
            (bits BinOp.xor ([IntKind.u8].getD (0 : Nat) IntKind.u8)
              (([] ++
                    sym.cutL
                      (pk n n X
                        (sym.cutL (chg X L) (0 : Nat)
                          ((0 : Nat) + n) [IntKind.u8].length))
                      (0 : Nat)
                      ((0 : Nat) +
                        (pk n n X
                            (sym.cutL (chg X L) (0 : Nat)
                              ((0 : Nat) + n) [IntKind.u8].length)).length)
                      [IntKind.u8].length).getD
                (((0 : Nat) +
                      (IntKind.i64.wrap
                          (u.tmod
                            (IntKind.u64.wrap
                              (↑((0 : Nat) +
                                    (pk n n X
                                        (sym.cutL (chg X L)
                                          (0 : Nat) ((0 : Nat) + n) [IntKind.u8].length)).length) :
                                Int)))).toNat) *
                    [IntKind.u8].length +
                  (0 : Nat))
                (0 : Int))
              x))
          (0 : Nat)
          ((0 : Nat) +
            ((0 : Nat) +
              (pk n n X
                  (sym.cutL (chg X L) (0 : Nat) ((0 : Nat) + n)
                    [IntKind.u8].length)).length))
          [IntKind.u8].length)).snd.length =>
           (.br ((unp X
      (sym.cutL
        (([] ++
              sym.cutL
                (pk n n X
                  (sym.cutL (chg X L) (0 : Nat) ((0 : Nat) + n)
                    [IntKind.u8].length))
                (0 : Nat)
                ((0 : Nat) +
                  (pk n n X
                      (sym.cutL (chg X L) (0 : Nat)
                        ((0 : Nat) + n) [IntKind.u8].length)).length)
                [IntKind.u8].length).set
          (((0 : Nat) +
                (IntKind.i64.wrap
                    (u.tmod
                      (IntKind.u64.wrap
                        (↑((0 : Nat) +
                              (pk n n X
                                  (sym.cutL (chg X L) (0 : Nat)
                                    ((0 : Nat) + n) [IntKind.u8].length)).length) :
                          Int)))).toNat) *
              [IntKind.u8].length +
            (0 : Nat))
          (bits BinOp.xor ([IntKind.u8].getD (0 : Nat) IntKind.u8)
            (([] ++
                  sym.cutL
                    (pk n n X
                      (sym.cutL (chg X L) (0 : Nat)
                        ((0 : Nat) + n) [IntKind.u8].length))
                    (0 : Nat)
                    ((0 : Nat) +
                      (pk n n X
                          (sym.cutL (chg X L) (0 : Nat)
                            ((0 : Nat) + n) [IntKind.u8].length)).length)
                    [IntKind.u8].length).getD
              (((0 : Nat) +
                    (IntKind.i64.wrap
                        (u.tmod
                          (IntKind.u64.wrap
                            (↑((0 : Nat) +
                                  (pk n n X
                                      (sym.cutL (chg X L)
                                        (0 : Nat) ((0 : Nat) + n) [IntKind.u8].length)).length) :
                              Int)))).toNat) *
                  [IntKind.u8].length +
                (0 : Nat))
              (0 : Int))
            x))
        (0 : Nat)
        ((0 : Nat) +
          ((0 : Nat) +
            (pk n n X
                (sym.cutL (chg X L) (0 : Nat) ((0 : Nat) + n)
                  [IntKind.u8].length)).length))
        [IntKind.u8].length)).fst ==
  (0 : Int))
            (.chk ((sym.XR w A [IntKind.u8] X n ∧ n ≤ cap) ∧
  (x_8.nl = x_8.nl ∧
      ((0 : Nat) +
              (unp X
                    (sym.cutL
                      (([] ++
                            sym.cutL
                              (pk n n X
                                (sym.cutL (chg X L) (0 : Nat)
                                  ((0 : Nat) + n) [IntKind.u8].length))
                              (0 : Nat)
                              ((0 : Nat) +
                                (pk n n X
                                    (sym.cutL (chg X L) (0 : Nat)
                                      ((0 : Nat) + n) [IntKind.u8].length)).length)
                              [IntKind.u8].length).set
                        (((0 : Nat) +
                              (IntKind.i64.wrap
                                  (u.tmod
                                    (IntKind.u64.wrap
                                      (↑((0 : Nat) +
                                            (pk n n X
                                                (sym.cutL
                                                  (chg X L) (0 : Nat) ((0 : Nat) + n)
                                                  [IntKind.u8].length)).length) :
                                        Int)))).toNat) *
                            [IntKind.u8].length +
                          (0 : Nat))
                        (bits BinOp.xor ([IntKind.u8].getD (0 : Nat) IntKind.u8)
                          (([] ++
                                sym.cutL
                                  (pk n n X
                                    (sym.cutL (chg X L) (0 : Nat)
                                      ((0 : Nat) + n) [IntKind.u8].length))
                                  (0 : Nat)
                                  ((0 : Nat) +
                                    (pk n n X
                                        (sym.cutL (chg X L)
                                          (0 : Nat) ((0 : Nat) + n) [IntKind.u8].length)).length)
                                  [IntKind.u8].length).getD
                            (((0 : Nat) +
                                  (IntKind.i64.wrap
                                      (u.tmod
                                        (IntKind.u64.wrap
                                          (↑((0 : Nat) +
                                                (pk n n X
                                                    (sym.cutL
                                                      (chg X L) (0 : Nat) ((0 : Nat) + n)
                                                      [IntKind.u8].length)).length) :
                                            Int)))).toNat) *
                                [IntKind.u8].length +
                              (0 : Nat))
                            (0 : Int))
                          x))
                      (0 : Nat)
                      ((0 : Nat) +
                        ((0 : Nat) +
                          (pk n n X
                              (sym.cutL (chg X L) (0 : Nat)
                                ((0 : Nat) + n) [IntKind.u8].length)).length))
                      [IntKind.u8].length)).snd.length) *
            [IntKind.u8].length ≤
          (unp X
                (sym.cutL
                  (([] ++
                        sym.cutL
                          (pk n n X
                            (sym.cutL (chg X L) (0 : Nat)
                              ((0 : Nat) + n) [IntKind.u8].length))
                          (0 : Nat)
                          ((0 : Nat) +
                            (pk n n X
                                (sym.cutL (chg X L) (0 : Nat)
                                  ((0 : Nat) + n) [IntKind.u8].length)).length)
                          [IntKind.u8].length).set
                    (((0 : Nat) +
                          (IntKind.i64.wrap
                              (u.tmod
                                (IntKind.u64.wrap
                                  (↑((0 : Nat) +
                                        (pk n n X
                                            (sym.cutL (chg X L)
                                              (0 : Nat) ((0 : Nat) + n) [IntKind.u8].length)).length) :
                                    Int)))).toNat) *
                        [IntKind.u8].length +
                      (0 : Nat))
                    (bits BinOp.xor ([IntKind.u8].getD (0 : Nat) IntKind.u8)
                      (([] ++
                            sym.cutL
                              (pk n n X
                                (sym.cutL (chg X L) (0 : Nat)
                                  ((0 : Nat) + n) [IntKind.u8].length))
                              (0 : Nat)
                              ((0 : Nat) +
                                (pk n n X
                                    (sym.cutL (chg X L) (0 : Nat)
                                      ((0 : Nat) + n) [IntKind.u8].length)).length)
                              [IntKind.u8].length).getD
                        (((0 : Nat) +
                              (IntKind.i64.wrap
                                  (u.tmod
                                    (IntKind.u64.wrap
                                      (↑((0 : Nat) +
                                            (pk n n X
                                                (sym.cutL
                                                  (chg X L) (0 : Nat) ((0 : Nat) + n)
                                                  [IntKind.u8].length)).length) :
                                        Int)))).toNat) *
                            [IntKind.u8].length +
                          (0 : Nat))
                        (0 : Int))
                      x))
                  (0 : Nat)
                  ((0 : Nat) +
                    ((0 : Nat) +
                      (pk n n X
                          (sym.cutL (chg X L) (0 : Nat)
                            ((0 : Nat) + n) [IntKind.u8].length)).length))
                  [IntKind.u8].length)).snd.length ∧
        (unp X
                (sym.cutL
                  (([] ++
                        sym.cutL
                          (pk n n X
                            (sym.cutL (chg X L) (0 : Nat)
                              ((0 : Nat) + n) [IntKind.u8].length))
                          (0 : Nat)
                          ((0 : Nat) +
                            (pk n n X
                                (sym.cutL (chg X L) (0 : Nat)
                                  ((0 : Nat) + n) [IntKind.u8].length)).length)
                          [IntKind.u8].length).set
                    (((0 : Nat) +
                          (IntKind.i64.wrap
                              (u.tmod
                                (IntKind.u64.wrap
                                  (↑((0 : Nat) +
                                        (pk n n X
                                            (sym.cutL (chg X L)
                                              (0 : Nat) ((0 : Nat) + n) [IntKind.u8].length)).length) :
                                    Int)))).toNat) *
                        [IntKind.u8].length +
                      (0 : Nat))
                    (bits BinOp.xor ([IntKind.u8].getD (0 : Nat) IntKind.u8)
                      (([] ++
                            sym.cutL
                              (pk n n X
                                (sym.cutL (chg X L) (0 : Nat)
                                  ((0 : Nat) + n) [IntKind.u8].length))
                              (0 : Nat)
                              ((0 : Nat) +
                                (pk n n X
                                    (sym.cutL (chg X L) (0 : Nat)
                                      ((0 : Nat) + n) [IntKind.u8].length)).length)
                              [IntKind.u8].length).getD
                        (((0 : Nat) +
                              (IntKind.i64.wrap
                                  (u.tmod
                                    (IntKind.u64.wrap
                                      (↑((0 : Nat) +
                                            (pk n n X
                                                (sym.cutL
                                                  (chg X L) (0 : Nat) ((0 : Nat) + n)
                                                  [IntKind.u8].length)).length) :
                                        Int)))).toNat) *
                            [IntKind.u8].length +
                          (0 : Nat))
                        (0 : Int))
                      x))
                  (0 : Nat)
                  ((0 : Nat) +
                    ((0 : Nat) +
                      (pk n n X
                          (sym.cutL (chg X L) (0 : Nat)
                            ((0 : Nat) + n) [IntKind.u8].length)).length))
                  [IntKind.u8].length)).snd.length ≤
          x_8.cap) ∧
    True)
            (.chk (n ≤ (16000 : Nat))
            (.all fun x_9 : RowR
  (pk n
      (unp X
            (sym.cutL
              (([] ++
                    sym.cutL
                      (pk n n X
                        (sym.cutL (chg X L) (0 : Nat)
                          ((0 : Nat) + n) [IntKind.u8].length))
                      (0 : Nat)
                      ((0 : Nat) +
                        (pk n n X
                            (sym.cutL (chg X L) (0 : Nat)
                              ((0 : Nat) + n) [IntKind.u8].length)).length)
                      [IntKind.u8].length).set
                (((0 : Nat) +
                      (IntKind.i64.wrap
                          (u.tmod
                            (IntKind.u64.wrap
                              (↑((0 : Nat) +
                                    (pk n n X
                                        (sym.cutL (chg X L)
                                          (0 : Nat) ((0 : Nat) + n) [IntKind.u8].length)).length) :
                                Int)))).toNat) *
                    [IntKind.u8].length +
                  (0 : Nat))
                (bits BinOp.xor ([IntKind.u8].getD (0 : Nat) IntKind.u8)
                  (([] ++
                        sym.cutL
                          (pk n n X
                            (sym.cutL (chg X L) (0 : Nat)
                              ((0 : Nat) + n) [IntKind.u8].length))
                          (0 : Nat)
                          ((0 : Nat) +
                            (pk n n X
                                (sym.cutL (chg X L) (0 : Nat)
                                  ((0 : Nat) + n) [IntKind.u8].length)).length)
                          [IntKind.u8].length).getD
                    (((0 : Nat) +
                          (IntKind.i64.wrap
                              (u.tmod
                                (IntKind.u64.wrap
                                  (↑((0 : Nat) +
                                        (pk n n X
                                            (sym.cutL (chg X L)
                                              (0 : Nat) ((0 : Nat) + n) [IntKind.u8].length)).length) :
                                    Int)))).toNat) *
                        [IntKind.u8].length +
                      (0 : Nat))
                    (0 : Int))
                  x))
              (0 : Nat)
              ((0 : Nat) +
                ((0 : Nat) +
                  (pk n n X
                      (sym.cutL (chg X L) (0 : Nat)
                        ((0 : Nat) + n) [IntKind.u8].length)).length))
              [IntKind.u8].length)).snd.length
      X
      (sym.cutL
        (unp X
            (sym.cutL
              (([] ++
                    sym.cutL
                      (pk n n X
                        (sym.cutL (chg X L) (0 : Nat)
                          ((0 : Nat) + n) [IntKind.u8].length))
                      (0 : Nat)
                      ((0 : Nat) +
                        (pk n n X
                            (sym.cutL (chg X L) (0 : Nat)
                              ((0 : Nat) + n) [IntKind.u8].length)).length)
                      [IntKind.u8].length).set
                (((0 : Nat) +
                      (IntKind.i64.wrap
                          (u.tmod
                            (IntKind.u64.wrap
                              (↑((0 : Nat) +
                                    (pk n n X
                                        (sym.cutL (chg X L)
                                          (0 : Nat) ((0 : Nat) + n) [IntKind.u8].length)).length) :
                                Int)))).toNat) *
                    [IntKind.u8].length +
                  (0 : Nat))
                (bits BinOp.xor ([IntKind.u8].getD (0 : Nat) IntKind.u8)
                  (([] ++
                        sym.cutL
                          (pk n n X
                            (sym.cutL (chg X L) (0 : Nat)
                              ((0 : Nat) + n) [IntKind.u8].length))
                          (0 : Nat)
                          ((0 : Nat) +
                            (pk n n X
                                (sym.cutL (chg X L) (0 : Nat)
                                  ((0 : Nat) + n) [IntKind.u8].length)).length)
                          [IntKind.u8].length).getD
                    (((0 : Nat) +
                          (IntKind.i64.wrap
                              (u.tmod
                                (IntKind.u64.wrap
                                  (↑((0 : Nat) +
                                        (pk n n X
                                            (sym.cutL (chg X L)
                                              (0 : Nat) ((0 : Nat) + n) [IntKind.u8].length)).length) :
                                    Int)))).toNat) *
                        [IntKind.u8].length +
                      (0 : Nat))
                    (0 : Int))
                  x))
              (0 : Nat)
              ((0 : Nat) +
                ((0 : Nat) +
                  (pk n n X
                      (sym.cutL (chg X L) (0 : Nat)
                        ((0 : Nat) + n) [IntKind.u8].length)).length))
              [IntKind.u8].length)).snd
        (0 : Nat)
        ((0 : Nat) +
          (unp X
                (sym.cutL
                  (([] ++
                        sym.cutL
                          (pk n n X
                            (sym.cutL (chg X L) (0 : Nat)
                              ((0 : Nat) + n) [IntKind.u8].length))
                          (0 : Nat)
                          ((0 : Nat) +
                            (pk n n X
                                (sym.cutL (chg X L) (0 : Nat)
                                  ((0 : Nat) + n) [IntKind.u8].length)).length)
                          [IntKind.u8].length).set
                    (((0 : Nat) +
                          (IntKind.i64.wrap
                              (u.tmod
                                (IntKind.u64.wrap
                                  (↑((0 : Nat) +
                                        (pk n n X
                                            (sym.cutL (chg X L)
                                              (0 : Nat) ((0 : Nat) + n) [IntKind.u8].length)).length) :
                                    Int)))).toNat) *
                        [IntKind.u8].length +
                      (0 : Nat))
                    (bits BinOp.xor ([IntKind.u8].getD (0 : Nat) IntKind.u8)
                      (([] ++
                            sym.cutL
                              (pk n n X
                                (sym.cutL (chg X L) (0 : Nat)
                                  ((0 : Nat) + n) [IntKind.u8].length))
                              (0 : Nat)
                              ((0 : Nat) +
                                (pk n n X
                                    (sym.cutL (chg X L) (0 : Nat)
                                      ((0 : Nat) + n) [IntKind.u8].length)).length)
                              [IntKind.u8].length).getD
                        (((0 : Nat) +
                              (IntKind.i64.wrap
                                  (u.tmod
                                    (IntKind.u64.wrap
                                      (↑((0 : Nat) +
                                            (pk n n X
                                                (sym.cutL
                                                  (chg X L) (0 : Nat) ((0 : Nat) + n)
                                                  [IntKind.u8].length)).length) :
                                        Int)))).toNat) *
                            [IntKind.u8].length +
                          (0 : Nat))
                        (0 : Int))
                      x))
                  (0 : Nat)
                  ((0 : Nat) +
                    ((0 : Nat) +
                      (pk n n X
                          (sym.cutL (chg X L) (0 : Nat)
                            ((0 : Nat) + n) [IntKind.u8].length)).length))
                  [IntKind.u8].length)).snd.length)
        [IntKind.u8].length)).length =>
             (.chk ((x_9.nl = x_9.nl ∧
    ((0 : Nat) +
            (pk n
                (unp X
                      (sym.cutL
                        (([] ++
                              sym.cutL
                                (pk n n X
                                  (sym.cutL (chg X L) (0 : Nat)
                                    ((0 : Nat) + n) [IntKind.u8].length))
                                (0 : Nat)
                                ((0 : Nat) +
                                  (pk n n X
                                      (sym.cutL (chg X L)
                                        (0 : Nat) ((0 : Nat) + n) [IntKind.u8].length)).length)
                                [IntKind.u8].length).set
                          (((0 : Nat) +
                                (IntKind.i64.wrap
                                    (u.tmod
                                      (IntKind.u64.wrap
                                        (↑((0 : Nat) +
                                              (pk n n X
                                                  (sym.cutL
                                                    (chg X L) (0 : Nat) ((0 : Nat) + n)
                                                    [IntKind.u8].length)).length) :
                                          Int)))).toNat) *
                              [IntKind.u8].length +
                            (0 : Nat))
                          (bits BinOp.xor ([IntKind.u8].getD (0 : Nat) IntKind.u8)
                            (([] ++
                                  sym.cutL
                                    (pk n n X
                                      (sym.cutL (chg X L)
                                        (0 : Nat) ((0 : Nat) + n) [IntKind.u8].length))
                                    (0 : Nat)
                                    ((0 : Nat) +
                                      (pk n n X
                                          (sym.cutL (chg X L)
                                            (0 : Nat) ((0 : Nat) + n) [IntKind.u8].length)).length)
                                    [IntKind.u8].length).getD
                              (((0 : Nat) +
                                    (IntKind.i64.wrap
                                        (u.tmod
                                          (IntKind.u64.wrap
                                            (↑((0 : Nat) +
                                                  (pk n n X
                                                      (sym.cutL
                                                        (chg X L) (0 : Nat) ((0 : Nat) + n)
                                                        [IntKind.u8].length)).length) :
                                              Int)))).toNat) *
                                  [IntKind.u8].length +
                                (0 : Nat))
                              (0 : Int))
                            x))
                        (0 : Nat)
                        ((0 : Nat) +
                          ((0 : Nat) +
                            (pk n n X
                                (sym.cutL (chg X L) (0 : Nat)
                                  ((0 : Nat) + n) [IntKind.u8].length)).length))
                        [IntKind.u8].length)).snd.length
                X
                (sym.cutL
                  (unp X
                      (sym.cutL
                        (([] ++
                              sym.cutL
                                (pk n n X
                                  (sym.cutL (chg X L) (0 : Nat)
                                    ((0 : Nat) + n) [IntKind.u8].length))
                                (0 : Nat)
                                ((0 : Nat) +
                                  (pk n n X
                                      (sym.cutL (chg X L)
                                        (0 : Nat) ((0 : Nat) + n) [IntKind.u8].length)).length)
                                [IntKind.u8].length).set
                          (((0 : Nat) +
                                (IntKind.i64.wrap
                                    (u.tmod
                                      (IntKind.u64.wrap
                                        (↑((0 : Nat) +
                                              (pk n n X
                                                  (sym.cutL
                                                    (chg X L) (0 : Nat) ((0 : Nat) + n)
                                                    [IntKind.u8].length)).length) :
                                          Int)))).toNat) *
                              [IntKind.u8].length +
                            (0 : Nat))
                          (bits BinOp.xor ([IntKind.u8].getD (0 : Nat) IntKind.u8)
                            (([] ++
                                  sym.cutL
                                    (pk n n X
                                      (sym.cutL (chg X L)
                                        (0 : Nat) ((0 : Nat) + n) [IntKind.u8].length))
                                    (0 : Nat)
                                    ((0 : Nat) +
                                      (pk n n X
                                          (sym.cutL (chg X L)
                                            (0 : Nat) ((0 : Nat) + n) [IntKind.u8].length)).length)
                                    [IntKind.u8].length).getD
                              (((0 : Nat) +
                                    (IntKind.i64.wrap
                                        (u.tmod
                                          (IntKind.u64.wrap
                                            (↑((0 : Nat) +
                                                  (pk n n X
                                                      (sym.cutL
                                                        (chg X L) (0 : Nat) ((0 : Nat) + n)
                                                        [IntKind.u8].length)).length) :
                                              Int)))).toNat) *
                                  [IntKind.u8].length +
                                (0 : Nat))
                              (0 : Int))
                            x))
                        (0 : Nat)
                        ((0 : Nat) +
                          ((0 : Nat) +
                            (pk n n X
                                (sym.cutL (chg X L) (0 : Nat)
                                  ((0 : Nat) + n) [IntKind.u8].length)).length))
                        [IntKind.u8].length)).snd
                  (0 : Nat)
                  ((0 : Nat) +
                    (unp X
                          (sym.cutL
                            (([] ++
                                  sym.cutL
                                    (pk n n X
                                      (sym.cutL (chg X L)
                                        (0 : Nat) ((0 : Nat) + n) [IntKind.u8].length))
                                    (0 : Nat)
                                    ((0 : Nat) +
                                      (pk n n X
                                          (sym.cutL (chg X L)
                                            (0 : Nat) ((0 : Nat) + n) [IntKind.u8].length)).length)
                                    [IntKind.u8].length).set
                              (((0 : Nat) +
                                    (IntKind.i64.wrap
                                        (u.tmod
                                          (IntKind.u64.wrap
                                            (↑((0 : Nat) +
                                                  (pk n n X
                                                      (sym.cutL
                                                        (chg X L) (0 : Nat) ((0 : Nat) + n)
                                                        [IntKind.u8].length)).length) :
                                              Int)))).toNat) *
                                  [IntKind.u8].length +
                                (0 : Nat))
                              (bits BinOp.xor ([IntKind.u8].getD (0 : Nat) IntKind.u8)
                                (([] ++
                                      sym.cutL
                                        (pk n n X
                                          (sym.cutL (chg X L)
                                            (0 : Nat) ((0 : Nat) + n) [IntKind.u8].length))
                                        (0 : Nat)
                                        ((0 : Nat) +
                                          (pk n n X
                                              (sym.cutL (chg X L)
                                                (0 : Nat) ((0 : Nat) + n) [IntKind.u8].length)).length)
                                        [IntKind.u8].length).getD
                                  (((0 : Nat) +
                                        (IntKind.i64.wrap
                                            (u.tmod
                                              (IntKind.u64.wrap
                                                (↑((0 : Nat) +
                                                      (pk n n X
                                                          (sym.cutL
                                                            (chg X L) (0 : Nat)
                                                            ((0 : Nat) + n) [IntKind.u8].length)).length) :
                                                  Int)))).toNat) *
                                      [IntKind.u8].length +
                                    (0 : Nat))
                                  (0 : Int))
                                x))
                            (0 : Nat)
                            ((0 : Nat) +
                              ((0 : Nat) +
                                (pk n n X
                                    (sym.cutL (chg X L) (0 : Nat)
                                      ((0 : Nat) + n) [IntKind.u8].length)).length))
                            [IntKind.u8].length)).snd.length)
                  [IntKind.u8].length)).length) *
          [IntKind.u8].length ≤
        (pk n
            (unp X
                  (sym.cutL
                    (([] ++
                          sym.cutL
                            (pk n n X
                              (sym.cutL (chg X L) (0 : Nat)
                                ((0 : Nat) + n) [IntKind.u8].length))
                            (0 : Nat)
                            ((0 : Nat) +
                              (pk n n X
                                  (sym.cutL (chg X L) (0 : Nat)
                                    ((0 : Nat) + n) [IntKind.u8].length)).length)
                            [IntKind.u8].length).set
                      (((0 : Nat) +
                            (IntKind.i64.wrap
                                (u.tmod
                                  (IntKind.u64.wrap
                                    (↑((0 : Nat) +
                                          (pk n n X
                                              (sym.cutL (chg X L)
                                                (0 : Nat) ((0 : Nat) + n) [IntKind.u8].length)).length) :
                                      Int)))).toNat) *
                          [IntKind.u8].length +
                        (0 : Nat))
                      (bits BinOp.xor ([IntKind.u8].getD (0 : Nat) IntKind.u8)
                        (([] ++
                              sym.cutL
                                (pk n n X
                                  (sym.cutL (chg X L) (0 : Nat)
                                    ((0 : Nat) + n) [IntKind.u8].length))
                                (0 : Nat)
                                ((0 : Nat) +
                                  (pk n n X
                                      (sym.cutL (chg X L)
                                        (0 : Nat) ((0 : Nat) + n) [IntKind.u8].length)).length)
                                [IntKind.u8].length).getD
                          (((0 : Nat) +
                                (IntKind.i64.wrap
                                    (u.tmod
                                      (IntKind.u64.wrap
                                        (↑((0 : Nat) +
                                              (pk n n X
                                                  (sym.cutL
                                                    (chg X L) (0 : Nat) ((0 : Nat) + n)
                                                    [IntKind.u8].length)).length) :
                                          Int)))).toNat) *
                              [IntKind.u8].length +
                            (0 : Nat))
                          (0 : Int))
                        x))
                    (0 : Nat)
                    ((0 : Nat) +
                      ((0 : Nat) +
                        (pk n n X
                            (sym.cutL (chg X L) (0 : Nat)
                              ((0 : Nat) + n) [IntKind.u8].length)).length))
                    [IntKind.u8].length)).snd.length
            X
            (sym.cutL
              (unp X
                  (sym.cutL
                    (([] ++
                          sym.cutL
                            (pk n n X
                              (sym.cutL (chg X L) (0 : Nat)
                                ((0 : Nat) + n) [IntKind.u8].length))
                            (0 : Nat)
                            ((0 : Nat) +
                              (pk n n X
                                  (sym.cutL (chg X L) (0 : Nat)
                                    ((0 : Nat) + n) [IntKind.u8].length)).length)
                            [IntKind.u8].length).set
                      (((0 : Nat) +
                            (IntKind.i64.wrap
                                (u.tmod
                                  (IntKind.u64.wrap
                                    (↑((0 : Nat) +
                                          (pk n n X
                                              (sym.cutL (chg X L)
                                                (0 : Nat) ((0 : Nat) + n) [IntKind.u8].length)).length) :
                                      Int)))).toNat) *
                          [IntKind.u8].length +
                        (0 : Nat))
                      (bits BinOp.xor ([IntKind.u8].getD (0 : Nat) IntKind.u8)
                        (([] ++
                              sym.cutL
                                (pk n n X
                                  (sym.cutL (chg X L) (0 : Nat)
                                    ((0 : Nat) + n) [IntKind.u8].length))
                                (0 : Nat)
                                ((0 : Nat) +
                                  (pk n n X
                                      (sym.cutL (chg X L)
                                        (0 : Nat) ((0 : Nat) + n) [IntKind.u8].length)).length)
                                [IntKind.u8].length).getD
                          (((0 : Nat) +
                                (IntKind.i64.wrap
                                    (u.tmod
                                      (IntKind.u64.wrap
                                        (↑((0 : Nat) +
                                              (pk n n X
                                                  (sym.cutL
                                                    (chg X L) (0 : Nat) ((0 : Nat) + n)
                                                    [IntKind.u8].length)).length) :
                                          Int)))).toNat) *
                              [IntKind.u8].length +
                            (0 : Nat))
                          (0 : Int))
                        x))
                    (0 : Nat)
                    ((0 : Nat) +
                      ((0 : Nat) +
                        (pk n n X
                            (sym.cutL (chg X L) (0 : Nat)
                              ((0 : Nat) + n) [IntKind.u8].length)).length))
                    [IntKind.u8].length)).snd
              (0 : Nat)
              ((0 : Nat) +
                (unp X
                      (sym.cutL
                        (([] ++
                              sym.cutL
                                (pk n n X
                                  (sym.cutL (chg X L) (0 : Nat)
                                    ((0 : Nat) + n) [IntKind.u8].length))
                                (0 : Nat)
                                ((0 : Nat) +
                                  (pk n n X
                                      (sym.cutL (chg X L)
                                        (0 : Nat) ((0 : Nat) + n) [IntKind.u8].length)).length)
                                [IntKind.u8].length).set
                          (((0 : Nat) +
                                (IntKind.i64.wrap
                                    (u.tmod
                                      (IntKind.u64.wrap
                                        (↑((0 : Nat) +
                                              (pk n n X
                                                  (sym.cutL
                                                    (chg X L) (0 : Nat) ((0 : Nat) + n)
                                                    [IntKind.u8].length)).length) :
                                          Int)))).toNat) *
                              [IntKind.u8].length +
                            (0 : Nat))
                          (bits BinOp.xor ([IntKind.u8].getD (0 : Nat) IntKind.u8)
                            (([] ++
                                  sym.cutL
                                    (pk n n X
                                      (sym.cutL (chg X L)
                                        (0 : Nat) ((0 : Nat) + n) [IntKind.u8].length))
                                    (0 : Nat)
                                    ((0 : Nat) +
                                      (pk n n X
                                          (sym.cutL (chg X L)
                                            (0 : Nat) ((0 : Nat) + n) [IntKind.u8].length)).length)
                                    [IntKind.u8].length).getD
                              (((0 : Nat) +
                                    (IntKind.i64.wrap
                                        (u.tmod
                                          (IntKind.u64.wrap
                                            (↑((0 : Nat) +
                                                  (pk n n X
                                                      (sym.cutL
                                                        (chg X L) (0 : Nat) ((0 : Nat) + n)
                                                        [IntKind.u8].length)).length) :
                                              Int)))).toNat) *
                                  [IntKind.u8].length +
                                (0 : Nat))
                              (0 : Int))
                            x))
                        (0 : Nat)
                        ((0 : Nat) +
                          ((0 : Nat) +
                            (pk n n X
                                (sym.cutL (chg X L) (0 : Nat)
                                  ((0 : Nat) + n) [IntKind.u8].length)).length))
                        [IntKind.u8].length)).snd.length)
              [IntKind.u8].length)).length ∧
      (pk n
            (unp X
                  (sym.cutL
                    (([] ++
                          sym.cutL
                            (pk n n X
                              (sym.cutL (chg X L) (0 : Nat)
                                ((0 : Nat) + n) [IntKind.u8].length))
                            (0 : Nat)
                            ((0 : Nat) +
                              (pk n n X
                                  (sym.cutL (chg X L) (0 : Nat)
                                    ((0 : Nat) + n) [IntKind.u8].length)).length)
                            [IntKind.u8].length).set
                      (((0 : Nat) +
                            (IntKind.i64.wrap
                                (u.tmod
                                  (IntKind.u64.wrap
                                    (↑((0 : Nat) +
                                          (pk n n X
                                              (sym.cutL (chg X L)
                                                (0 : Nat) ((0 : Nat) + n) [IntKind.u8].length)).length) :
                                      Int)))).toNat) *
                          [IntKind.u8].length +
                        (0 : Nat))
                      (bits BinOp.xor ([IntKind.u8].getD (0 : Nat) IntKind.u8)
                        (([] ++
                              sym.cutL
                                (pk n n X
                                  (sym.cutL (chg X L) (0 : Nat)
                                    ((0 : Nat) + n) [IntKind.u8].length))
                                (0 : Nat)
                                ((0 : Nat) +
                                  (pk n n X
                                      (sym.cutL (chg X L)
                                        (0 : Nat) ((0 : Nat) + n) [IntKind.u8].length)).length)
                                [IntKind.u8].length).getD
                          (((0 : Nat) +
                                (IntKind.i64.wrap
                                    (u.tmod
                                      (IntKind.u64.wrap
                                        (↑((0 : Nat) +
                                              (pk n n X
                                                  (sym.cutL
                                                    (chg X L) (0 : Nat) ((0 : Nat) + n)
                                                    [IntKind.u8].length)).length) :
                                          Int)))).toNat) *
                              [IntKind.u8].length +
                            (0 : Nat))
                          (0 : Int))
                        x))
                    (0 : Nat)
                    ((0 : Nat) +
                      ((0 : Nat) +
                        (pk n n X
                            (sym.cutL (chg X L) (0 : Nat)
                              ((0 : Nat) + n) [IntKind.u8].length)).length))
                    [IntKind.u8].length)).snd.length
            X
            (sym.cutL
              (unp X
                  (sym.cutL
                    (([] ++
                          sym.cutL
                            (pk n n X
                              (sym.cutL (chg X L) (0 : Nat)
                                ((0 : Nat) + n) [IntKind.u8].length))
                            (0 : Nat)
                            ((0 : Nat) +
                              (pk n n X
                                  (sym.cutL (chg X L) (0 : Nat)
                                    ((0 : Nat) + n) [IntKind.u8].length)).length)
                            [IntKind.u8].length).set
                      (((0 : Nat) +
                            (IntKind.i64.wrap
                                (u.tmod
                                  (IntKind.u64.wrap
                                    (↑((0 : Nat) +
                                          (pk n n X
                                              (sym.cutL (chg X L)
                                                (0 : Nat) ((0 : Nat) + n) [IntKind.u8].length)).length) :
                                      Int)))).toNat) *
                          [IntKind.u8].length +
                        (0 : Nat))
                      (bits BinOp.xor ([IntKind.u8].getD (0 : Nat) IntKind.u8)
                        (([] ++
                              sym.cutL
                                (pk n n X
                                  (sym.cutL (chg X L) (0 : Nat)
                                    ((0 : Nat) + n) [IntKind.u8].length))
                                (0 : Nat)
                                ((0 : Nat) +
                                  (pk n n X
                                      (sym.cutL (chg X L)
                                        (0 : Nat) ((0 : Nat) + n) [IntKind.u8].length)).length)
                                [IntKind.u8].length).getD
                          (((0 : Nat) +
                                (IntKind.i64.wrap
                                    (u.tmod
                                      (IntKind.u64.wrap
                                        (↑((0 : Nat) +
                                              (pk n n X
                                                  (sym.cutL
                                                    (chg X L) (0 : Nat) ((0 : Nat) + n)
                                                    [IntKind.u8].length)).length) :
                                          Int)))).toNat) *
                              [IntKind.u8].length +
                            (0 : Nat))
                          (0 : Int))
                        x))
                    (0 : Nat)
                    ((0 : Nat) +
                      ((0 : Nat) +
                        (pk n n X
                            (sym.cutL (chg X L) (0 : Nat)
                              ((0 : Nat) + n) [IntKind.u8].length)).length))
                    [IntKind.u8].length)).snd
              (0 : Nat)
              ((0 : Nat) +
                (unp X
                      (sym.cutL
                        (([] ++
                              sym.cutL
                                (pk n n X
                                  (sym.cutL (chg X L) (0 : Nat)
                                    ((0 : Nat) + n) [IntKind.u8].length))
                                (0 : Nat)
                                ((0 : Nat) +
                                  (pk n n X
                                      (sym.cutL (chg X L)
                                        (0 : Nat) ((0 : Nat) + n) [IntKind.u8].length)).length)
                                [IntKind.u8].length).set
                          (((0 : Nat) +
                                (IntKind.i64.wrap
                                    (u.tmod
                                      (IntKind.u64.wrap
                                        (↑((0 : Nat) +
                                              (pk n n X
                                                  (sym.cutL
                                                    (chg X L) (0 : Nat) ((0 : Nat) + n)
                                                    [IntKind.u8].length)).length) :
                                          Int)))).toNat) *
                              [IntKind.u8].length +
                            (0 : Nat))
                          (bits BinOp.xor ([IntKind.u8].getD (0 : Nat) IntKind.u8)
                            (([] ++
                                  sym.cutL
                                    (pk n n X
                                      (sym.cutL (chg X L)
                                        (0 : Nat) ((0 : Nat) + n) [IntKind.u8].length))
                                    (0 : Nat)
                                    ((0 : Nat) +
                                      (pk n n X
                                          (sym.cutL (chg X L)
                                            (0 : Nat) ((0 : Nat) + n) [IntKind.u8].length)).length)
                                    [IntKind.u8].length).getD
                              (((0 : Nat) +
                                    (IntKind.i64.wrap
                                        (u.tmod
                                          (IntKind.u64.wrap
                                            (↑((0 : Nat) +
                                                  (pk n n X
                                                      (sym.cutL
                                                        (chg X L) (0 : Nat) ((0 : Nat) + n)
                                                        [IntKind.u8].length)).length) :
                                              Int)))).toNat) *
                                  [IntKind.u8].length +
                                (0 : Nat))
                              (0 : Int))
                            x))
                        (0 : Nat)
                        ((0 : Nat) +
                          ((0 : Nat) +
                            (pk n n X
                                (sym.cutL (chg X L) (0 : Nat)
                                  ((0 : Nat) + n) [IntKind.u8].length)).length))
                        [IntKind.u8].length)).snd.length)
              [IntKind.u8].length)).length ≤
        x_9.cap) ∧
  (x_7.nl' = x_7.nl' ∧
      ((0 : Nat) +
              ((0 : Nat) +
                (pk n n X
                    (sym.cutL (chg X L) (0 : Nat) ((0 : Nat) + n)
                      [IntKind.u8].length)).length)) *
            [IntKind.u8].length ≤
          (([] ++
                  sym.cutL
                    (pk n n X
                      (sym.cutL (chg X L) (0 : Nat)
                        ((0 : Nat) + n) [IntKind.u8].length))
                    (0 : Nat)
                    ((0 : Nat) +
                      (pk n n X
                          (sym.cutL (chg X L) (0 : Nat)
                            ((0 : Nat) + n) [IntKind.u8].length)).length)
                    [IntKind.u8].length).set
              (((0 : Nat) +
                    (IntKind.i64.wrap
                        (u.tmod
                          (IntKind.u64.wrap
                            (↑((0 : Nat) +
                                  (pk n n X
                                      (sym.cutL (chg X L)
                                        (0 : Nat) ((0 : Nat) + n) [IntKind.u8].length)).length) :
                              Int)))).toNat) *
                  [IntKind.u8].length +
                (0 : Nat))
              (bits BinOp.xor ([IntKind.u8].getD (0 : Nat) IntKind.u8)
                (([] ++
                      sym.cutL
                        (pk n n X
                          (sym.cutL (chg X L) (0 : Nat)
                            ((0 : Nat) + n) [IntKind.u8].length))
                        (0 : Nat)
                        ((0 : Nat) +
                          (pk n n X
                              (sym.cutL (chg X L) (0 : Nat)
                                ((0 : Nat) + n) [IntKind.u8].length)).length)
                        [IntKind.u8].length).getD
                  (((0 : Nat) +
                        (IntKind.i64.wrap
                            (u.tmod
                              (IntKind.u64.wrap
                                (↑((0 : Nat) +
                                      (pk n n X
                                          (sym.cutL (chg X L)
                                            (0 : Nat) ((0 : Nat) + n) [IntKind.u8].length)).length) :
                                  Int)))).toNat) *
                      [IntKind.u8].length +
                    (0 : Nat))
                  (0 : Int))
                x)).length ∧
        (0 : Nat) +
            (pk n n X
                (sym.cutL (chg X L) (0 : Nat) ((0 : Nat) + n)
                  [IntKind.u8].length)).length ≤
          x_7.cap) ∧
    True)
             (.chk ((pk n
      (unp X
            (sym.cutL
              (([] ++
                    sym.cutL
                      (pk n n X
                        (sym.cutL (chg X L) (0 : Nat)
                          ((0 : Nat) + n) [IntKind.u8].length))
                      (0 : Nat)
                      ((0 : Nat) +
                        (pk n n X
                            (sym.cutL (chg X L) (0 : Nat)
                              ((0 : Nat) + n) [IntKind.u8].length)).length)
                      [IntKind.u8].length).set
                (((0 : Nat) +
                      (IntKind.i64.wrap
                          (u.tmod
                            (IntKind.u64.wrap
                              (↑((0 : Nat) +
                                    (pk n n X
                                        (sym.cutL (chg X L)
                                          (0 : Nat) ((0 : Nat) + n) [IntKind.u8].length)).length) :
                                Int)))).toNat) *
                    [IntKind.u8].length +
                  (0 : Nat))
                (bits BinOp.xor ([IntKind.u8].getD (0 : Nat) IntKind.u8)
                  (([] ++
                        sym.cutL
                          (pk n n X
                            (sym.cutL (chg X L) (0 : Nat)
                              ((0 : Nat) + n) [IntKind.u8].length))
                          (0 : Nat)
                          ((0 : Nat) +
                            (pk n n X
                                (sym.cutL (chg X L) (0 : Nat)
                                  ((0 : Nat) + n) [IntKind.u8].length)).length)
                          [IntKind.u8].length).getD
                    (((0 : Nat) +
                          (IntKind.i64.wrap
                              (u.tmod
                                (IntKind.u64.wrap
                                  (↑((0 : Nat) +
                                        (pk n n X
                                            (sym.cutL (chg X L)
                                              (0 : Nat) ((0 : Nat) + n) [IntKind.u8].length)).length) :
                                    Int)))).toNat) *
                        [IntKind.u8].length +
                      (0 : Nat))
                    (0 : Int))
                  x))
              (0 : Nat)
              ((0 : Nat) +
                ((0 : Nat) +
                  (pk n n X
                      (sym.cutL (chg X L) (0 : Nat)
                        ((0 : Nat) + n) [IntKind.u8].length)).length))
              [IntKind.u8].length)).snd.length
      X
      (sym.cutL
        (unp X
            (sym.cutL
              (([] ++
                    sym.cutL
                      (pk n n X
                        (sym.cutL (chg X L) (0 : Nat)
                          ((0 : Nat) + n) [IntKind.u8].length))
                      (0 : Nat)
                      ((0 : Nat) +
                        (pk n n X
                            (sym.cutL (chg X L) (0 : Nat)
                              ((0 : Nat) + n) [IntKind.u8].length)).length)
                      [IntKind.u8].length).set
                (((0 : Nat) +
                      (IntKind.i64.wrap
                          (u.tmod
                            (IntKind.u64.wrap
                              (↑((0 : Nat) +
                                    (pk n n X
                                        (sym.cutL (chg X L)
                                          (0 : Nat) ((0 : Nat) + n) [IntKind.u8].length)).length) :
                                Int)))).toNat) *
                    [IntKind.u8].length +
                  (0 : Nat))
                (bits BinOp.xor ([IntKind.u8].getD (0 : Nat) IntKind.u8)
                  (([] ++
                        sym.cutL
                          (pk n n X
                            (sym.cutL (chg X L) (0 : Nat)
                              ((0 : Nat) + n) [IntKind.u8].length))
                          (0 : Nat)
                          ((0 : Nat) +
                            (pk n n X
                                (sym.cutL (chg X L) (0 : Nat)
                                  ((0 : Nat) + n) [IntKind.u8].length)).length)
                          [IntKind.u8].length).getD
                    (((0 : Nat) +
                          (IntKind.i64.wrap
                              (u.tmod
                                (IntKind.u64.wrap
                                  (↑((0 : Nat) +
                                        (pk n n X
                                            (sym.cutL (chg X L)
                                              (0 : Nat) ((0 : Nat) + n) [IntKind.u8].length)).length) :
                                    Int)))).toNat) *
                        [IntKind.u8].length +
                      (0 : Nat))
                    (0 : Int))
                  x))
              (0 : Nat)
              ((0 : Nat) +
                ((0 : Nat) +
                  (pk n n X
                      (sym.cutL (chg X L) (0 : Nat)
                        ((0 : Nat) + n) [IntKind.u8].length)).length))
              [IntKind.u8].length)).snd
        (0 : Nat)
        ((0 : Nat) +
          (unp X
                (sym.cutL
                  (([] ++
                        sym.cutL
                          (pk n n X
                            (sym.cutL (chg X L) (0 : Nat)
                              ((0 : Nat) + n) [IntKind.u8].length))
                          (0 : Nat)
                          ((0 : Nat) +
                            (pk n n X
                                (sym.cutL (chg X L) (0 : Nat)
                                  ((0 : Nat) + n) [IntKind.u8].length)).length)
                          [IntKind.u8].length).set
                    (((0 : Nat) +
                          (IntKind.i64.wrap
                              (u.tmod
                                (IntKind.u64.wrap
                                  (↑((0 : Nat) +
                                        (pk n n X
                                            (sym.cutL (chg X L)
                                              (0 : Nat) ((0 : Nat) + n) [IntKind.u8].length)).length) :
                                    Int)))).toNat) *
                        [IntKind.u8].length +
                      (0 : Nat))
                    (bits BinOp.xor ([IntKind.u8].getD (0 : Nat) IntKind.u8)
                      (([] ++
                            sym.cutL
                              (pk n n X
                                (sym.cutL (chg X L) (0 : Nat)
                                  ((0 : Nat) + n) [IntKind.u8].length))
                              (0 : Nat)
                              ((0 : Nat) +
                                (pk n n X
                                    (sym.cutL (chg X L) (0 : Nat)
                                      ((0 : Nat) + n) [IntKind.u8].length)).length)
                              [IntKind.u8].length).getD
                        (((0 : Nat) +
                              (IntKind.i64.wrap
                                  (u.tmod
                                    (IntKind.u64.wrap
                                      (↑((0 : Nat) +
                                            (pk n n X
                                                (sym.cutL
                                                  (chg X L) (0 : Nat) ((0 : Nat) + n)
                                                  [IntKind.u8].length)).length) :
                                        Int)))).toNat) *
                            [IntKind.u8].length +
                          (0 : Nat))
                        (0 : Int))
                      x))
                  (0 : Nat)
                  ((0 : Nat) +
                    ((0 : Nat) +
                      (pk n n X
                          (sym.cutL (chg X L) (0 : Nat)
                            ((0 : Nat) + n) [IntKind.u8].length)).length))
                  [IntKind.u8].length)).snd.length)
        [IntKind.u8].length)).length ≤
  (1000000000 : Nat))
             (.br (!decide
    (sym.cutL
        (pk n
          (unp X
                (sym.cutL
                  (([] ++
                        sym.cutL
                          (pk n n X
                            (sym.cutL (chg X L) (0 : Nat)
                              ((0 : Nat) + n) [IntKind.u8].length))
                          (0 : Nat)
                          ((0 : Nat) +
                            (pk n n X
                                (sym.cutL (chg X L) (0 : Nat)
                                  ((0 : Nat) + n) [IntKind.u8].length)).length)
                          [IntKind.u8].length).set
                    (((0 : Nat) +
                          (IntKind.i64.wrap
                              (u.tmod
                                (IntKind.u64.wrap
                                  (↑((0 : Nat) +
                                        (pk n n X
                                            (sym.cutL (chg X L)
                                              (0 : Nat) ((0 : Nat) + n) [IntKind.u8].length)).length) :
                                    Int)))).toNat) *
                        [IntKind.u8].length +
                      (0 : Nat))
                    (bits BinOp.xor ([IntKind.u8].getD (0 : Nat) IntKind.u8)
                      (([] ++
                            sym.cutL
                              (pk n n X
                                (sym.cutL (chg X L) (0 : Nat)
                                  ((0 : Nat) + n) [IntKind.u8].length))
                              (0 : Nat)
                              ((0 : Nat) +
                                (pk n n X
                                    (sym.cutL (chg X L) (0 : Nat)
                                      ((0 : Nat) + n) [IntKind.u8].length)).length)
                              [IntKind.u8].length).getD
                        (((0 : Nat) +
                              (IntKind.i64.wrap
                                  (u.tmod
                                    (IntKind.u64.wrap
                                      (↑((0 : Nat) +
                                            (pk n n X
                                                (sym.cutL
                                                  (chg X L) (0 : Nat) ((0 : Nat) + n)
                                                  [IntKind.u8].length)).length) :
                                        Int)))).toNat) *
                            [IntKind.u8].length +
                          (0 : Nat))
                        (0 : Int))
                      x))
                  (0 : Nat)
                  ((0 : Nat) +
                    ((0 : Nat) +
                      (pk n n X
                          (sym.cutL (chg X L) (0 : Nat)
                            ((0 : Nat) + n) [IntKind.u8].length)).length))
                  [IntKind.u8].length)).snd.length
          X
          (sym.cutL
            (unp X
                (sym.cutL
                  (([] ++
                        sym.cutL
                          (pk n n X
                            (sym.cutL (chg X L) (0 : Nat)
                              ((0 : Nat) + n) [IntKind.u8].length))
                          (0 : Nat)
                          ((0 : Nat) +
                            (pk n n X
                                (sym.cutL (chg X L) (0 : Nat)
                                  ((0 : Nat) + n) [IntKind.u8].length)).length)
                          [IntKind.u8].length).set
                    (((0 : Nat) +
                          (IntKind.i64.wrap
                              (u.tmod
                                (IntKind.u64.wrap
                                  (↑((0 : Nat) +
                                        (pk n n X
                                            (sym.cutL (chg X L)
                                              (0 : Nat) ((0 : Nat) + n) [IntKind.u8].length)).length) :
                                    Int)))).toNat) *
                        [IntKind.u8].length +
                      (0 : Nat))
                    (bits BinOp.xor ([IntKind.u8].getD (0 : Nat) IntKind.u8)
                      (([] ++
                            sym.cutL
                              (pk n n X
                                (sym.cutL (chg X L) (0 : Nat)
                                  ((0 : Nat) + n) [IntKind.u8].length))
                              (0 : Nat)
                              ((0 : Nat) +
                                (pk n n X
                                    (sym.cutL (chg X L) (0 : Nat)
                                      ((0 : Nat) + n) [IntKind.u8].length)).length)
                              [IntKind.u8].length).getD
                        (((0 : Nat) +
                              (IntKind.i64.wrap
                                  (u.tmod
                                    (IntKind.u64.wrap
                                      (↑((0 : Nat) +
                                            (pk n n X
                                                (sym.cutL
                                                  (chg X L) (0 : Nat) ((0 : Nat) + n)
                                                  [IntKind.u8].length)).length) :
                                        Int)))).toNat) *
                            [IntKind.u8].length +
                          (0 : Nat))
                        (0 : Int))
                      x))
                  (0 : Nat)
                  ((0 : Nat) +
                    ((0 : Nat) +
                      (pk n n X
                          (sym.cutL (chg X L) (0 : Nat)
                            ((0 : Nat) + n) [IntKind.u8].length)).length))
                  [IntKind.u8].length)).snd
            (0 : Nat)
            ((0 : Nat) +
              (unp X
                    (sym.cutL
                      (([] ++
                            sym.cutL
                              (pk n n X
                                (sym.cutL (chg X L) (0 : Nat)
                                  ((0 : Nat) + n) [IntKind.u8].length))
                              (0 : Nat)
                              ((0 : Nat) +
                                (pk n n X
                                    (sym.cutL (chg X L) (0 : Nat)
                                      ((0 : Nat) + n) [IntKind.u8].length)).length)
                              [IntKind.u8].length).set
                        (((0 : Nat) +
                              (IntKind.i64.wrap
                                  (u.tmod
                                    (IntKind.u64.wrap
                                      (↑((0 : Nat) +
                                            (pk n n X
                                                (sym.cutL
                                                  (chg X L) (0 : Nat) ((0 : Nat) + n)
                                                  [IntKind.u8].length)).length) :
                                        Int)))).toNat) *
                            [IntKind.u8].length +
                          (0 : Nat))
                        (bits BinOp.xor ([IntKind.u8].getD (0 : Nat) IntKind.u8)
                          (([] ++
                                sym.cutL
                                  (pk n n X
                                    (sym.cutL (chg X L) (0 : Nat)
                                      ((0 : Nat) + n) [IntKind.u8].length))
                                  (0 : Nat)
                                  ((0 : Nat) +
                                    (pk n n X
                                        (sym.cutL (chg X L)
                                          (0 : Nat) ((0 : Nat) + n) [IntKind.u8].length)).length)
                                  [IntKind.u8].length).getD
                            (((0 : Nat) +
                                  (IntKind.i64.wrap
                                      (u.tmod
                                        (IntKind.u64.wrap
                                          (↑((0 : Nat) +
                                                (pk n n X
                                                    (sym.cutL
                                                      (chg X L) (0 : Nat) ((0 : Nat) + n)
                                                      [IntKind.u8].length)).length) :
                                            Int)))).toNat) *
                                [IntKind.u8].length +
                              (0 : Nat))
                            (0 : Int))
                          x))
                      (0 : Nat)
                      ((0 : Nat) +
                        ((0 : Nat) +
                          (pk n n X
                              (sym.cutL (chg X L) (0 : Nat)
                                ((0 : Nat) + n) [IntKind.u8].length)).length))
                      [IntKind.u8].length)).snd.length)
            [IntKind.u8].length))
        (0 : Nat)
        ((0 : Nat) +
          (pk n
              (unp X
                    (sym.cutL
                      (([] ++
                            sym.cutL
                              (pk n n X
                                (sym.cutL (chg X L) (0 : Nat)
                                  ((0 : Nat) + n) [IntKind.u8].length))
                              (0 : Nat)
                              ((0 : Nat) +
                                (pk n n X
                                    (sym.cutL (chg X L) (0 : Nat)
                                      ((0 : Nat) + n) [IntKind.u8].length)).length)
                              [IntKind.u8].length).set
                        (((0 : Nat) +
                              (IntKind.i64.wrap
                                  (u.tmod
                                    (IntKind.u64.wrap
                                      (↑((0 : Nat) +
                                            (pk n n X
                                                (sym.cutL
                                                  (chg X L) (0 : Nat) ((0 : Nat) + n)
                                                  [IntKind.u8].length)).length) :
                                        Int)))).toNat) *
                            [IntKind.u8].length +
                          (0 : Nat))
                        (bits BinOp.xor ([IntKind.u8].getD (0 : Nat) IntKind.u8)
                          (([] ++
                                sym.cutL
                                  (pk n n X
                                    (sym.cutL (chg X L) (0 : Nat)
                                      ((0 : Nat) + n) [IntKind.u8].length))
                                  (0 : Nat)
                                  ((0 : Nat) +
                                    (pk n n X
                                        (sym.cutL (chg X L)
                                          (0 : Nat) ((0 : Nat) + n) [IntKind.u8].length)).length)
                                  [IntKind.u8].length).getD
                            (((0 : Nat) +
                                  (IntKind.i64.wrap
                                      (u.tmod
                                        (IntKind.u64.wrap
                                          (↑((0 : Nat) +
                                                (pk n n X
                                                    (sym.cutL
                                                      (chg X L) (0 : Nat) ((0 : Nat) + n)
                                                      [IntKind.u8].length)).length) :
                                            Int)))).toNat) *
                                [IntKind.u8].length +
                              (0 : Nat))
                            (0 : Int))
                          x))
                      (0 : Nat)
                      ((0 : Nat) +
                        ((0 : Nat) +
                          (pk n n X
                              (sym.cutL (chg X L) (0 : Nat)
                                ((0 : Nat) + n) [IntKind.u8].length)).length))
                      [IntKind.u8].length)).snd.length
              X
              (sym.cutL
                (unp X
                    (sym.cutL
                      (([] ++
                            sym.cutL
                              (pk n n X
                                (sym.cutL (chg X L) (0 : Nat)
                                  ((0 : Nat) + n) [IntKind.u8].length))
                              (0 : Nat)
                              ((0 : Nat) +
                                (pk n n X
                                    (sym.cutL (chg X L) (0 : Nat)
                                      ((0 : Nat) + n) [IntKind.u8].length)).length)
                              [IntKind.u8].length).set
                        (((0 : Nat) +
                              (IntKind.i64.wrap
                                  (u.tmod
                                    (IntKind.u64.wrap
                                      (↑((0 : Nat) +
                                            (pk n n X
                                                (sym.cutL
                                                  (chg X L) (0 : Nat) ((0 : Nat) + n)
                                                  [IntKind.u8].length)).length) :
                                        Int)))).toNat) *
                            [IntKind.u8].length +
                          (0 : Nat))
                        (bits BinOp.xor ([IntKind.u8].getD (0 : Nat) IntKind.u8)
                          (([] ++
                                sym.cutL
                                  (pk n n X
                                    (sym.cutL (chg X L) (0 : Nat)
                                      ((0 : Nat) + n) [IntKind.u8].length))
                                  (0 : Nat)
                                  ((0 : Nat) +
                                    (pk n n X
                                        (sym.cutL (chg X L)
                                          (0 : Nat) ((0 : Nat) + n) [IntKind.u8].length)).length)
                                  [IntKind.u8].length).getD
                            (((0 : Nat) +
                                  (IntKind.i64.wrap
                                      (u.tmod
                                        (IntKind.u64.wrap
                                          (↑((0 : Nat) +
                                                (pk n n X
                                                    (sym.cutL
                                                      (chg X L) (0 : Nat) ((0 : Nat) + n)
                                                      [IntKind.u8].length)).length) :
                                            Int)))).toNat) *
                                [IntKind.u8].length +
                              (0 : Nat))
                            (0 : Int))
                          x))
                      (0 : Nat)
                      ((0 : Nat) +
                        ((0 : Nat) +
                          (pk n n X
                              (sym.cutL (chg X L) (0 : Nat)
                                ((0 : Nat) + n) [IntKind.u8].length)).length))
                      [IntKind.u8].length)).snd
                (0 : Nat)
                ((0 : Nat) +
                  (unp X
                        (sym.cutL
                          (([] ++
                                sym.cutL
                                  (pk n n X
                                    (sym.cutL (chg X L) (0 : Nat)
                                      ((0 : Nat) + n) [IntKind.u8].length))
                                  (0 : Nat)
                                  ((0 : Nat) +
                                    (pk n n X
                                        (sym.cutL (chg X L)
                                          (0 : Nat) ((0 : Nat) + n) [IntKind.u8].length)).length)
                                  [IntKind.u8].length).set
                            (((0 : Nat) +
                                  (IntKind.i64.wrap
                                      (u.tmod
                                        (IntKind.u64.wrap
                                          (↑((0 : Nat) +
                                                (pk n n X
                                                    (sym.cutL
                                                      (chg X L) (0 : Nat) ((0 : Nat) + n)
                                                      [IntKind.u8].length)).length) :
                                            Int)))).toNat) *
                                [IntKind.u8].length +
                              (0 : Nat))
                            (bits BinOp.xor ([IntKind.u8].getD (0 : Nat) IntKind.u8)
                              (([] ++
                                    sym.cutL
                                      (pk n n X
                                        (sym.cutL (chg X L)
                                          (0 : Nat) ((0 : Nat) + n) [IntKind.u8].length))
                                      (0 : Nat)
                                      ((0 : Nat) +
                                        (pk n n X
                                            (sym.cutL (chg X L)
                                              (0 : Nat) ((0 : Nat) + n) [IntKind.u8].length)).length)
                                      [IntKind.u8].length).getD
                                (((0 : Nat) +
                                      (IntKind.i64.wrap
                                          (u.tmod
                                            (IntKind.u64.wrap
                                              (↑((0 : Nat) +
                                                    (pk n n X
                                                        (sym.cutL
                                                          (chg X L) (0 : Nat) ((0 : Nat) + n)
                                                          [IntKind.u8].length)).length) :
                                                Int)))).toNat) *
                                    [IntKind.u8].length +
                                  (0 : Nat))
                                (0 : Int))
                              x))
                          (0 : Nat)
                          ((0 : Nat) +
                            ((0 : Nat) +
                              (pk n n X
                                  (sym.cutL (chg X L) (0 : Nat)
                                    ((0 : Nat) + n) [IntKind.u8].length)).length))
                          [IntKind.u8].length)).snd.length)
                [IntKind.u8].length)).length)
        [IntKind.u8].length =
      sym.cutL
        (([] ++
              sym.cutL
                (pk n n X
                  (sym.cutL (chg X L) (0 : Nat) ((0 : Nat) + n)
                    [IntKind.u8].length))
                (0 : Nat)
                ((0 : Nat) +
                  (pk n n X
                      (sym.cutL (chg X L) (0 : Nat)
                        ((0 : Nat) + n) [IntKind.u8].length)).length)
                [IntKind.u8].length).set
          (((0 : Nat) +
                (IntKind.i64.wrap
                    (u.tmod
                      (IntKind.u64.wrap
                        (↑((0 : Nat) +
                              (pk n n X
                                  (sym.cutL (chg X L) (0 : Nat)
                                    ((0 : Nat) + n) [IntKind.u8].length)).length) :
                          Int)))).toNat) *
              [IntKind.u8].length +
            (0 : Nat))
          (bits BinOp.xor ([IntKind.u8].getD (0 : Nat) IntKind.u8)
            (([] ++
                  sym.cutL
                    (pk n n X
                      (sym.cutL (chg X L) (0 : Nat)
                        ((0 : Nat) + n) [IntKind.u8].length))
                    (0 : Nat)
                    ((0 : Nat) +
                      (pk n n X
                          (sym.cutL (chg X L) (0 : Nat)
                            ((0 : Nat) + n) [IntKind.u8].length)).length)
                    [IntKind.u8].length).getD
              (((0 : Nat) +
                    (IntKind.i64.wrap
                        (u.tmod
                          (IntKind.u64.wrap
                            (↑((0 : Nat) +
                                  (pk n n X
                                      (sym.cutL (chg X L)
                                        (0 : Nat) ((0 : Nat) + n) [IntKind.u8].length)).length) :
                              Int)))).toNat) *
                  [IntKind.u8].length +
                (0 : Nat))
              (0 : Int))
            x))
        (0 : Nat)
        ((0 : Nat) +
          ((0 : Nat) +
            (pk n n X
                (sym.cutL (chg X L) (0 : Nat) ((0 : Nat) + n)
                  [IntKind.u8].length)).length))
        [IntKind.u8].length))
              (.leaf (.v (.one (.bool true false))))
              (.br ((↑(unp X
            (sym.cutL
              (([] ++
                    sym.cutL
                      (pk n n X
                        (sym.cutL (chg X L) (0 : Nat)
                          ((0 : Nat) + n) [IntKind.u8].length))
                      (0 : Nat)
                      ((0 : Nat) +
                        (pk n n X
                            (sym.cutL (chg X L) (0 : Nat)
                              ((0 : Nat) + n) [IntKind.u8].length)).length)
                      [IntKind.u8].length).set
                (((0 : Nat) +
                      (IntKind.i64.wrap
                          (u.tmod
                            (IntKind.u64.wrap
                              (↑((0 : Nat) +
                                    (pk n n X
                                        (sym.cutL (chg X L)
                                          (0 : Nat) ((0 : Nat) + n) [IntKind.u8].length)).length) :
                                Int)))).toNat) *
                    [IntKind.u8].length +
                  (0 : Nat))
                (bits BinOp.xor ([IntKind.u8].getD (0 : Nat) IntKind.u8)
                  (([] ++
                        sym.cutL
                          (pk n n X
                            (sym.cutL (chg X L) (0 : Nat)
                              ((0 : Nat) + n) [IntKind.u8].length))
                          (0 : Nat)
                          ((0 : Nat) +
                            (pk n n X
                                (sym.cutL (chg X L) (0 : Nat)
                                  ((0 : Nat) + n) [IntKind.u8].length)).length)
                          [IntKind.u8].length).getD
                    (((0 : Nat) +
                          (IntKind.i64.wrap
                              (u.tmod
                                (IntKind.u64.wrap
                                  (↑((0 : Nat) +
                                        (pk n n X
                                            (sym.cutL (chg X L)
                                              (0 : Nat) ((0 : Nat) + n) [IntKind.u8].length)).length) :
                                    Int)))).toNat) *
                        [IntKind.u8].length +
                      (0 : Nat))
                    (0 : Int))
                  x))
              (0 : Nat)
              ((0 : Nat) +
                ((0 : Nat) +
                  (pk n n X
                      (sym.cutL (chg X L) (0 : Nat)
                        ((0 : Nat) + n) [IntKind.u8].length)).length))
              [IntKind.u8].length)).snd.length :
    Int) !=
  (↑n : Int))
               (.leaf (.v (.one (.bool true false))))
               (.br ((unp X
      (sym.cutL
        (pk n n X
          (sym.cutL (chg X L) (0 : Nat) ((0 : Nat) + n)
            [IntKind.u8].length))
        (sym.cutO (0 : Nat) x_2.cap (0 : Nat))
        (sym.cutO (0 : Nat) x_2.cap (0 : Nat) +
          ((IntKind.i64.wrap
                (v.tmod
                  (IntKind.u64.wrap
                    (↑(pk n n X
                            (sym.cutL (chg X L) (0 : Nat)
                              ((0 : Nat) + n) [IntKind.u8].length)).length :
                      Int)))).toNat -
            (0 : Nat)))
        [IntKind.u8].length)).fst !=
  (0 : Int))
                (.br ((unp X
      (sym.cutL
        (List.take
            (((0 : Nat) +
                (pk n n X
                    (sym.cutL (chg X L) (0 : Nat) ((0 : Nat) + n)
                      [IntKind.u8].length)).length) *
              [IntKind.u8].length)
            ([] ++
              sym.cutL
                (pk n n X
                  (sym.cutL (chg X L) (0 : Nat) ((0 : Nat) + n)
                    [IntKind.u8].length))
                (0 : Nat)
                ((0 : Nat) +
                  (pk n n X
                      (sym.cutL (chg X L) (0 : Nat)
                        ((0 : Nat) + n) [IntKind.u8].length)).length)
                [IntKind.u8].length) ++
          [x])
        (0 : Nat)
        ((0 : Nat) +
          ((0 : Nat) +
              (pk n n X
                  (sym.cutL (chg X L) (0 : Nat) ((0 : Nat) + n)
                    [IntKind.u8].length)).length +
            (1 : Nat)))
        [IntKind.u8].length)).fst ==
  (3 : Int))
                 (.br ((unp X
      (sym.cutL
        (([] ++
              sym.cutL
                (pk n n X
                  (sym.cutL (chg X L) (0 : Nat) ((0 : Nat) + n)
                    [IntKind.u8].length))
                (0 : Nat)
                ((0 : Nat) +
                  (pk n n X
                      (sym.cutL (chg X L) (0 : Nat)
                        ((0 : Nat) + n) [IntKind.u8].length)).length)
                [IntKind.u8].length).set
          (((0 : Nat) +
                (IntKind.i64.wrap
                    (u.tmod
                      (IntKind.u64.wrap
                        (↑((0 : Nat) +
                              (pk n n X
                                  (sym.cutL (chg X L) (0 : Nat)
                                    ((0 : Nat) + n) [IntKind.u8].length)).length) :
                          Int)))).toNat) *
              [IntKind.u8].length +
            (0 : Nat))
          (bits BinOp.xor ([IntKind.u8].getD (0 : Nat) IntKind.u8)
            (([] ++
                  sym.cutL
                    (pk n n X
                      (sym.cutL (chg X L) (0 : Nat)
                        ((0 : Nat) + n) [IntKind.u8].length))
                    (0 : Nat)
                    ((0 : Nat) +
                      (pk n n X
                          (sym.cutL (chg X L) (0 : Nat)
                            ((0 : Nat) + n) [IntKind.u8].length)).length)
                    [IntKind.u8].length).getD
              (((0 : Nat) +
                    (IntKind.i64.wrap
                        (u.tmod
                          (IntKind.u64.wrap
                            (↑((0 : Nat) +
                                  (pk n n X
                                      (sym.cutL (chg X L)
                                        (0 : Nat) ((0 : Nat) + n) [IntKind.u8].length)).length) :
                              Int)))).toNat) *
                  [IntKind.u8].length +
                (0 : Nat))
              (0 : Int))
            x))
        (0 : Nat)
        ((0 : Nat) +
          ((0 : Nat) +
            (pk n n X
                (sym.cutL (chg X L) (0 : Nat) ((0 : Nat) + n)
                  [IntKind.u8].length)).length))
        [IntKind.u8].length)).fst ==
  (0 : Int))
                  (.leaf (.v (.one (.bool true true))))
                  (.leaf (.v (.one (.bool false ((↑(unp X
            (sym.cutL
              (([] ++
                    sym.cutL
                      (pk n n X
                        (sym.cutL (chg X L) (0 : Nat)
                          ((0 : Nat) + n) [IntKind.u8].length))
                      (0 : Nat)
                      ((0 : Nat) +
                        (pk n n X
                            (sym.cutL (chg X L) (0 : Nat)
                              ((0 : Nat) + n) [IntKind.u8].length)).length)
                      [IntKind.u8].length).set
                (((0 : Nat) +
                      (IntKind.i64.wrap
                          (u.tmod
                            (IntKind.u64.wrap
                              (↑((0 : Nat) +
                                    (pk n n X
                                        (sym.cutL (chg X L)
                                          (0 : Nat) ((0 : Nat) + n) [IntKind.u8].length)).length) :
                                Int)))).toNat) *
                    [IntKind.u8].length +
                  (0 : Nat))
                (bits BinOp.xor ([IntKind.u8].getD (0 : Nat) IntKind.u8)
                  (([] ++
                        sym.cutL
                          (pk n n X
                            (sym.cutL (chg X L) (0 : Nat)
                              ((0 : Nat) + n) [IntKind.u8].length))
                          (0 : Nat)
                          ((0 : Nat) +
                            (pk n n X
                                (sym.cutL (chg X L) (0 : Nat)
                                  ((0 : Nat) + n) [IntKind.u8].length)).length)
                          [IntKind.u8].length).getD
                    (((0 : Nat) +
                          (IntKind.i64.wrap
                              (u.tmod
                                (IntKind.u64.wrap
                                  (↑((0 : Nat) +
                                        (pk n n X
                                            (sym.cutL (chg X L)
                                              (0 : Nat) ((0 : Nat) + n) [IntKind.u8].length)).length) :
                                    Int)))).toNat) *
                        [IntKind.u8].length +
                      (0 : Nat))
                    (0 : Int))
                  x))
              (0 : Nat)
              ((0 : Nat) +
                ((0 : Nat) +
                  (pk n n X
                      (sym.cutL (chg X L) (0 : Nat)
                        ((0 : Nat) + n) [IntKind.u8].length)).length))
              [IntKind.u8].length)).snd.length :
    Int) ==
  (0 : Int)))))))
                 (.leaf (.v (.one (.bool true false)))))
                (.leaf (.v (.one (.bool true false))))))))))))
            (.br ((unp X
      (sym.cutL
        (pk n n X
          (sym.cutL (chg X L) (0 : Nat) ((0 : Nat) + n)
            [IntKind.u8].length))
        (sym.cutO (0 : Nat) x_2.cap (0 : Nat))
        (sym.cutO (0 : Nat) x_2.cap (0 : Nat) +
          ((IntKind.i64.wrap
                (v.tmod
                  (IntKind.u64.wrap
                    (↑(pk n n X
                            (sym.cutL (chg X L) (0 : Nat)
                              ((0 : Nat) + n) [IntKind.u8].length)).length :
                      Int)))).toNat -
            (0 : Nat)))
        [IntKind.u8].length)).fst !=
  (0 : Int))
             (.br ((unp X
      (sym.cutL
        (List.take
            (((0 : Nat) +
                (pk n n X
                    (sym.cutL (chg X L) (0 : Nat) ((0 : Nat) + n)
                      [IntKind.u8].length)).length) *
              [IntKind.u8].length)
            ([] ++
              sym.cutL
                (pk n n X
                  (sym.cutL (chg X L) (0 : Nat) ((0 : Nat) + n)
                    [IntKind.u8].length))
                (0 : Nat)
                ((0 : Nat) +
                  (pk n n X
                      (sym.cutL (chg X L) (0 : Nat)
                        ((0 : Nat) + n) [IntKind.u8].length)).length)
                [IntKind.u8].length) ++
          [x])
        (0 : Nat)
        ((0 : Nat) +
          ((0 : Nat) +
              (pk n n X
                  (sym.cutL (chg X L) (0 : Nat) ((0 : Nat) + n)
                    [IntKind.u8].length)).length +
            (1 : Nat)))
        [IntKind.u8].length)).fst ==
  (3 : Int))
              (.br ((unp X
      (sym.cutL
        (([] ++
              sym.cutL
                (pk n n X
                  (sym.cutL (chg X L) (0 : Nat) ((0 : Nat) + n)
                    [IntKind.u8].length))
                (0 : Nat)
                ((0 : Nat) +
                  (pk n n X
                      (sym.cutL (chg X L) (0 : Nat)
                        ((0 : Nat) + n) [IntKind.u8].length)).length)
                [IntKind.u8].length).set
          (((0 : Nat) +
                (IntKind.i64.wrap
                    (u.tmod
                      (IntKind.u64.wrap
                        (↑((0 : Nat) +
                              (pk n n X
                                  (sym.cutL (chg X L) (0 : Nat)
                                    ((0 : Nat) + n) [IntKind.u8].length)).length) :
                          Int)))).toNat) *
              [IntKind.u8].length +
            (0 : Nat))
          (bits BinOp.xor ([IntKind.u8].getD (0 : Nat) IntKind.u8)
            (([] ++
                  sym.cutL
                    (pk n n X
                      (sym.cutL (chg X L) (0 : Nat)
                        ((0 : Nat) + n) [IntKind.u8].length))
                    (0 : Nat)
                    ((0 : Nat) +
                      (pk n n X
                          (sym.cutL (chg X L) (0 : Nat)
                            ((0 : Nat) + n) [IntKind.u8].length)).length)
                    [IntKind.u8].length).getD
              (((0 : Nat) +
                    (IntKind.i64.wrap
                        (u.tmod
                          (IntKind.u64.wrap
                            (↑((0 : Nat) +
                                  (pk n n X
                                      (sym.cutL (chg X L)
                                        (0 : Nat) ((0 : Nat) + n) [IntKind.u8].length)).length) :
                              Int)))).toNat) *
                  [IntKind.u8].length +
                (0 : Nat))
              (0 : Int))
            x))
        (0 : Nat)
        ((0 : Nat) +
          ((0 : Nat) +
            (pk n n X
                (sym.cutL (chg X L) (0 : Nat) ((0 : Nat) + n)
                  [IntKind.u8].length)).length))
        [IntKind.u8].length)).fst ==
  (0 : Int))
               (.leaf (.v (.one (.bool true true))))
               (.leaf (.v (.one (.bool false ((↑(unp X
            (sym.cutL
              (([] ++
                    sym.cutL
                      (pk n n X
                        (sym.cutL (chg X L) (0 : Nat)
                          ((0 : Nat) + n) [IntKind.u8].length))
                      (0 : Nat)
                      ((0 : Nat) +
                        (pk n n X
                            (sym.cutL (chg X L) (0 : Nat)
                              ((0 : Nat) + n) [IntKind.u8].length)).length)
                      [IntKind.u8].length).set
                (((0 : Nat) +
                      (IntKind.i64.wrap
                          (u.tmod
                            (IntKind.u64.wrap
                              (↑((0 : Nat) +
                                    (pk n n X
                                        (sym.cutL (chg X L)
                                          (0 : Nat) ((0 : Nat) + n) [IntKind.u8].length)).length) :
                                Int)))).toNat) *
                    [IntKind.u8].length +
                  (0 : Nat))
                (bits BinOp.xor ([IntKind.u8].getD (0 : Nat) IntKind.u8)
                  (([] ++
                        sym.cutL
                          (pk n n X
                            (sym.cutL (chg X L) (0 : Nat)
                              ((0 : Nat) + n) [IntKind.u8].length))
                          (0 : Nat)
                          ((0 : Nat) +
                            (pk n n X
                                (sym.cutL (chg X L) (0 : Nat)
                                  ((0 : Nat) + n) [IntKind.u8].length)).length)
                          [IntKind.u8].length).getD
                    (((0 : Nat) +
                          (IntKind.i64.wrap
                              (u.tmod
                                (IntKind.u64.wrap
                                  (↑((0 : Nat) +
                                        (pk n n X
                                            (sym.cutL (chg X L)
                                              (0 : Nat) ((0 : Nat) + n) [IntKind.u8].length)).length) :
                                    Int)))).toNat) *
                        [IntKind.u8].length +
                      (0 : Nat))
                    (0 : Int))
                  x))
              (0 : Nat)
              ((0 : Nat) +
                ((0 : Nat) +
                  (pk n n X
                      (sym.cutL (chg X L) (0 : Nat)
                        ((0 : Nat) + n) [IntKind.u8].length)).length))
              [IntKind.u8].length)).snd.length :
    Int) ==
  (0 : Int)))))))
              (.leaf (.v (.one (.bool true false)))))
             (.leaf (.v (.one (.bool true false))))))))))))))))))))))))))))))))))))) := by kernel_rfl
theorem own_cut2 {xs : List Int} {n : Nat} (h : xs.length = n) : cutL xs 0 n [IntKind.u8].length = xs := by
  have := own_cut h
  rwa [Nat.zero_add] at this
theorem grown_nl {nl : Bool} {m n : Nat} (g : sym.Grown nl m n) (h : nl = false ∨ 0 < m) : g.nl' = false := by
  cases hh : g.nl' with
  | false => rfl
  | true =>
    have := g.nil.1 hh
    rcases h with h | h
    · rw [h] at this; cases this.1
    · omega
theorem cutO_zero (c : Nat) : cutO 0 c 0 = 0 := by unfold cutO; split <;> rfl
set_option maxHeartbeats 4000000 in
theorem spoilt_walk (w : World) (A : Option Addr) (X : List Int) (n cap : Nat) (A2 : Option Addr) (L : List Int) (k cap2 : Nat) (hX : XR w A [.u8] X n) (hc : n ≤ cap) (hb : Bs X) (hL : XR w A2 [.u16, .u16] L k) (hc2 : k ≤ cap2) (hW : ∀ j, W (L.getD j 0)) (u x v : Int) (hu : 0 ≤ u ∧ u < 18446744073709551616) (hx : B x) (hv : 0 ≤ v ∧ v < 18446744073709551616) : Calls Try.prog 5 #[.slice A n cap, .slice A2 k cap2, .int .u64 u, .int .u8 x, .int .u64 v] w fun e w' => e = .returned (.bool true) ∧ Below w.heap.size w w' := by
  have hn : X.length = n := by simpa using hX.1
  have hg : (chg X L).length = n := by rw [chg_len, hn]
  refine val_eq base2 (awT_ok w) (preOf_ok tab9_ok w) (loops_none _ _) (spoilt_tree w A X n cap A2 L k cap2 u x v) rfl ?_
  rw [own_cut hg]
  by_cases hbig : 3000 < n
  · exact ⟨fun _ => ⟨rfl, rfl⟩, fun h => absurd (of_decide_eq_false h) (by omega)⟩
  have l1 := pk_len n n X (chg X L)
  have e0 : pk n n X (chg X L) = pack X (chg X L) := by unfold pk; rw [if_pos rfl]
  have hpos : 0 < (pk n n X (chg X L)).length := by rw [e0]; exact pack_pos _ _
  have hPB : Bs (pk n n X (chg X L)) := by rw [e0]; exact pack_B _ _ _ (Nat.le_refl _) (by omega) (chg_Bs hb L)
  have htail : ∀ r : List Int, r ≠ [] → unp X (pk n n X (chg X L) ++ r) = (3, []) := by
    intro r hr
    rw [e0]
    exact unp_tail (by omega) (by omega) hr
  have hcuts : ∀ i : Nat, i < (pk n n X (chg X L)).length → (unp X ((pk n n X (chg X L)).take i)).1 ≠ 0 := by
    intro i hi
    rw [e0] at hi ⊢
    exact unp_cut (by omega) (by omega) hi
  clear e0
  generalize pk n n X (chg X L) = P at *
  have uw : IntKind.u64.wrap ((P.length : Nat) : Int) = P.length := by rw [wu64]; omega
  have vt : v.tmod (P.length : Int) = v % (P.length : Int) := Int.tmod_eq_emod_of_nonneg hv.1
  have ut : u.tmod (P.length : Int) = u % (P.length : Int) := Int.tmod_eq_emod_of_nonneg hu.1
  have v1 := Int.emod_nonneg v (show (P.length : Int) ≠ 0 by omega)
  have v2 := Int.emod_lt_of_pos v (show (0 : Int) < P.length by omega)
  have u1 := Int.emod_nonneg u (show (P.length : Int) ≠ 0 by omega)
  have u2 := Int.emod_lt_of_pos u (show (0 : Int) < P.length by omega)
  have wv : IntKind.i64.wrap (v % (P.length : Int)) = v % (P.length : Int) := wi64 _ (by omega) (by omega)
  have wu : IntKind.i64.wrap (u % (P.length : Int)) = u % (P.length : Int) := wi64 _ (by omega) (by omega)
  rw [Nat.zero_add P.length, own_cut2 (rfl : P.length = P.length), List.nil_append P, uw, vt, ut, wv, wu]
  generalize hkv : v % (P.length : Int) = kv at *
  generalize hku : u % (P.length : Int) = ku at *
  have ht : List.take (P.length * [IntKind.u8].length) P = P := List.take_of_length_le (by simp)
  rw [ht, own_cut (show (P ++ [x]).length = P.length + 1 by simp), htail [x] (by simp)]
  generalize hq : P.set ((0 + ku.toNat) * [IntKind.u8].length + 0) (bits BinOp.xor ([IntKind.u8].getD 0 IntKind.u8) (P.getD ((0 + ku.toNat) * [IntKind.u8].length + 0) 0) x) = Q
  have hQl : Q.length = P.length := by rw [← hq, List.length_set]
  have hQB : Bs Q := by
    rw [← hq]
    refine hPB.set _ ?_
    have g := hPB ((0 + ku.toNat) * [IntKind.u8].length + 0)
    obtain ⟨a, ha⟩ := Int.eq_ofNat_of_zero_le g.1
    obtain ⟨b, hb'⟩ := Int.eq_ofNat_of_zero_le hx.1
    have hx2 := hx.2
    rw [ha, hb']
    show B (bits .xor .u8 (a : Int) (b : Int))
    rw [u8_xor_nat a b (by omega) (by omega)]
    have : a ^^^ b < 2 ^ 8 := Nat.xor_lt_two_pow (n := 8) (by omega) (by omega)
    exact ⟨by omega, by omega⟩
  rw [own_cut hQl]
  have hul := unp_len X Q
  have hz : (unp X Q).1 = 0 → pack X (unp X Q).2 = Q ∧ (unp X Q).2.length = n := fun h => by
    have := unp_zero h
    exact ⟨this.1, by omega⟩
  have hzn : (unp X Q).1 ≠ 0 → (unp X Q).2.length = 0 := fun h => by rw [unp_none h]; rfl
  generalize hU : unp X Q = U at *
  obtain ⟨ue, ub⟩ := U
  simp only at hul hz hzn
  rw [own_cut (rfl : ub.length = ub.length)]
  dsimp only
  rw [own_cut (rfl : (pk n ub.length X ub).length = _)]
  have hpl := pk_len n ub.length X ub
  have hcv : (unp X (P.take kv.toNat)).1 ≠ 0 := hcuts _ (by omega)
  have hcut3 : cutL P 0 kv.toNat 1 = P.take kv.toNat := by rw [cut1, List.drop_zero, Nat.sub_zero]
  have hcb : ((unp X (P.take kv.toNat)).1 != 0) = true := by simpa using hcv
  have hPt : Bs (P.take kv.toNat) := hPB.take _
  have hPx : Bs (P ++ [x]) := hPB.append (.one hx)
  by_cases hue : ue = 0
  · obtain ⟨z1, z2⟩ := hz hue
    have z3 : pk n ub.length X ub = Q := by unfold pk; rw [if_pos z2.symm, z1]
    rw [z3, z2, hue]
    simp only [T.holds, cutO_zero, hcut3, hcb, List.length_singleton, Nat.mul_one, Nat.zero_add, Nat.sub_zero, Nat.add_zero, true_and, and_true, and_self, beq_self_eq_true, bne_self_eq_false, decide_true, Bool.not_true, Bool.false_eq_true, forall_const, Bool.true_eq_false, false_implies, show ((0 : Nat) : Int) = 0 from rfl]
    refine ⟨fun _ => ⟨rfl, rfl⟩, fun _ => ⟨fun _ => ⟨rfl, rfl⟩, fun hk => ⟨⟨⟨hX, hc⟩, hL, hc2⟩, ⟨by omega, by have := of_decide_eq_false hk; omega, hW⟩, fun g => ⟨⟨⟨hX, hc⟩, by omega, g.le⟩, by omega, fun g2 => ?_⟩⟩⟩⟩
    have g2l := g2.le
    have habs : ((P.length : Int) == 0) = false := by
      have : (P.length : Int) ≠ 0 := by omega
      simpa using this
    rw [habs]
    repeat' (first | exact ⟨rfl, rfl⟩ | exact hX | exact hb | exact hPB | exact hQB | exact hPt | exact hPx | (intro _) | (refine And.intro ?_ ?_))
    all_goals first
      | omega
      | exact RowR.le _
      | exact sym.Grown.le _
      | exact sym.Grown.max _
      | exact sym.Grown.none _ (by assumption)
      | exact grown_nl _ (.inl rfl)
      | exact grown_nl _ (.inr (by omega))
      | (rw [List.length_append]; exact Nat.le_refl _)
      | (exfalso; simp_all; done)
  · have hub := hzn hue
    have hub1 : (ue == 0) = false := by simpa using hue
    rw [hub1, hub]
    simp only [T.holds, cutO_zero, hcut3, hcb, List.length_singleton, Nat.mul_one, Nat.zero_add, Nat.sub_zero, Nat.add_zero, true_and, and_true, and_self, beq_self_eq_true, bne_self_eq_false, decide_true, Bool.not_true, Bool.false_eq_true, forall_const, Bool.true_eq_false, false_implies, show ((0 : Nat) : Int) = 0 from rfl]
    refine ⟨fun _ => ⟨rfl, rfl⟩, fun _ => ⟨fun _ => ⟨rfl, rfl⟩, fun hk => ⟨⟨⟨hX, hc⟩, hL, hc2⟩, ⟨by omega, by have := of_decide_eq_false hk; omega, hW⟩, fun g => ⟨⟨⟨hX, hc⟩, by omega, g.le⟩, by omega, fun g2 => ?_⟩⟩⟩⟩
    have g2l := g2.le
    have habs : ((P.length : Int) == 0) = false := by
      have : (P.length : Int) ≠ 0 := by omega
      simpa using this
    rw [habs]
    repeat' (first | exact ⟨rfl, rfl⟩ | exact hX | exact hb | exact hPB | exact hQB | exact hPt | exact hPx | (intro _) | (refine And.intro ?_ ?_))
    all_goals first
      | omega
      | exact RowR.le _
      | exact sym.Grown.le _
      | exact sym.Grown.max _
      | exact sym.Grown.none _ (by assumption)
      | exact grown_nl _ (.inl rfl)
      | exact grown_nl _ (.inr (by omega))
      | (rw [List.length_append]; exact Nat.le_refl _)
      | (exfalso; simp_all; done)
end Go.Proofs.Ytcfnfihemejjkaa
