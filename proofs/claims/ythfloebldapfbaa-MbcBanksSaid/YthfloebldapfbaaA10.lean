/-
  Walk of a statement of the map, by computing, with its rounds: a bank that is asked for is seen. Bytes are below 256, places below 65536; no other condition.
-/
import Derived.Test.YthfloebldapfbaaA9
namespace Go.Proofs.Ythfloebldapfbaa
open Go.RowKit sym
set_option linter.unusedVariables false
set_option linter.unusedSimpArgs false
set_option maxRecDepth 100000
theorem banks_tree (w : World) (kd n : Int) :
    callV Try.prog w (flatT Try.prog) (ctrOf table2) noLoop 20 3 [.v (.one (.int false .u8 kd)), .v (.one (.int false .u16 n))] =
(.chk (True)
(.chk (Mb.B kd ∧
  Mb.B (8 : Int) ∧ Mb.B (0 : Int))
(.chk (True)
(.br (Mb.kindOf kd == (1 : Int))
 (.chk (Mb.W (8192 : Int) ∧
  Mb.B (IntKind.u8.wrap ((IntKind.i64.wrap n).tmod (128 : Int))) ∧
    (0 : Int) ≤ (1 : Int) ∧ (1 : Int) < (512 : Int))
 (.chk (Mb.W (16384 : Int) ∧
  Mb.B
      (IntKind.u8.wrap (((IntKind.i64.wrap n).tmod (128 : Int)).fdiv ((2 : Int) ^ (5 : Nat)))) ∧
    (0 : Int) ≤
        Mb.wLow (Mb.kindOf kd) (8192 : Int)
          (IntKind.u8.wrap ((IntKind.i64.wrap n).tmod (128 : Int))) (1 : Int) ∧
      Mb.wLow (Mb.kindOf kd) (8192 : Int)
          (IntKind.u8.wrap ((IntKind.i64.wrap n).tmod (128 : Int))) (1 : Int) <
        (512 : Int))
 (.br (((IntKind.i64.wrap n).tmod (128 : Int)).tmod (32 : Int) == (0 : Int))
  (.chk (Mb.W (32767 : Int) ∧
  ((0 : Int) ≤
        Mb.wLow (Mb.kindOf kd) (16384 : Int)
          (IntKind.u8.wrap (((IntKind.i64.wrap n).tmod (128 : Int)).fdiv ((2 : Int) ^ (5 : Nat))))
          (Mb.wLow (Mb.kindOf kd) (8192 : Int)
            (IntKind.u8.wrap ((IntKind.i64.wrap n).tmod (128 : Int))) (1 : Int)) ∧
      Mb.wLow (Mb.kindOf kd) (16384 : Int)
          (IntKind.u8.wrap (((IntKind.i64.wrap n).tmod (128 : Int)).fdiv ((2 : Int) ^ (5 : Nat))))
          (Mb.wLow (Mb.kindOf kd) (8192 : Int)
            (IntKind.u8.wrap ((IntKind.i64.wrap n).tmod (128 : Int))) (1 : Int)) <
        (512 : Int)) ∧
    (0 : Int) ≤
        Mb.wHigh (Mb.kindOf kd) (16384 : Int)
          (IntKind.u8.wrap (((IntKind.i64.wrap n).tmod (128 : Int)).fdiv ((2 : Int) ^ (5 : Nat))))
          (Mb.wHigh (Mb.kindOf kd) (8192 : Int)
            (IntKind.u8.wrap ((IntKind.i64.wrap n).tmod (128 : Int))) (0 : Int)) ∧
      Mb.wHigh (Mb.kindOf kd) (16384 : Int)
          (IntKind.u8.wrap (((IntKind.i64.wrap n).tmod (128 : Int)).fdiv ((2 : Int) ^ (5 : Nat))))
          (Mb.wHigh (Mb.kindOf kd) (8192 : Int)
            (IntKind.u8.wrap ((IntKind.i64.wrap n).tmod (128 : Int))) (0 : Int)) <
        (16 : Int))
  (.br (Mb.bank (Mb.kindOf kd)
    (Mb.banksOf (8 : Int)) (32767 : Int)
    (Mb.wLow (Mb.kindOf kd) (16384 : Int)
      (IntKind.u8.wrap (((IntKind.i64.wrap n).tmod (128 : Int)).fdiv ((2 : Int) ^ (5 : Nat))))
      (Mb.wLow (Mb.kindOf kd) (8192 : Int)
        (IntKind.u8.wrap ((IntKind.i64.wrap n).tmod (128 : Int))) (1 : Int)))
    (Mb.wHigh (Mb.kindOf kd) (16384 : Int)
      (IntKind.u8.wrap (((IntKind.i64.wrap n).tmod (128 : Int)).fdiv ((2 : Int) ^ (5 : Nat))))
      (Mb.wHigh (Mb.kindOf kd) (8192 : Int)
        (IntKind.u8.wrap ((IntKind.i64.wrap n).tmod (128 : Int))) (0 : Int)))
    (Mb.wMode (Mb.kindOf kd) (16384 : Int)
      (IntKind.u8.wrap (((IntKind.i64.wrap n).tmod (128 : Int)).fdiv ((2 : Int) ^ (5 : Nat))))
      (Mb.wMode (Mb.kindOf kd) (8192 : Int)
        (IntKind.u8.wrap ((IntKind.i64.wrap n).tmod (128 : Int))) false)) ==
  IntKind.i64.wrap ((IntKind.i64.wrap n).tmod (128 : Int) + (1 : Int)))
   (.chk (Mb.W (0 : Int) ∧
  ((0 : Int) ≤
        Mb.wLow (Mb.kindOf kd) (16384 : Int)
          (IntKind.u8.wrap (((IntKind.i64.wrap n).tmod (128 : Int)).fdiv ((2 : Int) ^ (5 : Nat))))
          (Mb.wLow (Mb.kindOf kd) (8192 : Int)
            (IntKind.u8.wrap ((IntKind.i64.wrap n).tmod (128 : Int))) (1 : Int)) ∧
      Mb.wLow (Mb.kindOf kd) (16384 : Int)
          (IntKind.u8.wrap (((IntKind.i64.wrap n).tmod (128 : Int)).fdiv ((2 : Int) ^ (5 : Nat))))
          (Mb.wLow (Mb.kindOf kd) (8192 : Int)
            (IntKind.u8.wrap ((IntKind.i64.wrap n).tmod (128 : Int))) (1 : Int)) <
        (512 : Int)) ∧
    (0 : Int) ≤
        Mb.wHigh (Mb.kindOf kd) (16384 : Int)
          (IntKind.u8.wrap (((IntKind.i64.wrap n).tmod (128 : Int)).fdiv ((2 : Int) ^ (5 : Nat))))
          (Mb.wHigh (Mb.kindOf kd) (8192 : Int)
            (IntKind.u8.wrap ((IntKind.i64.wrap n).tmod (128 : Int))) (0 : Int)) ∧
      Mb.wHigh (Mb.kindOf kd) (16384 : Int)
          (IntKind.u8.wrap (((IntKind.i64.wrap n).tmod (128 : Int)).fdiv ((2 : Int) ^ (5 : Nat))))
          (Mb.wHigh (Mb.kindOf kd) (8192 : Int)
            (IntKind.u8.wrap ((IntKind.i64.wrap n).tmod (128 : Int))) (0 : Int)) <
        (16 : Int))
   (.leaf (.v (.one (.bool false (Mb.bank (Mb.kindOf kd)
    (Mb.banksOf (8 : Int)) (0 : Int)
    (Mb.wLow (Mb.kindOf kd) (16384 : Int)
      (IntKind.u8.wrap (((IntKind.i64.wrap n).tmod (128 : Int)).fdiv ((2 : Int) ^ (5 : Nat))))
      (Mb.wLow (Mb.kindOf kd) (8192 : Int)
        (IntKind.u8.wrap ((IntKind.i64.wrap n).tmod (128 : Int))) (1 : Int)))
    (Mb.wHigh (Mb.kindOf kd) (16384 : Int)
      (IntKind.u8.wrap (((IntKind.i64.wrap n).tmod (128 : Int)).fdiv ((2 : Int) ^ (5 : Nat))))
      (Mb.wHigh (Mb.kindOf kd) (8192 : Int)
        (IntKind.u8.wrap ((IntKind.i64.wrap n).tmod (128 : Int))) (0 : Int)))
    (Mb.wMode (Mb.kindOf kd) (16384 : Int)
      (IntKind.u8.wrap (((IntKind.i64.wrap n).tmod (128 : Int)).fdiv ((2 : Int) ^ (5 : Nat))))
      (Mb.wMode (Mb.kindOf kd) (8192 : Int)
        (IntKind.u8.wrap ((IntKind.i64.wrap n).tmod (128 : Int))) false)) ==
  (0 : Int)))))))
   (.leaf (.v (.one (.bool true false))))))
  (.chk (Mb.W (32767 : Int) ∧
  ((0 : Int) ≤
        Mb.wLow (Mb.kindOf kd) (16384 : Int)
          (IntKind.u8.wrap (((IntKind.i64.wrap n).tmod (128 : Int)).fdiv ((2 : Int) ^ (5 : Nat))))
          (Mb.wLow (Mb.kindOf kd) (8192 : Int)
            (IntKind.u8.wrap ((IntKind.i64.wrap n).tmod (128 : Int))) (1 : Int)) ∧
      Mb.wLow (Mb.kindOf kd) (16384 : Int)
          (IntKind.u8.wrap (((IntKind.i64.wrap n).tmod (128 : Int)).fdiv ((2 : Int) ^ (5 : Nat))))
          (Mb.wLow (Mb.kindOf kd) (8192 : Int)
            (IntKind.u8.wrap ((IntKind.i64.wrap n).tmod (128 : Int))) (1 : Int)) <
        (512 : Int)) ∧
    (0 : Int) ≤
        Mb.wHigh (Mb.kindOf kd) (16384 : Int)
          (IntKind.u8.wrap (((IntKind.i64.wrap n).tmod (128 : Int)).fdiv ((2 : Int) ^ (5 : Nat))))
          (Mb.wHigh (Mb.kindOf kd) (8192 : Int)
            (IntKind.u8.wrap ((IntKind.i64.wrap n).tmod (128 : Int))) (0 : Int)) ∧
      Mb.wHigh (Mb.kindOf kd) (16384 : Int)
          (IntKind.u8.wrap (((IntKind.i64.wrap n).tmod (128 : Int)).fdiv ((2 : Int) ^ (5 : Nat))))
          (Mb.wHigh (Mb.kindOf kd) (8192 : Int)
            (IntKind.u8.wrap ((IntKind.i64.wrap n).tmod (128 : Int))) (0 : Int)) <
        (16 : Int))
  (.br (Mb.bank (Mb.kindOf kd)
    (Mb.banksOf (8 : Int)) (32767 : Int)
    (Mb.wLow (Mb.kindOf kd) (16384 : Int)
      (IntKind.u8.wrap (((IntKind.i64.wrap n).tmod (128 : Int)).fdiv ((2 : Int) ^ (5 : Nat))))
      (Mb.wLow (Mb.kindOf kd) (8192 : Int)
        (IntKind.u8.wrap ((IntKind.i64.wrap n).tmod (128 : Int))) (1 : Int)))
    (Mb.wHigh (Mb.kindOf kd) (16384 : Int)
      (IntKind.u8.wrap (((IntKind.i64.wrap n).tmod (128 : Int)).fdiv ((2 : Int) ^ (5 : Nat))))
      (Mb.wHigh (Mb.kindOf kd) (8192 : Int)
        (IntKind.u8.wrap ((IntKind.i64.wrap n).tmod (128 : Int))) (0 : Int)))
    (Mb.wMode (Mb.kindOf kd) (16384 : Int)
      (IntKind.u8.wrap (((IntKind.i64.wrap n).tmod (128 : Int)).fdiv ((2 : Int) ^ (5 : Nat))))
      (Mb.wMode (Mb.kindOf kd) (8192 : Int)
        (IntKind.u8.wrap ((IntKind.i64.wrap n).tmod (128 : Int))) false)) ==
  (IntKind.i64.wrap n).tmod (128 : Int))
   (.chk (Mb.W (0 : Int) ∧
  ((0 : Int) ≤
        Mb.wLow (Mb.kindOf kd) (16384 : Int)
          (IntKind.u8.wrap (((IntKind.i64.wrap n).tmod (128 : Int)).fdiv ((2 : Int) ^ (5 : Nat))))
          (Mb.wLow (Mb.kindOf kd) (8192 : Int)
            (IntKind.u8.wrap ((IntKind.i64.wrap n).tmod (128 : Int))) (1 : Int)) ∧
      Mb.wLow (Mb.kindOf kd) (16384 : Int)
          (IntKind.u8.wrap (((IntKind.i64.wrap n).tmod (128 : Int)).fdiv ((2 : Int) ^ (5 : Nat))))
          (Mb.wLow (Mb.kindOf kd) (8192 : Int)
            (IntKind.u8.wrap ((IntKind.i64.wrap n).tmod (128 : Int))) (1 : Int)) <
        (512 : Int)) ∧
    (0 : Int) ≤
        Mb.wHigh (Mb.kindOf kd) (16384 : Int)
          (IntKind.u8.wrap (((IntKind.i64.wrap n).tmod (128 : Int)).fdiv ((2 : Int) ^ (5 : Nat))))
          (Mb.wHigh (Mb.kindOf kd) (8192 : Int)
            (IntKind.u8.wrap ((IntKind.i64.wrap n).tmod (128 : Int))) (0 : Int)) ∧
      Mb.wHigh (Mb.kindOf kd) (16384 : Int)
          (IntKind.u8.wrap (((IntKind.i64.wrap n).tmod (128 : Int)).fdiv ((2 : Int) ^ (5 : Nat))))
          (Mb.wHigh (Mb.kindOf kd) (8192 : Int)
            (IntKind.u8.wrap ((IntKind.i64.wrap n).tmod (128 : Int))) (0 : Int)) <
        (16 : Int))
   (.leaf (.v (.one (.bool false (Mb.bank (Mb.kindOf kd)
    (Mb.banksOf (8 : Int)) (0 : Int)
    (Mb.wLow (Mb.kindOf kd) (16384 : Int)
      (IntKind.u8.wrap (((IntKind.i64.wrap n).tmod (128 : Int)).fdiv ((2 : Int) ^ (5 : Nat))))
      (Mb.wLow (Mb.kindOf kd) (8192 : Int)
        (IntKind.u8.wrap ((IntKind.i64.wrap n).tmod (128 : Int))) (1 : Int)))
    (Mb.wHigh (Mb.kindOf kd) (16384 : Int)
      (IntKind.u8.wrap (((IntKind.i64.wrap n).tmod (128 : Int)).fdiv ((2 : Int) ^ (5 : Nat))))
      (Mb.wHigh (Mb.kindOf kd) (8192 : Int)
        (IntKind.u8.wrap ((IntKind.i64.wrap n).tmod (128 : Int))) (0 : Int)))
    (Mb.wMode (Mb.kindOf kd) (16384 : Int)
      (IntKind.u8.wrap (((IntKind.i64.wrap n).tmod (128 : Int)).fdiv ((2 : Int) ^ (5 : Nat))))
      (Mb.wMode (Mb.kindOf kd) (8192 : Int)
        (IntKind.u8.wrap ((IntKind.i64.wrap n).tmod (128 : Int))) false)) ==
  (0 : Int)))))))
   (.leaf (.v (.one (.bool true false)))))))))
 (.br (Mb.kindOf kd == (2 : Int))
  (.chk (Mb.W (256 : Int) ∧
  Mb.B (IntKind.u8.wrap ((IntKind.i64.wrap n).tmod (16 : Int))) ∧
    (0 : Int) ≤ (1 : Int) ∧ (1 : Int) < (512 : Int))
  (.chk (Mb.W (32767 : Int) ∧
  ((0 : Int) ≤
        Mb.wLow (Mb.kindOf kd) (256 : Int)
          (IntKind.u8.wrap ((IntKind.i64.wrap n).tmod (16 : Int))) (1 : Int) ∧
      Mb.wLow (Mb.kindOf kd) (256 : Int)
          (IntKind.u8.wrap ((IntKind.i64.wrap n).tmod (16 : Int))) (1 : Int) <
        (512 : Int)) ∧
    (0 : Int) ≤
        Mb.wHigh (Mb.kindOf kd) (256 : Int)
          (IntKind.u8.wrap ((IntKind.i64.wrap n).tmod (16 : Int))) (0 : Int) ∧
      Mb.wHigh (Mb.kindOf kd) (256 : Int)
          (IntKind.u8.wrap ((IntKind.i64.wrap n).tmod (16 : Int))) (0 : Int) <
        (16 : Int))
  (.br (Mb.bank (Mb.kindOf kd)
    (Mb.banksOf (8 : Int)) (32767 : Int)
    (Mb.wLow (Mb.kindOf kd) (256 : Int)
      (IntKind.u8.wrap ((IntKind.i64.wrap n).tmod (16 : Int))) (1 : Int))
    (Mb.wHigh (Mb.kindOf kd) (256 : Int)
      (IntKind.u8.wrap ((IntKind.i64.wrap n).tmod (16 : Int))) (0 : Int))
    (Mb.wMode (Mb.kindOf kd) (256 : Int)
      (IntKind.u8.wrap ((IntKind.i64.wrap n).tmod (16 : Int))) false) ==
  if true = true then
    if (1 : Int) > (IntKind.i64.wrap n).tmod (16 : Int) then (1 : Int) else (IntKind.i64.wrap n).tmod (16 : Int)
  else
    if (1 : Int) < (IntKind.i64.wrap n).tmod (16 : Int) then (1 : Int) else (IntKind.i64.wrap n).tmod (16 : Int))
   (.chk (Mb.W (0 : Int) ∧
  ((0 : Int) ≤
        Mb.wLow (Mb.kindOf kd) (256 : Int)
          (IntKind.u8.wrap ((IntKind.i64.wrap n).tmod (16 : Int))) (1 : Int) ∧
      Mb.wLow (Mb.kindOf kd) (256 : Int)
          (IntKind.u8.wrap ((IntKind.i64.wrap n).tmod (16 : Int))) (1 : Int) <
        (512 : Int)) ∧
    (0 : Int) ≤
        Mb.wHigh (Mb.kindOf kd) (256 : Int)
          (IntKind.u8.wrap ((IntKind.i64.wrap n).tmod (16 : Int))) (0 : Int) ∧
      Mb.wHigh (Mb.kindOf kd) (256 : Int)
          (IntKind.u8.wrap ((IntKind.i64.wrap n).tmod (16 : Int))) (0 : Int) <
        (16 : Int))
   (.leaf (.v (.one (.bool false (Mb.bank (Mb.kindOf kd)
    (Mb.banksOf (8 : Int)) (0 : Int)
    (Mb.wLow (Mb.kindOf kd) (256 : Int)
      (IntKind.u8.wrap ((IntKind.i64.wrap n).tmod (16 : Int))) (1 : Int))
    (Mb.wHigh (Mb.kindOf kd) (256 : Int)
      (IntKind.u8.wrap ((IntKind.i64.wrap n).tmod (16 : Int))) (0 : Int))
    (Mb.wMode (Mb.kindOf kd) (256 : Int)
      (IntKind.u8.wrap ((IntKind.i64.wrap n).tmod (16 : Int))) false) ==
  (0 : Int)))))))
   (.leaf (.v (.one (.bool true false)))))))
  (.br (Mb.kindOf kd == (3 : Int))
   (.chk (Mb.W (16383 : Int) ∧
  Mb.B (IntKind.u8.wrap ((IntKind.i64.wrap n).tmod (128 : Int))) ∧
    (0 : Int) ≤ (1 : Int) ∧ (1 : Int) < (512 : Int))
   (.chk (Mb.W (32767 : Int) ∧
  ((0 : Int) ≤
        Mb.wLow (Mb.kindOf kd) (16383 : Int)
          (IntKind.u8.wrap ((IntKind.i64.wrap n).tmod (128 : Int))) (1 : Int) ∧
      Mb.wLow (Mb.kindOf kd) (16383 : Int)
          (IntKind.u8.wrap ((IntKind.i64.wrap n).tmod (128 : Int))) (1 : Int) <
        (512 : Int)) ∧
    (0 : Int) ≤
        Mb.wHigh (Mb.kindOf kd) (16383 : Int)
          (IntKind.u8.wrap ((IntKind.i64.wrap n).tmod (128 : Int))) (0 : Int) ∧
      Mb.wHigh (Mb.kindOf kd) (16383 : Int)
          (IntKind.u8.wrap ((IntKind.i64.wrap n).tmod (128 : Int))) (0 : Int) <
        (16 : Int))
   (.br (Mb.bank (Mb.kindOf kd)
    (Mb.banksOf (8 : Int)) (32767 : Int)
    (Mb.wLow (Mb.kindOf kd) (16383 : Int)
      (IntKind.u8.wrap ((IntKind.i64.wrap n).tmod (128 : Int))) (1 : Int))
    (Mb.wHigh (Mb.kindOf kd) (16383 : Int)
      (IntKind.u8.wrap ((IntKind.i64.wrap n).tmod (128 : Int))) (0 : Int))
    (Mb.wMode (Mb.kindOf kd) (16383 : Int)
      (IntKind.u8.wrap ((IntKind.i64.wrap n).tmod (128 : Int))) false) ==
  if true = true then
    if (1 : Int) > (IntKind.i64.wrap n).tmod (128 : Int) then (1 : Int) else (IntKind.i64.wrap n).tmod (128 : Int)
  else
    if (1 : Int) < (IntKind.i64.wrap n).tmod (128 : Int) then (1 : Int) else (IntKind.i64.wrap n).tmod (128 : Int))
    (.chk (Mb.W (0 : Int) ∧
  ((0 : Int) ≤
        Mb.wLow (Mb.kindOf kd) (16383 : Int)
          (IntKind.u8.wrap ((IntKind.i64.wrap n).tmod (128 : Int))) (1 : Int) ∧
      Mb.wLow (Mb.kindOf kd) (16383 : Int)
          (IntKind.u8.wrap ((IntKind.i64.wrap n).tmod (128 : Int))) (1 : Int) <
        (512 : Int)) ∧
    (0 : Int) ≤
        Mb.wHigh (Mb.kindOf kd) (16383 : Int)
          (IntKind.u8.wrap ((IntKind.i64.wrap n).tmod (128 : Int))) (0 : Int) ∧
      Mb.wHigh (Mb.kindOf kd) (16383 : Int)
          (IntKind.u8.wrap ((IntKind.i64.wrap n).tmod (128 : Int))) (0 : Int) <
        (16 : Int))
    (.leaf (.v (.one (.bool false (Mb.bank (Mb.kindOf kd)
    (Mb.banksOf (8 : Int)) (0 : Int)
    (Mb.wLow (Mb.kindOf kd) (16383 : Int)
      (IntKind.u8.wrap ((IntKind.i64.wrap n).tmod (128 : Int))) (1 : Int))
    (Mb.wHigh (Mb.kindOf kd) (16383 : Int)
      (IntKind.u8.wrap ((IntKind.i64.wrap n).tmod (128 : Int))) (0 : Int))
    (Mb.wMode (Mb.kindOf kd) (16383 : Int)
      (IntKind.u8.wrap ((IntKind.i64.wrap n).tmod (128 : Int))) false) ==
  (0 : Int)))))))
    (.leaf (.v (.one (.bool true false)))))))
   (.br (Mb.kindOf kd == (5 : Int))
    (.chk (Mb.W (12287 : Int) ∧
  Mb.B (IntKind.u8.wrap ((IntKind.i64.wrap n).tmod (512 : Int))) ∧
    (0 : Int) ≤ (1 : Int) ∧ (1 : Int) < (512 : Int))
    (.chk (Mb.W (12288 : Int) ∧
  Mb.B
      (IntKind.u8.wrap (((IntKind.i64.wrap n).tmod (512 : Int)).fdiv ((2 : Int) ^ (8 : Nat)))) ∧
    (0 : Int) ≤
        Mb.wLow (Mb.kindOf kd) (12287 : Int)
          (IntKind.u8.wrap ((IntKind.i64.wrap n).tmod (512 : Int))) (1 : Int) ∧
      Mb.wLow (Mb.kindOf kd) (12287 : Int)
          (IntKind.u8.wrap ((IntKind.i64.wrap n).tmod (512 : Int))) (1 : Int) <
        (512 : Int))
    (.chk (Mb.W (32767 : Int) ∧
  ((0 : Int) ≤
        Mb.wLow (Mb.kindOf kd) (12288 : Int)
          (IntKind.u8.wrap (((IntKind.i64.wrap n).tmod (512 : Int)).fdiv ((2 : Int) ^ (8 : Nat))))
          (Mb.wLow (Mb.kindOf kd) (12287 : Int)
            (IntKind.u8.wrap ((IntKind.i64.wrap n).tmod (512 : Int))) (1 : Int)) ∧
      Mb.wLow (Mb.kindOf kd) (12288 : Int)
          (IntKind.u8.wrap (((IntKind.i64.wrap n).tmod (512 : Int)).fdiv ((2 : Int) ^ (8 : Nat))))
          (Mb.wLow (Mb.kindOf kd) (12287 : Int)
            (IntKind.u8.wrap ((IntKind.i64.wrap n).tmod (512 : Int))) (1 : Int)) <
        (512 : Int)) ∧
    (0 : Int) ≤
        Mb.wHigh (Mb.kindOf kd) (12288 : Int)
          (IntKind.u8.wrap (((IntKind.i64.wrap n).tmod (512 : Int)).fdiv ((2 : Int) ^ (8 : Nat))))
          (Mb.wHigh (Mb.kindOf kd) (12287 : Int)
            (IntKind.u8.wrap ((IntKind.i64.wrap n).tmod (512 : Int))) (0 : Int)) ∧
      Mb.wHigh (Mb.kindOf kd) (12288 : Int)
          (IntKind.u8.wrap (((IntKind.i64.wrap n).tmod (512 : Int)).fdiv ((2 : Int) ^ (8 : Nat))))
          (Mb.wHigh (Mb.kindOf kd) (12287 : Int)
            (IntKind.u8.wrap ((IntKind.i64.wrap n).tmod (512 : Int))) (0 : Int)) <
        (16 : Int))
    (.br (Mb.bank (Mb.kindOf kd)
    (Mb.banksOf (8 : Int)) (32767 : Int)
    (Mb.wLow (Mb.kindOf kd) (12288 : Int)
      (IntKind.u8.wrap (((IntKind.i64.wrap n).tmod (512 : Int)).fdiv ((2 : Int) ^ (8 : Nat))))
      (Mb.wLow (Mb.kindOf kd) (12287 : Int)
        (IntKind.u8.wrap ((IntKind.i64.wrap n).tmod (512 : Int))) (1 : Int)))
    (Mb.wHigh (Mb.kindOf kd) (12288 : Int)
      (IntKind.u8.wrap (((IntKind.i64.wrap n).tmod (512 : Int)).fdiv ((2 : Int) ^ (8 : Nat))))
      (Mb.wHigh (Mb.kindOf kd) (12287 : Int)
        (IntKind.u8.wrap ((IntKind.i64.wrap n).tmod (512 : Int))) (0 : Int)))
    (Mb.wMode (Mb.kindOf kd) (12288 : Int)
      (IntKind.u8.wrap (((IntKind.i64.wrap n).tmod (512 : Int)).fdiv ((2 : Int) ^ (8 : Nat))))
      (Mb.wMode (Mb.kindOf kd) (12287 : Int)
        (IntKind.u8.wrap ((IntKind.i64.wrap n).tmod (512 : Int))) false)) ==
  (IntKind.i64.wrap n).tmod (512 : Int))
     (.chk (Mb.W (0 : Int) ∧
  ((0 : Int) ≤
        Mb.wLow (Mb.kindOf kd) (12288 : Int)
          (IntKind.u8.wrap (((IntKind.i64.wrap n).tmod (512 : Int)).fdiv ((2 : Int) ^ (8 : Nat))))
          (Mb.wLow (Mb.kindOf kd) (12287 : Int)
            (IntKind.u8.wrap ((IntKind.i64.wrap n).tmod (512 : Int))) (1 : Int)) ∧
      Mb.wLow (Mb.kindOf kd) (12288 : Int)
          (IntKind.u8.wrap (((IntKind.i64.wrap n).tmod (512 : Int)).fdiv ((2 : Int) ^ (8 : Nat))))
          (Mb.wLow (Mb.kindOf kd) (12287 : Int)
            (IntKind.u8.wrap ((IntKind.i64.wrap n).tmod (512 : Int))) (1 : Int)) <
        (512 : Int)) ∧
    (0 : Int) ≤
        Mb.wHigh (Mb.kindOf kd) (12288 : Int)
          (IntKind.u8.wrap (((IntKind.i64.wrap n).tmod (512 : Int)).fdiv ((2 : Int) ^ (8 : Nat))))
          (Mb.wHigh (Mb.kindOf kd) (12287 : Int)
            (IntKind.u8.wrap ((IntKind.i64.wrap n).tmod (512 : Int))) (0 : Int)) ∧
      Mb.wHigh (Mb.kindOf kd) (12288 : Int)
          (IntKind.u8.wrap (((IntKind.i64.wrap n).tmod (512 : Int)).fdiv ((2 : Int) ^ (8 : Nat))))
          (Mb.wHigh (Mb.kindOf kd) (12287 : Int)
            (IntKind.u8.wrap ((IntKind.i64.wrap n).tmod (512 : Int))) (0 : Int)) <
        (16 : Int))
     (.leaf (.v (.one (.bool false (Mb.bank (Mb.kindOf kd)
    (Mb.banksOf (8 : Int)) (0 : Int)
    (Mb.wLow (Mb.kindOf kd) (12288 : Int)
      (IntKind.u8.wrap (((IntKind.i64.wrap n).tmod (512 : Int)).fdiv ((2 : Int) ^ (8 : Nat))))
      (Mb.wLow (Mb.kindOf kd) (12287 : Int)
        (IntKind.u8.wrap ((IntKind.i64.wrap n).tmod (512 : Int))) (1 : Int)))
    (Mb.wHigh (Mb.kindOf kd) (12288 : Int)
      (IntKind.u8.wrap (((IntKind.i64.wrap n).tmod (512 : Int)).fdiv ((2 : Int) ^ (8 : Nat))))
      (Mb.wHigh (Mb.kindOf kd) (12287 : Int)
        (IntKind.u8.wrap ((IntKind.i64.wrap n).tmod (512 : Int))) (0 : Int)))
    (Mb.wMode (Mb.kindOf kd) (12288 : Int)
      (IntKind.u8.wrap (((IntKind.i64.wrap n).tmod (512 : Int)).fdiv ((2 : Int) ^ (8 : Nat))))
      (Mb.wMode (Mb.kindOf kd) (12287 : Int)
        (IntKind.u8.wrap ((IntKind.i64.wrap n).tmod (512 : Int))) false)) ==
  (0 : Int)))))))
     (.leaf (.v (.one (.bool true false))))))))
    (.br (Mb.kindOf kd == (0 : Int))
     (.chk (Mb.W (8192 : Int) ∧
  Mb.B (IntKind.u8.wrap (IntKind.i64.wrap n)) ∧
    (0 : Int) ≤ (1 : Int) ∧ (1 : Int) < (512 : Int))
     (.chk (Mb.W (32767 : Int) ∧
  ((0 : Int) ≤
        Mb.wLow (Mb.kindOf kd) (8192 : Int)
          (IntKind.u8.wrap (IntKind.i64.wrap n)) (1 : Int) ∧
      Mb.wLow (Mb.kindOf kd) (8192 : Int)
          (IntKind.u8.wrap (IntKind.i64.wrap n)) (1 : Int) <
        (512 : Int)) ∧
    (0 : Int) ≤
        Mb.wHigh (Mb.kindOf kd) (8192 : Int)
          (IntKind.u8.wrap (IntKind.i64.wrap n)) (0 : Int) ∧
      Mb.wHigh (Mb.kindOf kd) (8192 : Int)
          (IntKind.u8.wrap (IntKind.i64.wrap n)) (0 : Int) <
        (16 : Int))
     (.br (Mb.bank (Mb.kindOf kd)
    (Mb.banksOf (8 : Int)) (32767 : Int)
    (Mb.wLow (Mb.kindOf kd) (8192 : Int)
      (IntKind.u8.wrap (IntKind.i64.wrap n)) (1 : Int))
    (Mb.wHigh (Mb.kindOf kd) (8192 : Int)
      (IntKind.u8.wrap (IntKind.i64.wrap n)) (0 : Int))
    (Mb.wMode (Mb.kindOf kd) (8192 : Int)
      (IntKind.u8.wrap (IntKind.i64.wrap n)) false) ==
  (1 : Int))
      (.chk (Mb.W (0 : Int) ∧
  ((0 : Int) ≤
        Mb.wLow (Mb.kindOf kd) (8192 : Int)
          (IntKind.u8.wrap (IntKind.i64.wrap n)) (1 : Int) ∧
      Mb.wLow (Mb.kindOf kd) (8192 : Int)
          (IntKind.u8.wrap (IntKind.i64.wrap n)) (1 : Int) <
        (512 : Int)) ∧
    (0 : Int) ≤
        Mb.wHigh (Mb.kindOf kd) (8192 : Int)
          (IntKind.u8.wrap (IntKind.i64.wrap n)) (0 : Int) ∧
      Mb.wHigh (Mb.kindOf kd) (8192 : Int)
          (IntKind.u8.wrap (IntKind.i64.wrap n)) (0 : Int) <
        (16 : Int))
      (.leaf (.v (.one (.bool false (Mb.bank (Mb.kindOf kd)
    (Mb.banksOf (8 : Int)) (0 : Int)
    (Mb.wLow (Mb.kindOf kd) (8192 : Int)
      (IntKind.u8.wrap (IntKind.i64.wrap n)) (1 : Int))
    (Mb.wHigh (Mb.kindOf kd) (8192 : Int)
      (IntKind.u8.wrap (IntKind.i64.wrap n)) (0 : Int))
    (Mb.wMode (Mb.kindOf kd) (8192 : Int)
      (IntKind.u8.wrap (IntKind.i64.wrap n)) false) ==
  (0 : Int)))))))
      (.leaf (.v (.one (.bool true false)))))))
     (.chk (Mb.W (16384 : Int) ∧
  ((0 : Int) ≤ (1 : Int) ∧ (1 : Int) < (512 : Int)) ∧ (0 : Int) ≤ (0 : Int) ∧ (0 : Int) < (16 : Int))
     (.leaf (.v (.one (.bool false (Mb.bank (Mb.kindOf kd)
    (Mb.banksOf (8 : Int)) (16384 : Int) (1 : Int) (0 : Int) false ==
  (0 : Int))))))))))))))) := by kernel_rfl
set_option maxHeartbeats 4000000 in
theorem banks_walk (w : World) (kd n : Int) (bkd : Mb.B kd) (bn : Mb.W n) : Calls Try.prog 3 #[.int .u8 kd, .int .u16 n] w fun e w' => e = .returned (.bool true) ∧ Below w.heap.size w w' := by
  refine val_eq base2 (table2_ok w) (loops_none _ _) (banks_tree w kd n) rfl ?_
  obtain ⟨n1, n2⟩ := bn
  have e1 : IntKind.i64.wrap n = n := Mb.wi64 _ (by omega) (by omega)
  have e2 : n.tmod 128 = n % 128 := Int.tmod_eq_emod_of_nonneg n1
  have e3 : n.tmod 16 = n % 16 := Int.tmod_eq_emod_of_nonneg n1
  have e4 : n.tmod 512 = n % 512 := Int.tmod_eq_emod_of_nonneg n1
  have e5 : (n % 128).tmod 32 = n % 32 := by rw [Int.tmod_eq_emod_of_nonneg (by omega)]; omega
  have e6 : IntKind.u8.wrap (n % 128) = n % 128 := by rw [Mb.wu8]; omega
  have e7 : IntKind.u8.wrap (n % 16) = n % 16 := by rw [Mb.wu8]; omega
  have e8 : IntKind.u8.wrap (n % 512) = n % 256 := by rw [Mb.wu8]; omega
  have e9 : (n % 128).fdiv (2 ^ 5) = n % 128 / 32 := by rw [Int.fdiv_eq_ediv_of_nonneg _ (by decide)]; rfl
  have e10 : (n % 512).fdiv (2 ^ 8) = n % 512 / 256 := by rw [Int.fdiv_eq_ediv_of_nonneg _ (by decide)]; rfl
  have e11 : IntKind.u8.wrap (n % 128 / 32) = n % 128 / 32 := by rw [Mb.wu8]; omega
  have e12 : IntKind.u8.wrap (n % 512 / 256) = n % 512 / 256 := by rw [Mb.wu8]; omega
  have e13 : IntKind.i64.wrap (n % 128 + 1) = n % 128 + 1 := Mb.wi64 _ (by omega) (by omega)
  have e14 : Mb.banksOf 8 = 512 := by decide
  have e15 : IntKind.u8.wrap n = n % 256 := Mb.wu8 n
  simp only [T.holds, and_self, true_and, and_true, own_b, g_b, e1, e2, e3, e4, e5, e6, e7, e8, e9, e10, e11, e12, e13, e14, e15]
  refine ⟨⟨bkd, ⟨by decide, by decide⟩, ⟨by decide, by decide⟩⟩, ?_⟩
  clear e1 e2 e3 e4 e5 e6 e7 e8 e9 e10 e11 e12 e13 e14 e15
  rcases kinds kd bkd.1 with k | k | k | k | k | k <;> rw [k]
  all_goals
    simp [Mb.W, Mb.B, Mb.bank, Mb.bankN, Mb.wLow, Mb.wHigh, Mb.wMode, Mb.one]
  all_goals
    try (repeat' first | refine And.intro ?_ ?_ | intro _ | split)
  all_goals first | done | omega | (simp at *; omega) | skip
end Go.Proofs.Ythfloebldapfbaa
