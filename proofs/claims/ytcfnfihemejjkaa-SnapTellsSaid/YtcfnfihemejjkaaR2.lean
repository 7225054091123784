/-
  Contracts of the small calls of packs: numbers as bytes, bytes as numbers, clones, are bytes alike, how many are other ones. Bytes are below 256, rows have at most 1000000000; no other condition.
-/
import Derived.Test.YtcfnfihemejjkaaR1
import Derived.Test.YtcfnfihemejjkaaSP
import Derived.Test.YtcfnfihemejjkaaSymC
import Derived.Laws.Strings
import Derived.Laws.Bits128
namespace Go.Proofs.Ytcfnfihemejjkaa
open Go.RowKit sym
set_option linter.unusedVariables false
set_option linter.unusedSimpArgs false
set_option maxRecDepth 100000
theorem number_tree (w : World) (n : Int) :
    callT Try.prog w (flatT Try.prog) (noCtr) (noPre) (noLoop) 2 22 [.v (.one (.int false .i64 n))] [] =
(.br (decide (n < (128 : Int)))
 (.leaf ((.v (.one (.os 0 0 1 1))), [⟨[(.int false .u8 (IntKind.u8.wrap n))], 5⟩]))
 (.br (decide (IntKind.i64.wrap (n.tdiv (128 : Int)) < (128 : Int)))
  (.chk (True ∧ True ∧ (2 : Nat) ≤ (140737488355328 : Nat))
  (.all fun x : sym.Grown false (1 : Nat) (2 : Nat) =>
   (.leaf ((.v (.one (.gs 2 (x.nl') 1 0 2 (x.cap)))), [⟨[.dead], 5⟩, ⟨[(.int false .u8 (IntKind.u8.wrap (IntKind.i64.wrap (n.tdiv (128 : Int)))))], 5⟩, ⟨[(.row (x.nl') ([IntKind.u8]) ([IntKind.u8.wrap (IntKind.i64.wrap (n.tmod (128 : Int) + (128 : Int)))] ++
  [IntKind.u8.wrap (IntKind.i64.wrap (n.tdiv (128 : Int)))]) (x.cap))], 5⟩]))))
  (.fail "depth"))) := by kernel_rfl
theorem get_tree (w : World) (A : Option Addr) (X : List Int) (n cap : Nat) :
    callT Try.prog w (flatT Try.prog) (noCtr) (noPre) (noLoop) 20 27 [.v (.one (.xr A [.u8] X n cap))] [] =
(.br (decide ((0 : Int) ≥ (↑n : Int)))
 (.leaf ((.tuple [(.one (.int true .i64 (0))), (.one .nos), (.one (.int true .i64 (2)))]), []))
 (.chk (sym.XR w A [IntKind.u8] X n ∧
  (0 : Int) ≤ (0 : Int) ∧ (0 : Int) < (↑n : Int) ∧ (0 : Nat) < [IntKind.u8].length)
 (.chk (sym.XC w A [IntKind.u8] X ∧ (0 : Nat) < (1 : Nat) ∧ (1 : Nat) ≤ X.length)
 (.br (decide (X.getD (0 : Nat) (0 : Int) < (128 : Int)))
  (.br (decide (X.getD (0 : Nat) (0 : Int) < (128 : Int)))
   (.chk ((0 : Int) ≤ IntKind.i64.wrap ((0 : Int) + (1 : Int)) ∧
  IntKind.i64.wrap ((0 : Int) + (1 : Int)) ≤ (↑n : Int) ∧ (↑n : Int) ≤ (↑n : Int) ∧ n ≤ cap)
   (.leaf ((.tuple [(.one (.int false .i64 (bits BinOp.or IntKind.i64 (0 : Int)
  (IntKind.i64.wrap (IntKind.i64.wrap ((X.getD (0 : Nat) (0 : Int)).tmod (128 : Int)) * (2 : Int) ^ (0 : Nat)))))), (.one (.xr (sym.cutA A cap (1 : Nat) [IntKind.u8].length) ([IntKind.u8]) (sym.cutL X (1 : Nat) n [IntKind.u8].length) (n - (1 : Nat)) (cap - (1 : Nat)))), (.one (.int true .i64 (0)))]), [])))
   (.br (decide (IntKind.i64.wrap ((0 : Int) + (1 : Int)) ≥ (↑n : Int)))
    (.leaf ((.tuple [(.one (.int true .i64 (0))), (.one .nos), (.one (.int true .i64 (2)))]), []))
    (.chk (sym.XR w A [IntKind.u8] X n ∧
  (0 : Int) ≤ IntKind.i64.wrap ((0 : Int) + (1 : Int)) ∧
    IntKind.i64.wrap ((0 : Int) + (1 : Int)) < (↑n : Int) ∧ (0 : Nat) < [IntKind.u8].length)
    (.chk (sym.XC w A [IntKind.u8] X ∧ (0 : Nat) < (1 : Nat) ∧ (2 : Nat) ≤ X.length)
    (.br (decide (X.getD (1 : Nat) (0 : Int) < (128 : Int)))
     (.br (X.getD (1 : Nat) (0 : Int) == (0 : Int))
      (.leaf ((.tuple [(.one (.int true .i64 (0))), (.one .nos), (.one (.int true .i64 (5)))]), []))
      (.br (decide (X.getD (1 : Nat) (0 : Int) < (128 : Int)))
       (.chk ((0 : Int) ≤ IntKind.i64.wrap (IntKind.i64.wrap ((0 : Int) + (1 : Int)) + (1 : Int)) ∧
  IntKind.i64.wrap (IntKind.i64.wrap ((0 : Int) + (1 : Int)) + (1 : Int)) ≤ (↑n : Int) ∧ (↑n : Int) ≤ (↑n : Int) ∧ n ≤ cap)
       (.leaf ((.tuple [(.one (.int false .i64 (bits BinOp.or IntKind.i64
  (bits BinOp.or IntKind.i64 (0 : Int)
    (IntKind.i64.wrap (IntKind.i64.wrap ((X.getD (0 : Nat) (0 : Int)).tmod (128 : Int)) * (2 : Int) ^ (0 : Nat))))
  (IntKind.i64.wrap (IntKind.i64.wrap ((X.getD (1 : Nat) (0 : Int)).tmod (128 : Int)) * (2 : Int) ^ (7 : Nat)))))), (.one (.xr (sym.cutA A cap (2 : Nat) [IntKind.u8].length) ([IntKind.u8]) (sym.cutL X (2 : Nat) n [IntKind.u8].length) (n - (2 : Nat)) (cap - (2 : Nat)))), (.one (.int true .i64 (0)))]), [])))
       (.br (decide (IntKind.i64.wrap (IntKind.i64.wrap ((0 : Int) + (1 : Int)) + (1 : Int)) ≥ (↑n : Int)))
        (.leaf ((.tuple [(.one (.int true .i64 (0))), (.one .nos), (.one (.int true .i64 (2)))]), []))
        (.chk (sym.XR w A [IntKind.u8] X n ∧
  (0 : Int) ≤ IntKind.i64.wrap (IntKind.i64.wrap ((0 : Int) + (1 : Int)) + (1 : Int)) ∧
    IntKind.i64.wrap (IntKind.i64.wrap ((0 : Int) + (1 : Int)) + (1 : Int)) < (↑n : Int) ∧
      (0 : Nat) < [IntKind.u8].length)
        (.chk (sym.XC w A [IntKind.u8] X ∧ (0 : Nat) < (1 : Nat) ∧ (3 : Nat) ≤ X.length)
        (.br (decide (X.getD (2 : Nat) (0 : Int) < (128 : Int)))
         (.br (X.getD (2 : Nat) (0 : Int) == (0 : Int))
          (.leaf ((.tuple [(.one (.int true .i64 (0))), (.one .nos), (.one (.int true .i64 (5)))]), []))
          (.br (decide (X.getD (2 : Nat) (0 : Int) < (128 : Int)))
           (.chk ((0 : Int) ≤
    IntKind.i64.wrap (IntKind.i64.wrap (IntKind.i64.wrap ((0 : Int) + (1 : Int)) + (1 : Int)) + (1 : Int)) ∧
  IntKind.i64.wrap (IntKind.i64.wrap (IntKind.i64.wrap ((0 : Int) + (1 : Int)) + (1 : Int)) + (1 : Int)) ≤ (↑n : Int) ∧
    (↑n : Int) ≤ (↑n : Int) ∧ n ≤ cap)
           (.leaf ((.tuple [(.one (.int false .i64 (bits BinOp.or IntKind.i64
  (bits BinOp.or IntKind.i64
    (bits BinOp.or IntKind.i64 (0 : Int)
      (IntKind.i64.wrap
        (IntKind.i64.wrap ((X.getD (0 : Nat) (0 : Int)).tmod (128 : Int)) * (2 : Int) ^ (0 : Nat))))
    (IntKind.i64.wrap (IntKind.i64.wrap ((X.getD (1 : Nat) (0 : Int)).tmod (128 : Int)) * (2 : Int) ^ (7 : Nat))))
  (IntKind.i64.wrap (IntKind.i64.wrap ((X.getD (2 : Nat) (0 : Int)).tmod (128 : Int)) * (2 : Int) ^ (14 : Nat)))))), (.one (.xr (sym.cutA A cap (3 : Nat) [IntKind.u8].length) ([IntKind.u8]) (sym.cutL X (3 : Nat) n [IntKind.u8].length) (n - (3 : Nat)) (cap - (3 : Nat)))), (.one (.int true .i64 (0)))]), [])))
           (.br (decide
  (IntKind.i64.wrap (IntKind.i64.wrap (IntKind.i64.wrap ((0 : Int) + (1 : Int)) + (1 : Int)) + (1 : Int)) ≥ (↑n : Int)))
            (.leaf ((.tuple [(.one (.int true .i64 (0))), (.one .nos), (.one (.int true .i64 (2)))]), []))
            (.chk (sym.XR w A [IntKind.u8] X n ∧
  (0 : Int) ≤
      IntKind.i64.wrap (IntKind.i64.wrap (IntKind.i64.wrap ((0 : Int) + (1 : Int)) + (1 : Int)) + (1 : Int)) ∧
    IntKind.i64.wrap (IntKind.i64.wrap (IntKind.i64.wrap ((0 : Int) + (1 : Int)) + (1 : Int)) + (1 : Int)) <
        (↑n : Int) ∧
      (0 : Nat) < [IntKind.u8].length)
            (.chk (sym.XC w A [IntKind.u8] X ∧ (0 : Nat) < (1 : Nat) ∧ (4 : Nat) ≤ X.length)
            (.br (decide (X.getD (3 : Nat) (0 : Int) < (128 : Int)))
             (.br (X.getD (3 : Nat) (0 : Int) == (0 : Int))
              (.leaf ((.tuple [(.one (.int true .i64 (0))), (.one .nos), (.one (.int true .i64 (5)))]), []))
              (.br (decide (X.getD (3 : Nat) (0 : Int) < (128 : Int)))
               (.chk ((0 : Int) ≤
    IntKind.i64.wrap
      (IntKind.i64.wrap (IntKind.i64.wrap (IntKind.i64.wrap ((0 : Int) + (1 : Int)) + (1 : Int)) + (1 : Int)) +
        (1 : Int)) ∧
  IntKind.i64.wrap
        (IntKind.i64.wrap
            (IntKind.i64.wrap (IntKind.i64.wrap ((0 : Int) + (1 : Int)) + (1 : Int)) + (1 : Int)) +
          (1 : Int)) ≤
      (↑n : Int) ∧
    (↑n : Int) ≤ (↑n : Int) ∧ n ≤ cap)
               (.leaf ((.tuple [(.one (.int false .i64 (bits BinOp.or IntKind.i64
  (bits BinOp.or IntKind.i64
    (bits BinOp.or IntKind.i64
      (bits BinOp.or IntKind.i64 (0 : Int)
        (IntKind.i64.wrap
          (IntKind.i64.wrap ((X.getD (0 : Nat) (0 : Int)).tmod (128 : Int)) * (2 : Int) ^ (0 : Nat))))
      (IntKind.i64.wrap
        (IntKind.i64.wrap ((X.getD (1 : Nat) (0 : Int)).tmod (128 : Int)) * (2 : Int) ^ (7 : Nat))))
    (IntKind.i64.wrap
      (IntKind.i64.wrap ((X.getD (2 : Nat) (0 : Int)).tmod (128 : Int)) * (2 : Int) ^ (14 : Nat))))
  (IntKind.i64.wrap (IntKind.i64.wrap ((X.getD (3 : Nat) (0 : Int)).tmod (128 : Int)) * (2 : Int) ^ (21 : Nat)))))), (.one (.xr (sym.cutA A cap (4 : Nat) [IntKind.u8].length) ([IntKind.u8]) (sym.cutL X (4 : Nat) n [IntKind.u8].length) (n - (4 : Nat)) (cap - (4 : Nat)))), (.one (.int true .i64 (0)))]), [])))
               (.leaf ((.tuple [(.one (.int true .i64 (0))), (.one .nos), (.one (.int true .i64 (5)))]), []))))
             (.br (decide (X.getD (3 : Nat) (0 : Int) < (128 : Int)))
              (.chk ((0 : Int) ≤
    IntKind.i64.wrap
      (IntKind.i64.wrap (IntKind.i64.wrap (IntKind.i64.wrap ((0 : Int) + (1 : Int)) + (1 : Int)) + (1 : Int)) +
        (1 : Int)) ∧
  IntKind.i64.wrap
        (IntKind.i64.wrap
            (IntKind.i64.wrap (IntKind.i64.wrap ((0 : Int) + (1 : Int)) + (1 : Int)) + (1 : Int)) +
          (1 : Int)) ≤
      (↑n : Int) ∧
    (↑n : Int) ≤ (↑n : Int) ∧ n ≤ cap)
              (.leaf ((.tuple [(.one (.int false .i64 (bits BinOp.or IntKind.i64
  (bits BinOp.or IntKind.i64
    (bits BinOp.or IntKind.i64
      (bits BinOp.or IntKind.i64 (0 : Int)
        (IntKind.i64.wrap
          (IntKind.i64.wrap ((X.getD (0 : Nat) (0 : Int)).tmod (128 : Int)) * (2 : Int) ^ (0 : Nat))))
      (IntKind.i64.wrap
        (IntKind.i64.wrap ((X.getD (1 : Nat) (0 : Int)).tmod (128 : Int)) * (2 : Int) ^ (7 : Nat))))
    (IntKind.i64.wrap
      (IntKind.i64.wrap ((X.getD (2 : Nat) (0 : Int)).tmod (128 : Int)) * (2 : Int) ^ (14 : Nat))))
  (IntKind.i64.wrap (IntKind.i64.wrap ((X.getD (3 : Nat) (0 : Int)).tmod (128 : Int)) * (2 : Int) ^ (21 : Nat)))))), (.one (.xr (sym.cutA A cap (4 : Nat) [IntKind.u8].length) ([IntKind.u8]) (sym.cutL X (4 : Nat) n [IntKind.u8].length) (n - (4 : Nat)) (cap - (4 : Nat)))), (.one (.int true .i64 (0)))]), [])))
              (.leaf ((.tuple [(.one (.int true .i64 (0))), (.one .nos), (.one (.int true .i64 (5)))]), [])))))))))
         (.br (decide (X.getD (2 : Nat) (0 : Int) < (128 : Int)))
          (.chk ((0 : Int) ≤
    IntKind.i64.wrap (IntKind.i64.wrap (IntKind.i64.wrap ((0 : Int) + (1 : Int)) + (1 : Int)) + (1 : Int)) ∧
  IntKind.i64.wrap (IntKind.i64.wrap (IntKind.i64.wrap ((0 : Int) + (1 : Int)) + (1 : Int)) + (1 : Int)) ≤ (↑n : Int) ∧
    (↑n : Int) ≤ (↑n : Int) ∧ n ≤ cap)
          (.leaf ((.tuple [(.one (.int false .i64 (bits BinOp.or IntKind.i64
  (bits BinOp.or IntKind.i64
    (bits BinOp.or IntKind.i64 (0 : Int)
      (IntKind.i64.wrap
        (IntKind.i64.wrap ((X.getD (0 : Nat) (0 : Int)).tmod (128 : Int)) * (2 : Int) ^ (0 : Nat))))
    (IntKind.i64.wrap (IntKind.i64.wrap ((X.getD (1 : Nat) (0 : Int)).tmod (128 : Int)) * (2 : Int) ^ (7 : Nat))))
  (IntKind.i64.wrap (IntKind.i64.wrap ((X.getD (2 : Nat) (0 : Int)).tmod (128 : Int)) * (2 : Int) ^ (14 : Nat)))))), (.one (.xr (sym.cutA A cap (3 : Nat) [IntKind.u8].length) ([IntKind.u8]) (sym.cutL X (3 : Nat) n [IntKind.u8].length) (n - (3 : Nat)) (cap - (3 : Nat)))), (.one (.int true .i64 (0)))]), [])))
          (.br (decide
  (IntKind.i64.wrap (IntKind.i64.wrap (IntKind.i64.wrap ((0 : Int) + (1 : Int)) + (1 : Int)) + (1 : Int)) ≥ (↑n : Int)))
           (.leaf ((.tuple [(.one (.int true .i64 (0))), (.one .nos), (.one (.int true .i64 (2)))]), []))
           (.chk (sym.XR w A [IntKind.u8] X n ∧
  (0 : Int) ≤
      IntKind.i64.wrap (IntKind.i64.wrap (IntKind.i64.wrap ((0 : Int) + (1 : Int)) + (1 : Int)) + (1 : Int)) ∧
    IntKind.i64.wrap (IntKind.i64.wrap (IntKind.i64.wrap ((0 : Int) + (1 : Int)) + (1 : Int)) + (1 : Int)) <
        (↑n : Int) ∧
      (0 : Nat) < [IntKind.u8].length)
           (.chk (sym.XC w A [IntKind.u8] X ∧ (0 : Nat) < (1 : Nat) ∧ (4 : Nat) ≤ X.length)
           (.br (decide (X.getD (3 : Nat) (0 : Int) < (128 : Int)))
            (.br (X.getD (3 : Nat) (0 : Int) == (0 : Int))
             (.leaf ((.tuple [(.one (.int true .i64 (0))), (.one .nos), (.one (.int true .i64 (5)))]), []))
             (.br (decide (X.getD (3 : Nat) (0 : Int) < (128 : Int)))
              (.chk ((0 : Int) ≤
    IntKind.i64.wrap
      (IntKind.i64.wrap (IntKind.i64.wrap (IntKind.i64.wrap ((0 : Int) + (1 : Int)) + (1 : Int)) + (1 : Int)) +
        (1 : Int)) ∧
  IntKind.i64.wrap
        (IntKind.i64.wrap
            (IntKind.i64.wrap (IntKind.i64.wrap ((0 : Int) + (1 : Int)) + (1 : Int)) + (1 : Int)) +
          (1 : Int)) ≤
      (↑n : Int) ∧
    (↑n : Int) ≤ (↑n : Int) ∧ n ≤ cap)
              (.leaf ((.tuple [(.one (.int false .i64 (bits BinOp.or IntKind.i64
  (bits BinOp.or IntKind.i64
    (bits BinOp.or IntKind.i64
      (bits BinOp.or IntKind.i64 (0 : Int)
        (IntKind.i64.wrap
          (IntKind.i64.wrap ((X.getD (0 : Nat) (0 : Int)).tmod (128 : Int)) * (2 : Int) ^ (0 : Nat))))
      (IntKind.i64.wrap
        (IntKind.i64.wrap ((X.getD (1 : Nat) (0 : Int)).tmod (128 : Int)) * (2 : Int) ^ (7 : Nat))))
    (IntKind.i64.wrap
      (IntKind.i64.wrap ((X.getD (2 : Nat) (0 : Int)).tmod (128 : Int)) * (2 : Int) ^ (14 : Nat))))
  (IntKind.i64.wrap (IntKind.i64.wrap ((X.getD (3 : Nat) (0 : Int)).tmod (128 : Int)) * (2 : Int) ^ (21 : Nat)))))), (.one (.xr (sym.cutA A cap (4 : Nat) [IntKind.u8].length) ([IntKind.u8]) (sym.cutL X (4 : Nat) n [IntKind.u8].length) (n - (4 : Nat)) (cap - (4 : Nat)))), (.one (.int true .i64 (0)))]), [])))
              (.leaf ((.tuple [(.one (.int true .i64 (0))), (.one .nos), (.one (.int true .i64 (5)))]), []))))
            (.br (decide (X.getD (3 : Nat) (0 : Int) < (128 : Int)))
             (.chk ((0 : Int) ≤
    IntKind.i64.wrap
      (IntKind.i64.wrap (IntKind.i64.wrap (IntKind.i64.wrap ((0 : Int) + (1 : Int)) + (1 : Int)) + (1 : Int)) +
        (1 : Int)) ∧
  IntKind.i64.wrap
        (IntKind.i64.wrap
            (IntKind.i64.wrap (IntKind.i64.wrap ((0 : Int) + (1 : Int)) + (1 : Int)) + (1 : Int)) +
          (1 : Int)) ≤
      (↑n : Int) ∧
    (↑n : Int) ≤ (↑n : Int) ∧ n ≤ cap)
             (.leaf ((.tuple [(.one (.int false .i64 (bits BinOp.or IntKind.i64
  (bits BinOp.or IntKind.i64
    (bits BinOp.or IntKind.i64
      (bits BinOp.or IntKind.i64 (0 : Int)
        (IntKind.i64.wrap
          (IntKind.i64.wrap ((X.getD (0 : Nat) (0 : Int)).tmod (128 : Int)) * (2 : Int) ^ (0 : Nat))))
      (IntKind.i64.wrap
        (IntKind.i64.wrap ((X.getD (1 : Nat) (0 : Int)).tmod (128 : Int)) * (2 : Int) ^ (7 : Nat))))
    (IntKind.i64.wrap
      (IntKind.i64.wrap ((X.getD (2 : Nat) (0 : Int)).tmod (128 : Int)) * (2 : Int) ^ (14 : Nat))))
  (IntKind.i64.wrap (IntKind.i64.wrap ((X.getD (3 : Nat) (0 : Int)).tmod (128 : Int)) * (2 : Int) ^ (21 : Nat)))))), (.one (.xr (sym.cutA A cap (4 : Nat) [IntKind.u8].length) ([IntKind.u8]) (sym.cutL X (4 : Nat) n [IntKind.u8].length) (n - (4 : Nat)) (cap - (4 : Nat)))), (.one (.int true .i64 (0)))]), [])))
             (.leaf ((.tuple [(.one (.int true .i64 (0))), (.one .nos), (.one (.int true .i64 (5)))]), []))))))))))))))
     (.br (decide (X.getD (1 : Nat) (0 : Int) < (128 : Int)))
      (.chk ((0 : Int) ≤ IntKind.i64.wrap (IntKind.i64.wrap ((0 : Int) + (1 : Int)) + (1 : Int)) ∧
  IntKind.i64.wrap (IntKind.i64.wrap ((0 : Int) + (1 : Int)) + (1 : Int)) ≤ (↑n : Int) ∧ (↑n : Int) ≤ (↑n : Int) ∧ n ≤ cap)
      (.leaf ((.tuple [(.one (.int false .i64 (bits BinOp.or IntKind.i64
  (bits BinOp.or IntKind.i64 (0 : Int)
    (IntKind.i64.wrap (IntKind.i64.wrap ((X.getD (0 : Nat) (0 : Int)).tmod (128 : Int)) * (2 : Int) ^ (0 : Nat))))
  (IntKind.i64.wrap (IntKind.i64.wrap ((X.getD (1 : Nat) (0 : Int)).tmod (128 : Int)) * (2 : Int) ^ (7 : Nat)))))), (.one (.xr (sym.cutA A cap (2 : Nat) [IntKind.u8].length) ([IntKind.u8]) (sym.cutL X (2 : Nat) n [IntKind.u8].length) (n - (2 : Nat)) (cap - (2 : Nat)))), (.one (.int true .i64 (0)))]), [])))
      (.br (decide (IntKind.i64.wrap (IntKind.i64.wrap ((0 : Int) + (1 : Int)) + (1 : Int)) ≥ (↑n : Int)))
       (.leaf ((.tuple [(.one (.int true .i64 (0))), (.one .nos), (.one (.int true .i64 (2)))]), []))
       (.chk (sym.XR w A [IntKind.u8] X n ∧
  (0 : Int) ≤ IntKind.i64.wrap (IntKind.i64.wrap ((0 : Int) + (1 : Int)) + (1 : Int)) ∧
    IntKind.i64.wrap (IntKind.i64.wrap ((0 : Int) + (1 : Int)) + (1 : Int)) < (↑n : Int) ∧
      (0 : Nat) < [IntKind.u8].length)
       (.chk (sym.XC w A [IntKind.u8] X ∧ (0 : Nat) < (1 : Nat) ∧ (3 : Nat) ≤ X.length)
       (.br (decide (X.getD (2 : Nat) (0 : Int) < (128 : Int)))
        (.br (X.getD (2 : Nat) (0 : Int) == (0 : Int))
         (.leaf ((.tuple [(.one (.int true .i64 (0))), (.one .nos), (.one (.int true .i64 (5)))]), []))
         (.br (decide (X.getD (2 : Nat) (0 : Int) < (128 : Int)))
          (.chk ((0 : Int) ≤
    IntKind.i64.wrap (IntKind.i64.wrap (IntKind.i64.wrap ((0 : Int) + (1 : Int)) + (1 : Int)) + (1 : Int)) ∧
  IntKind.i64.wrap (IntKind.i64.wrap (IntKind.i64.wrap ((0 : Int) + (1 : Int)) + (1 : Int)) + (1 : Int)) ≤ (↑n : Int) ∧
    (↑n : Int) ≤ (↑n : Int) ∧ n ≤ cap)
          (.leaf ((.tuple [(.one (.int false .i64 (bits BinOp.or IntKind.i64
  (bits BinOp.or IntKind.i64
    (bits BinOp.or IntKind.i64 (0 : Int)
      (IntKind.i64.wrap
        (IntKind.i64.wrap ((X.getD (0 : Nat) (0 : Int)).tmod (128 : Int)) * (2 : Int) ^ (0 : Nat))))
    (IntKind.i64.wrap (IntKind.i64.wrap ((X.getD (1 : Nat) (0 : Int)).tmod (128 : Int)) * (2 : Int) ^ (7 : Nat))))
  (IntKind.i64.wrap (IntKind.i64.wrap ((X.getD (2 : Nat) (0 : Int)).tmod (128 : Int)) * (2 : Int) ^ (14 : Nat)))))), (.one (.xr (sym.cutA A cap (3 : Nat) [IntKind.u8].length) ([IntKind.u8]) (sym.cutL X (3 : Nat) n [IntKind.u8].length) (n - (3 : Nat)) (cap - (3 : Nat)))), (.one (.int true .i64 (0)))]), [])))
          (.br (decide
  (IntKind.i64.wrap (IntKind.i64.wrap (IntKind.i64.wrap ((0 : Int) + (1 : Int)) + (1 : Int)) + (1 : Int)) ≥ (↑n : Int)))
           (.leaf ((.tuple [(.one (.int true .i64 (0))), (.one .nos), (.one (.int true .i64 (2)))]), []))
           (.chk (sym.XR w A [IntKind.u8] X n ∧
  (0 : Int) ≤
      IntKind.i64.wrap (IntKind.i64.wrap (IntKind.i64.wrap ((0 : Int) + (1 : Int)) + (1 : Int)) + (1 : Int)) ∧
    IntKind.i64.wrap (IntKind.i64.wrap (IntKind.i64.wrap ((0 : Int) + (1 : Int)) + (1 : Int)) + (1 : Int)) <
        (↑n : Int) ∧
      (0 : Nat) < [IntKind.u8].length)
           (.chk (sym.XC w A [IntKind.u8] X ∧ (0 : Nat) < (1 : Nat) ∧ (4 : Nat) ≤ X.length)
           (.br (decide (X.getD (3 : Nat) (0 : Int) < (128 : Int)))
            (.br (X.getD (3 : Nat) (0 : Int) == (0 : Int))
             (.leaf ((.tuple [(.one (.int true .i64 (0))), (.one .nos), (.one (.int true .i64 (5)))]), []))
             (.br (decide (X.getD (3 : Nat) (0 : Int) < (128 : Int)))
              (.chk ((0 : Int) ≤
    IntKind.i64.wrap
      (IntKind.i64.wrap (IntKind.i64.wrap (IntKind.i64.wrap ((0 : Int) + (1 : Int)) + (1 : Int)) + (1 : Int)) +
        (1 : Int)) ∧
  IntKind.i64.wrap
        (IntKind.i64.wrap
            (IntKind.i64.wrap (IntKind.i64.wrap ((0 : Int) + (1 : Int)) + (1 : Int)) + (1 : Int)) +
          (1 : Int)) ≤
      (↑n : Int) ∧
    (↑n : Int) ≤ (↑n : Int) ∧ n ≤ cap)
              (.leaf ((.tuple [(.one (.int false .i64 (bits BinOp.or IntKind.i64
  (bits BinOp.or IntKind.i64
    (bits BinOp.or IntKind.i64
      (bits BinOp.or IntKind.i64 (0 : Int)
        (IntKind.i64.wrap
          (IntKind.i64.wrap ((X.getD (0 : Nat) (0 : Int)).tmod (128 : Int)) * (2 : Int) ^ (0 : Nat))))
      (IntKind.i64.wrap
        (IntKind.i64.wrap ((X.getD (1 : Nat) (0 : Int)).tmod (128 : Int)) * (2 : Int) ^ (7 : Nat))))
    (IntKind.i64.wrap
      (IntKind.i64.wrap ((X.getD (2 : Nat) (0 : Int)).tmod (128 : Int)) * (2 : Int) ^ (14 : Nat))))
  (IntKind.i64.wrap (IntKind.i64.wrap ((X.getD (3 : Nat) (0 : Int)).tmod (128 : Int)) * (2 : Int) ^ (21 : Nat)))))), (.one (.xr (sym.cutA A cap (4 : Nat) [IntKind.u8].length) ([IntKind.u8]) (sym.cutL X (4 : Nat) n [IntKind.u8].length) (n - (4 : Nat)) (cap - (4 : Nat)))), (.one (.int true .i64 (0)))]), [])))
              (.leaf ((.tuple [(.one (.int true .i64 (0))), (.one .nos), (.one (.int true .i64 (5)))]), []))))
            (.br (decide (X.getD (3 : Nat) (0 : Int) < (128 : Int)))
             (.chk ((0 : Int) ≤
    IntKind.i64.wrap
      (IntKind.i64.wrap (IntKind.i64.wrap (IntKind.i64.wrap ((0 : Int) + (1 : Int)) + (1 : Int)) + (1 : Int)) +
        (1 : Int)) ∧
  IntKind.i64.wrap
        (IntKind.i64.wrap
            (IntKind.i64.wrap (IntKind.i64.wrap ((0 : Int) + (1 : Int)) + (1 : Int)) + (1 : Int)) +
          (1 : Int)) ≤
      (↑n : Int) ∧
    (↑n : Int) ≤ (↑n : Int) ∧ n ≤ cap)
             (.leaf ((.tuple [(.one (.int false .i64 (bits BinOp.or IntKind.i64
  (bits BinOp.or IntKind.i64
    (bits BinOp.or IntKind.i64
      (bits BinOp.or IntKind.i64 (0 : Int)
        (IntKind.i64.wrap
          (IntKind.i64.wrap ((X.getD (0 : Nat) (0 : Int)).tmod (128 : Int)) * (2 : Int) ^ (0 : Nat))))
      (IntKind.i64.wrap
        (IntKind.i64.wrap ((X.getD (1 : Nat) (0 : Int)).tmod (128 : Int)) * (2 : Int) ^ (7 : Nat))))
    (IntKind.i64.wrap
      (IntKind.i64.wrap ((X.getD (2 : Nat) (0 : Int)).tmod (128 : Int)) * (2 : Int) ^ (14 : Nat))))
  (IntKind.i64.wrap (IntKind.i64.wrap ((X.getD (3 : Nat) (0 : Int)).tmod (128 : Int)) * (2 : Int) ^ (21 : Nat)))))), (.one (.xr (sym.cutA A cap (4 : Nat) [IntKind.u8].length) ([IntKind.u8]) (sym.cutL X (4 : Nat) n [IntKind.u8].length) (n - (4 : Nat)) (cap - (4 : Nat)))), (.one (.int true .i64 (0)))]), [])))
             (.leaf ((.tuple [(.one (.int true .i64 (0))), (.one .nos), (.one (.int true .i64 (5)))]), [])))))))))
        (.br (decide (X.getD (2 : Nat) (0 : Int) < (128 : Int)))
         (.chk ((0 : Int) ≤
    IntKind.i64.wrap (IntKind.i64.wrap (IntKind.i64.wrap ((0 : Int) + (1 : Int)) + (1 : Int)) + (1 : Int)) ∧
  IntKind.i64.wrap (IntKind.i64.wrap (IntKind.i64.wrap ((0 : Int) + (1 : Int)) + (1 : Int)) + (1 : Int)) ≤ (↑n : Int) ∧
    (↑n : Int) ≤ (↑n : Int) ∧ n ≤ cap)
         (.leaf ((.tuple [(.one (.int false .i64 (bits BinOp.or IntKind.i64
  (bits BinOp.or IntKind.i64
    (bits BinOp.or IntKind.i64 (0 : Int)
      (IntKind.i64.wrap
        (IntKind.i64.wrap ((X.getD (0 : Nat) (0 : Int)).tmod (128 : Int)) * (2 : Int) ^ (0 : Nat))))
    (IntKind.i64.wrap (IntKind.i64.wrap ((X.getD (1 : Nat) (0 : Int)).tmod (128 : Int)) * (2 : Int) ^ (7 : Nat))))
  (IntKind.i64.wrap (IntKind.i64.wrap ((X.getD (2 : Nat) (0 : Int)).tmod (128 : Int)) * (2 : Int) ^ (14 : Nat)))))), (.one (.xr (sym.cutA A cap (3 : Nat) [IntKind.u8].length) ([IntKind.u8]) (sym.cutL X (3 : Nat) n [IntKind.u8].length) (n - (3 : Nat)) (cap - (3 : Nat)))), (.one (.int true .i64 (0)))]), [])))
         (.br (decide
  (IntKind.i64.wrap (IntKind.i64.wrap (IntKind.i64.wrap ((0 : Int) + (1 : Int)) + (1 : Int)) + (1 : Int)) ≥ (↑n : Int)))
          (.leaf ((.tuple [(.one (.int true .i64 (0))), (.one .nos), (.one (.int true .i64 (2)))]), []))
          (.chk (sym.XR w A [IntKind.u8] X n ∧
  (0 : Int) ≤
      IntKind.i64.wrap (IntKind.i64.wrap (IntKind.i64.wrap ((0 : Int) + (1 : Int)) + (1 : Int)) + (1 : Int)) ∧
    IntKind.i64.wrap (IntKind.i64.wrap (IntKind.i64.wrap ((0 : Int) + (1 : Int)) + (1 : Int)) + (1 : Int)) <
        (↑n : Int) ∧
      (0 : Nat) < [IntKind.u8].length)
          (.chk (sym.XC w A [IntKind.u8] X ∧ (0 : Nat) < (1 : Nat) ∧ (4 : Nat) ≤ X.length)
          (.br (decide (X.getD (3 : Nat) (0 : Int) < (128 : Int)))
           (.br (X.getD (3 : Nat) (0 : Int) == (0 : Int))
            (.leaf ((.tuple [(.one (.int true .i64 (0))), (.one .nos), (.one (.int true .i64 (5)))]), []))
            (.br (decide (X.getD (3 : Nat) (0 : Int) < (128 : Int)))
             (.chk ((0 : Int) ≤
    IntKind.i64.wrap
      (IntKind.i64.wrap (IntKind.i64.wrap (IntKind.i64.wrap ((0 : Int) + (1 : Int)) + (1 : Int)) + (1 : Int)) +
        (1 : Int)) ∧
  IntKind.i64.wrap
        (IntKind.i64.wrap
            (IntKind.i64.wrap (IntKind.i64.wrap ((0 : Int) + (1 : Int)) + (1 : Int)) + (1 : Int)) +
          (1 : Int)) ≤
      (↑n : Int) ∧
    (↑n : Int) ≤ (↑n : Int) ∧ n ≤ cap)
             (.leaf ((.tuple [(.one (.int false .i64 (bits BinOp.or IntKind.i64
  (bits BinOp.or IntKind.i64
    (bits BinOp.or IntKind.i64
      (bits BinOp.or IntKind.i64 (0 : Int)
        (IntKind.i64.wrap
          (IntKind.i64.wrap ((X.getD (0 : Nat) (0 : Int)).tmod (128 : Int)) * (2 : Int) ^ (0 : Nat))))
      (IntKind.i64.wrap
        (IntKind.i64.wrap ((X.getD (1 : Nat) (0 : Int)).tmod (128 : Int)) * (2 : Int) ^ (7 : Nat))))
    (IntKind.i64.wrap
      (IntKind.i64.wrap ((X.getD (2 : Nat) (0 : Int)).tmod (128 : Int)) * (2 : Int) ^ (14 : Nat))))
  (IntKind.i64.wrap (IntKind.i64.wrap ((X.getD (3 : Nat) (0 : Int)).tmod (128 : Int)) * (2 : Int) ^ (21 : Nat)))))), (.one (.xr (sym.cutA A cap (4 : Nat) [IntKind.u8].length) ([IntKind.u8]) (sym.cutL X (4 : Nat) n [IntKind.u8].length) (n - (4 : Nat)) (cap - (4 : Nat)))), (.one (.int true .i64 (0)))]), [])))
             (.leaf ((.tuple [(.one (.int true .i64 (0))), (.one .nos), (.one (.int true .i64 (5)))]), []))))
           (.br (decide (X.getD (3 : Nat) (0 : Int) < (128 : Int)))
            (.chk ((0 : Int) ≤
    IntKind.i64.wrap
      (IntKind.i64.wrap (IntKind.i64.wrap (IntKind.i64.wrap ((0 : Int) + (1 : Int)) + (1 : Int)) + (1 : Int)) +
        (1 : Int)) ∧
  IntKind.i64.wrap
        (IntKind.i64.wrap
            (IntKind.i64.wrap (IntKind.i64.wrap ((0 : Int) + (1 : Int)) + (1 : Int)) + (1 : Int)) +
          (1 : Int)) ≤
      (↑n : Int) ∧
    (↑n : Int) ≤ (↑n : Int) ∧ n ≤ cap)
            (.leaf ((.tuple [(.one (.int false .i64 (bits BinOp.or IntKind.i64
  (bits BinOp.or IntKind.i64
    (bits BinOp.or IntKind.i64
      (bits BinOp.or IntKind.i64 (0 : Int)
        (IntKind.i64.wrap
          (IntKind.i64.wrap ((X.getD (0 : Nat) (0 : Int)).tmod (128 : Int)) * (2 : Int) ^ (0 : Nat))))
      (IntKind.i64.wrap
        (IntKind.i64.wrap ((X.getD (1 : Nat) (0 : Int)).tmod (128 : Int)) * (2 : Int) ^ (7 : Nat))))
    (IntKind.i64.wrap
      (IntKind.i64.wrap ((X.getD (2 : Nat) (0 : Int)).tmod (128 : Int)) * (2 : Int) ^ (14 : Nat))))
  (IntKind.i64.wrap (IntKind.i64.wrap ((X.getD (3 : Nat) (0 : Int)).tmod (128 : Int)) * (2 : Int) ^ (21 : Nat)))))), (.one (.xr (sym.cutA A cap (4 : Nat) [IntKind.u8].length) ([IntKind.u8]) (sym.cutL X (4 : Nat) n [IntKind.u8].length) (n - (4 : Nat)) (cap - (4 : Nat)))), (.one (.int true .i64 (0)))]), [])))
            (.leaf ((.tuple [(.one (.int true .i64 (0))), (.one .nos), (.one (.int true .i64 (5)))]), []))))))))))))))))))
  (.br (decide (X.getD (0 : Nat) (0 : Int) < (128 : Int)))
   (.chk ((0 : Int) ≤ IntKind.i64.wrap ((0 : Int) + (1 : Int)) ∧
  IntKind.i64.wrap ((0 : Int) + (1 : Int)) ≤ (↑n : Int) ∧ (↑n : Int) ≤ (↑n : Int) ∧ n ≤ cap)
   (.leaf ((.tuple [(.one (.int false .i64 (bits BinOp.or IntKind.i64 (0 : Int)
  (IntKind.i64.wrap (IntKind.i64.wrap ((X.getD (0 : Nat) (0 : Int)).tmod (128 : Int)) * (2 : Int) ^ (0 : Nat)))))), (.one (.xr (sym.cutA A cap (1 : Nat) [IntKind.u8].length) ([IntKind.u8]) (sym.cutL X (1 : Nat) n [IntKind.u8].length) (n - (1 : Nat)) (cap - (1 : Nat)))), (.one (.int true .i64 (0)))]), [])))
   (.br (decide (IntKind.i64.wrap ((0 : Int) + (1 : Int)) ≥ (↑n : Int)))
    (.leaf ((.tuple [(.one (.int true .i64 (0))), (.one .nos), (.one (.int true .i64 (2)))]), []))
    (.chk (sym.XR w A [IntKind.u8] X n ∧
  (0 : Int) ≤ IntKind.i64.wrap ((0 : Int) + (1 : Int)) ∧
    IntKind.i64.wrap ((0 : Int) + (1 : Int)) < (↑n : Int) ∧ (0 : Nat) < [IntKind.u8].length)
    (.chk (sym.XC w A [IntKind.u8] X ∧ (0 : Nat) < (1 : Nat) ∧ (2 : Nat) ≤ X.length)
    (.br (decide (X.getD (1 : Nat) (0 : Int) < (128 : Int)))
     (.br (X.getD (1 : Nat) (0 : Int) == (0 : Int))
      (.leaf ((.tuple [(.one (.int true .i64 (0))), (.one .nos), (.one (.int true .i64 (5)))]), []))
      (.br (decide (X.getD (1 : Nat) (0 : Int) < (128 : Int)))
       (.chk ((0 : Int) ≤ IntKind.i64.wrap (IntKind.i64.wrap ((0 : Int) + (1 : Int)) + (1 : Int)) ∧
  IntKind.i64.wrap (IntKind.i64.wrap ((0 : Int) + (1 : Int)) + (1 : Int)) ≤ (↑n : Int) ∧ (↑n : Int) ≤ (↑n : Int) ∧ n ≤ cap)
       (.leaf ((.tuple [(.one (.int false .i64 (bits BinOp.or IntKind.i64
  (bits BinOp.or IntKind.i64 (0 : Int)
    (IntKind.i64.wrap (IntKind.i64.wrap ((X.getD (0 : Nat) (0 : Int)).tmod (128 : Int)) * (2 : Int) ^ (0 : Nat))))
  (IntKind.i64.wrap (IntKind.i64.wrap ((X.getD (1 : Nat) (0 : Int)).tmod (128 : Int)) * (2 : Int) ^ (7 : Nat)))))), (.one (.xr (sym.cutA A cap (2 : Nat) [IntKind.u8].length) ([IntKind.u8]) (sym.cutL X (2 : Nat) n [IntKind.u8].length) (n - (2 : Nat)) (cap - (2 : Nat)))), (.one (.int true .i64 (0)))]), [])))
       (.br (decide (IntKind.i64.wrap (IntKind.i64.wrap ((0 : Int) + (1 : Int)) + (1 : Int)) ≥ (↑n : Int)))
        (.leaf ((.tuple [(.one (.int true .i64 (0))), (.one .nos), (.one (.int true .i64 (2)))]), []))
        (.chk (sym.XR w A [IntKind.u8] X n ∧
  (0 : Int) ≤ IntKind.i64.wrap (IntKind.i64.wrap ((0 : Int) + (1 : Int)) + (1 : Int)) ∧
    IntKind.i64.wrap (IntKind.i64.wrap ((0 : Int) + (1 : Int)) + (1 : Int)) < (↑n : Int) ∧
      (0 : Nat) < [IntKind.u8].length)
        (.chk (sym.XC w A [IntKind.u8] X ∧ (0 : Nat) < (1 : Nat) ∧ (3 : Nat) ≤ X.length)
        (.br (decide (X.getD (2 : Nat) (0 : Int) < (128 : Int)))
         (.br (X.getD (2 : Nat) (0 : Int) == (0 : Int))
          (.leaf ((.tuple [(.one (.int true .i64 (0))), (.one .nos), (.one (.int true .i64 (5)))]), []))
          (.br (decide (X.getD (2 : Nat) (0 : Int) < (128 : Int)))
           (.chk ((0 : Int) ≤
    IntKind.i64.wrap (IntKind.i64.wrap (IntKind.i64.wrap ((0 : Int) + (1 : Int)) + (1 : Int)) + (1 : Int)) ∧
  IntKind.i64.wrap (IntKind.i64.wrap (IntKind.i64.wrap ((0 : Int) + (1 : Int)) + (1 : Int)) + (1 : Int)) ≤ (↑n : Int) ∧
    (↑n : Int) ≤ (↑n : Int) ∧ n ≤ cap)
           (.leaf ((.tuple [(.one (.int false .i64 (bits BinOp.or IntKind.i64
  (bits BinOp.or IntKind.i64
    (bits BinOp.or IntKind.i64 (0 : Int)
      (IntKind.i64.wrap
        (IntKind.i64.wrap ((X.getD (0 : Nat) (0 : Int)).tmod (128 : Int)) * (2 : Int) ^ (0 : Nat))))
    (IntKind.i64.wrap (IntKind.i64.wrap ((X.getD (1 : Nat) (0 : Int)).tmod (128 : Int)) * (2 : Int) ^ (7 : Nat))))
  (IntKind.i64.wrap (IntKind.i64.wrap ((X.getD (2 : Nat) (0 : Int)).tmod (128 : Int)) * (2 : Int) ^ (14 : Nat)))))), (.one (.xr (sym.cutA A cap (3 : Nat) [IntKind.u8].length) ([IntKind.u8]) (sym.cutL X (3 : Nat) n [IntKind.u8].length) (n - (3 : Nat)) (cap - (3 : Nat)))), (.one (.int true .i64 (0)))]), [])))
           (.br (decide
  (IntKind.i64.wrap (IntKind.i64.wrap (IntKind.i64.wrap ((0 : Int) + (1 : Int)) + (1 : Int)) + (1 : Int)) ≥ (↑n : Int)))
            (.leaf ((.tuple [(.one (.int true .i64 (0))), (.one .nos), (.one (.int true .i64 (2)))]), []))
            (.chk (sym.XR w A [IntKind.u8] X n ∧
  (0 : Int) ≤
      IntKind.i64.wrap (IntKind.i64.wrap (IntKind.i64.wrap ((0 : Int) + (1 : Int)) + (1 : Int)) + (1 : Int)) ∧
    IntKind.i64.wrap (IntKind.i64.wrap (IntKind.i64.wrap ((0 : Int) + (1 : Int)) + (1 : Int)) + (1 : Int)) <
        (↑n : Int) ∧
      (0 : Nat) < [IntKind.u8].length)
            (.chk (sym.XC w A [IntKind.u8] X ∧ (0 : Nat) < (1 : Nat) ∧ (4 : Nat) ≤ X.length)
            (.br (decide (X.getD (3 : Nat) (0 : Int) < (128 : Int)))
             (.br (X.getD (3 : Nat) (0 : Int) == (0 : Int))
              (.leaf ((.tuple [(.one (.int true .i64 (0))), (.one .nos), (.one (.int true .i64 (5)))]), []))
              (.br (decide (X.getD (3 : Nat) (0 : Int) < (128 : Int)))
               (.chk ((0 : Int) ≤
    IntKind.i64.wrap
      (IntKind.i64.wrap (IntKind.i64.wrap (IntKind.i64.wrap ((0 : Int) + (1 : Int)) + (1 : Int)) + (1 : Int)) +
        (1 : Int)) ∧
  IntKind.i64.wrap
        (IntKind.i64.wrap
            (IntKind.i64.wrap (IntKind.i64.wrap ((0 : Int) + (1 : Int)) + (1 : Int)) + (1 : Int)) +
          (1 : Int)) ≤
      (↑n : Int) ∧
    (↑n : Int) ≤ (↑n : Int) ∧ n ≤ cap)
               (.leaf ((.tuple [(.one (.int false .i64 (bits BinOp.or IntKind.i64
  (bits BinOp.or IntKind.i64
    (bits BinOp.or IntKind.i64
      (bits BinOp.or IntKind.i64 (0 : Int)
        (IntKind.i64.wrap
          (IntKind.i64.wrap ((X.getD (0 : Nat) (0 : Int)).tmod (128 : Int)) * (2 : Int) ^ (0 : Nat))))
      (IntKind.i64.wrap
        (IntKind.i64.wrap ((X.getD (1 : Nat) (0 : Int)).tmod (128 : Int)) * (2 : Int) ^ (7 : Nat))))
    (IntKind.i64.wrap
      (IntKind.i64.wrap ((X.getD (2 : Nat) (0 : Int)).tmod (128 : Int)) * (2 : Int) ^ (14 : Nat))))
  (IntKind.i64.wrap (IntKind.i64.wrap ((X.getD (3 : Nat) (0 : Int)).tmod (128 : Int)) * (2 : Int) ^ (21 : Nat)))))), (.one (.xr (sym.cutA A cap (4 : Nat) [IntKind.u8].length) ([IntKind.u8]) (sym.cutL X (4 : Nat) n [IntKind.u8].length) (n - (4 : Nat)) (cap - (4 : Nat)))), (.one (.int true .i64 (0)))]), [])))
               (.leaf ((.tuple [(.one (.int true .i64 (0))), (.one .nos), (.one (.int true .i64 (5)))]), []))))
             (.br (decide (X.getD (3 : Nat) (0 : Int) < (128 : Int)))
              (.chk ((0 : Int) ≤
    IntKind.i64.wrap
      (IntKind.i64.wrap (IntKind.i64.wrap (IntKind.i64.wrap ((0 : Int) + (1 : Int)) + (1 : Int)) + (1 : Int)) +
        (1 : Int)) ∧
  IntKind.i64.wrap
        (IntKind.i64.wrap
            (IntKind.i64.wrap (IntKind.i64.wrap ((0 : Int) + (1 : Int)) + (1 : Int)) + (1 : Int)) +
          (1 : Int)) ≤
      (↑n : Int) ∧
    (↑n : Int) ≤ (↑n : Int) ∧ n ≤ cap)
              (.leaf ((.tuple [(.one (.int false .i64 (bits BinOp.or IntKind.i64
  (bits BinOp.or IntKind.i64
    (bits BinOp.or IntKind.i64
      (bits BinOp.or IntKind.i64 (0 : Int)
        (IntKind.i64.wrap
          (IntKind.i64.wrap ((X.getD (0 : Nat) (0 : Int)).tmod (128 : Int)) * (2 : Int) ^ (0 : Nat))))
      (IntKind.i64.wrap
        (IntKind.i64.wrap ((X.getD (1 : Nat) (0 : Int)).tmod (128 : Int)) * (2 : Int) ^ (7 : Nat))))
    (IntKind.i64.wrap
      (IntKind.i64.wrap ((X.getD (2 : Nat) (0 : Int)).tmod (128 : Int)) * (2 : Int) ^ (14 : Nat))))
  (IntKind.i64.wrap (IntKind.i64.wrap ((X.getD (3 : Nat) (0 : Int)).tmod (128 : Int)) * (2 : Int) ^ (21 : Nat)))))), (.one (.xr (sym.cutA A cap (4 : Nat) [IntKind.u8].length) ([IntKind.u8]) (sym.cutL X (4 : Nat) n [IntKind.u8].length) (n - (4 : Nat)) (cap - (4 : Nat)))), (.one (.int true .i64 (0)))]), [])))
              (.leaf ((.tuple [(.one (.int true .i64 (0))), (.one .nos), (.one (.int true .i64 (5)))]), [])))))))))
         (.br (decide (X.getD (2 : Nat) (0 : Int) < (128 : Int)))
          (.chk ((0 : Int) ≤
    IntKind.i64.wrap (IntKind.i64.wrap (IntKind.i64.wrap ((0 : Int) + (1 : Int)) + (1 : Int)) + (1 : Int)) ∧
  IntKind.i64.wrap (IntKind.i64.wrap (IntKind.i64.wrap ((0 : Int) + (1 : Int)) + (1 : Int)) + (1 : Int)) ≤ (↑n : Int) ∧
    (↑n : Int) ≤ (↑n : Int) ∧ n ≤ cap)
          (.leaf ((.tuple [(.one (.int false .i64 (bits BinOp.or IntKind.i64
  (bits BinOp.or IntKind.i64
    (bits BinOp.or IntKind.i64 (0 : Int)
      (IntKind.i64.wrap
        (IntKind.i64.wrap ((X.getD (0 : Nat) (0 : Int)).tmod (128 : Int)) * (2 : Int) ^ (0 : Nat))))
    (IntKind.i64.wrap (IntKind.i64.wrap ((X.getD (1 : Nat) (0 : Int)).tmod (128 : Int)) * (2 : Int) ^ (7 : Nat))))
  (IntKind.i64.wrap (IntKind.i64.wrap ((X.getD (2 : Nat) (0 : Int)).tmod (128 : Int)) * (2 : Int) ^ (14 : Nat)))))), (.one (.xr (sym.cutA A cap (3 : Nat) [IntKind.u8].length) ([IntKind.u8]) (sym.cutL X (3 : Nat) n [IntKind.u8].length) (n - (3 : Nat)) (cap - (3 : Nat)))), (.one (.int true .i64 (0)))]), [])))
          (.br (decide
  (IntKind.i64.wrap (IntKind.i64.wrap (IntKind.i64.wrap ((0 : Int) + (1 : Int)) + (1 : Int)) + (1 : Int)) ≥ (↑n : Int)))
           (.leaf ((.tuple [(.one (.int true .i64 (0))), (.one .nos), (.one (.int true .i64 (2)))]), []))
           (.chk (sym.XR w A [IntKind.u8] X n ∧
  (0 : Int) ≤
      IntKind.i64.wrap (IntKind.i64.wrap (IntKind.i64.wrap ((0 : Int) + (1 : Int)) + (1 : Int)) + (1 : Int)) ∧
    IntKind.i64.wrap (IntKind.i64.wrap (IntKind.i64.wrap ((0 : Int) + (1 : Int)) + (1 : Int)) + (1 : Int)) <
        (↑n : Int) ∧
      (0 : Nat) < [IntKind.u8].length)
           (.chk (sym.XC w A [IntKind.u8] X ∧ (0 : Nat) < (1 : Nat) ∧ (4 : Nat) ≤ X.length)
           (.br (decide (X.getD (3 : Nat) (0 : Int) < (128 : Int)))
            (.br (X.getD (3 : Nat) (0 : Int) == (0 : Int))
             (.leaf ((.tuple [(.one (.int true .i64 (0))), (.one .nos), (.one (.int true .i64 (5)))]), []))
             (.br (decide (X.getD (3 : Nat) (0 : Int) < (128 : Int)))
              (.chk ((0 : Int) ≤
    IntKind.i64.wrap
      (IntKind.i64.wrap (IntKind.i64.wrap (IntKind.i64.wrap ((0 : Int) + (1 : Int)) + (1 : Int)) + (1 : Int)) +
        (1 : Int)) ∧
  IntKind.i64.wrap
        (IntKind.i64.wrap
            (IntKind.i64.wrap (IntKind.i64.wrap ((0 : Int) + (1 : Int)) + (1 : Int)) + (1 : Int)) +
          (1 : Int)) ≤
      (↑n : Int) ∧
    (↑n : Int) ≤ (↑n : Int) ∧ n ≤ cap)
              (.leaf ((.tuple [(.one (.int false .i64 (bits BinOp.or IntKind.i64
  (bits BinOp.or IntKind.i64
    (bits BinOp.or IntKind.i64
      (bits BinOp.or IntKind.i64 (0 : Int)
        (IntKind.i64.wrap
          (IntKind.i64.wrap ((X.getD (0 : Nat) (0 : Int)).tmod (128 : Int)) * (2 : Int) ^ (0 : Nat))))
      (IntKind.i64.wrap
        (IntKind.i64.wrap ((X.getD (1 : Nat) (0 : Int)).tmod (128 : Int)) * (2 : Int) ^ (7 : Nat))))
    (IntKind.i64.wrap
      (IntKind.i64.wrap ((X.getD (2 : Nat) (0 : Int)).tmod (128 : Int)) * (2 : Int) ^ (14 : Nat))))
  (IntKind.i64.wrap (IntKind.i64.wrap ((X.getD (3 : Nat) (0 : Int)).tmod (128 : Int)) * (2 : Int) ^ (21 : Nat)))))), (.one (.xr (sym.cutA A cap (4 : Nat) [IntKind.u8].length) ([IntKind.u8]) (sym.cutL X (4 : Nat) n [IntKind.u8].length) (n - (4 : Nat)) (cap - (4 : Nat)))), (.one (.int true .i64 (0)))]), [])))
              (.leaf ((.tuple [(.one (.int true .i64 (0))), (.one .nos), (.one (.int true .i64 (5)))]), []))))
            (.br (decide (X.getD (3 : Nat) (0 : Int) < (128 : Int)))
             (.chk ((0 : Int) ≤
    IntKind.i64.wrap
      (IntKind.i64.wrap (IntKind.i64.wrap (IntKind.i64.wrap ((0 : Int) + (1 : Int)) + (1 : Int)) + (1 : Int)) +
        (1 : Int)) ∧
  IntKind.i64.wrap
        (IntKind.i64.wrap
            (IntKind.i64.wrap (IntKind.i64.wrap ((0 : Int) + (1 : Int)) + (1 : Int)) + (1 : Int)) +
          (1 : Int)) ≤
      (↑n : Int) ∧
    (↑n : Int) ≤ (↑n : Int) ∧ n ≤ cap)
             (.leaf ((.tuple [(.one (.int false .i64 (bits BinOp.or IntKind.i64
  (bits BinOp.or IntKind.i64
    (bits BinOp.or IntKind.i64
      (bits BinOp.or IntKind.i64 (0 : Int)
        (IntKind.i64.wrap
          (IntKind.i64.wrap ((X.getD (0 : Nat) (0 : Int)).tmod (128 : Int)) * (2 : Int) ^ (0 : Nat))))
      (IntKind.i64.wrap
        (IntKind.i64.wrap ((X.getD (1 : Nat) (0 : Int)).tmod (128 : Int)) * (2 : Int) ^ (7 : Nat))))
    (IntKind.i64.wrap
      (IntKind.i64.wrap ((X.getD (2 : Nat) (0 : Int)).tmod (128 : Int)) * (2 : Int) ^ (14 : Nat))))
  (IntKind.i64.wrap (IntKind.i64.wrap ((X.getD (3 : Nat) (0 : Int)).tmod (128 : Int)) * (2 : Int) ^ (21 : Nat)))))), (.one (.xr (sym.cutA A cap (4 : Nat) [IntKind.u8].length) ([IntKind.u8]) (sym.cutL X (4 : Nat) n [IntKind.u8].length) (n - (4 : Nat)) (cap - (4 : Nat)))), (.one (.int true .i64 (0)))]), [])))
             (.leaf ((.tuple [(.one (.int true .i64 (0))), (.one .nos), (.one (.int true .i64 (5)))]), []))))))))))))))
     (.br (decide (X.getD (1 : Nat) (0 : Int) < (128 : Int)))
      (.chk ((0 : Int) ≤ IntKind.i64.wrap (IntKind.i64.wrap ((0 : Int) + (1 : Int)) + (1 : Int)) ∧
  IntKind.i64.wrap (IntKind.i64.wrap ((0 : Int) + (1 : Int)) + (1 : Int)) ≤ (↑n : Int) ∧ (↑n : Int) ≤ (↑n : Int) ∧ n ≤ cap)
      (.leaf ((.tuple [(.one (.int false .i64 (bits BinOp.or IntKind.i64
  (bits BinOp.or IntKind.i64 (0 : Int)
    (IntKind.i64.wrap (IntKind.i64.wrap ((X.getD (0 : Nat) (0 : Int)).tmod (128 : Int)) * (2 : Int) ^ (0 : Nat))))
  (IntKind.i64.wrap (IntKind.i64.wrap ((X.getD (1 : Nat) (0 : Int)).tmod (128 : Int)) * (2 : Int) ^ (7 : Nat)))))), (.one (.xr (sym.cutA A cap (2 : Nat) [IntKind.u8].length) ([IntKind.u8]) (sym.cutL X (2 : Nat) n [IntKind.u8].length) (n - (2 : Nat)) (cap - (2 : Nat)))), (.one (.int true .i64 (0)))]), [])))
      (.br (decide (IntKind.i64.wrap (IntKind.i64.wrap ((0 : Int) + (1 : Int)) + (1 : Int)) ≥ (↑n : Int)))
       (.leaf ((.tuple [(.one (.int true .i64 (0))), (.one .nos), (.one (.int true .i64 (2)))]), []))
       (.chk (sym.XR w A [IntKind.u8] X n ∧
  (0 : Int) ≤ IntKind.i64.wrap (IntKind.i64.wrap ((0 : Int) + (1 : Int)) + (1 : Int)) ∧
    IntKind.i64.wrap (IntKind.i64.wrap ((0 : Int) + (1 : Int)) + (1 : Int)) < (↑n : Int) ∧
      (0 : Nat) < [IntKind.u8].length)
       (.chk (sym.XC w A [IntKind.u8] X ∧ (0 : Nat) < (1 : Nat) ∧ (3 : Nat) ≤ X.length)
       (.br (decide (X.getD (2 : Nat) (0 : Int) < (128 : Int)))
        (.br (X.getD (2 : Nat) (0 : Int) == (0 : Int))
         (.leaf ((.tuple [(.one (.int true .i64 (0))), (.one .nos), (.one (.int true .i64 (5)))]), []))
         (.br (decide (X.getD (2 : Nat) (0 : Int) < (128 : Int)))
          (.chk ((0 : Int) ≤
    IntKind.i64.wrap (IntKind.i64.wrap (IntKind.i64.wrap ((0 : Int) + (1 : Int)) + (1 : Int)) + (1 : Int)) ∧
  IntKind.i64.wrap (IntKind.i64.wrap (IntKind.i64.wrap ((0 : Int) + (1 : Int)) + (1 : Int)) + (1 : Int)) ≤ (↑n : Int) ∧
    (↑n : Int) ≤ (↑n : Int) ∧ n ≤ cap)
          (.leaf ((.tuple [(.one (.int false .i64 (bits BinOp.or IntKind.i64
  (bits BinOp.or IntKind.i64
    (bits BinOp.or IntKind.i64 (0 : Int)
      (IntKind.i64.wrap
        (IntKind.i64.wrap ((X.getD (0 : Nat) (0 : Int)).tmod (128 : Int)) * (2 : Int) ^ (0 : Nat))))
    (IntKind.i64.wrap (IntKind.i64.wrap ((X.getD (1 : Nat) (0 : Int)).tmod (128 : Int)) * (2 : Int) ^ (7 : Nat))))
  (IntKind.i64.wrap (IntKind.i64.wrap ((X.getD (2 : Nat) (0 : Int)).tmod (128 : Int)) * (2 : Int) ^ (14 : Nat)))))), (.one (.xr (sym.cutA A cap (3 : Nat) [IntKind.u8].length) ([IntKind.u8]) (sym.cutL X (3 : Nat) n [IntKind.u8].length) (n - (3 : Nat)) (cap - (3 : Nat)))), (.one (.int true .i64 (0)))]), [])))
          (.br (decide
  (IntKind.i64.wrap (IntKind.i64.wrap (IntKind.i64.wrap ((0 : Int) + (1 : Int)) + (1 : Int)) + (1 : Int)) ≥ (↑n : Int)))
           (.leaf ((.tuple [(.one (.int true .i64 (0))), (.one .nos), (.one (.int true .i64 (2)))]), []))
           (.chk (sym.XR w A [IntKind.u8] X n ∧
  (0 : Int) ≤
      IntKind.i64.wrap (IntKind.i64.wrap (IntKind.i64.wrap ((0 : Int) + (1 : Int)) + (1 : Int)) + (1 : Int)) ∧
    IntKind.i64.wrap (IntKind.i64.wrap (IntKind.i64.wrap ((0 : Int) + (1 : Int)) + (1 : Int)) + (1 : Int)) <
        (↑n : Int) ∧
      (0 : Nat) < [IntKind.u8].length)
           (.chk (sym.XC w A [IntKind.u8] X ∧ (0 : Nat) < (1 : Nat) ∧ (4 : Nat) ≤ X.length)
           (.br (decide (X.getD (3 : Nat) (0 : Int) < (128 : Int)))
            (.br (X.getD (3 : Nat) (0 : Int) == (0 : Int))
             (.leaf ((.tuple [(.one (.int true .i64 (0))), (.one .nos), (.one (.int true .i64 (5)))]), []))
             (.br (decide (X.getD (3 : Nat) (0 : Int) < (128 : Int)))
              (.chk ((0 : Int) ≤
    IntKind.i64.wrap
      (IntKind.i64.wrap (IntKind.i64.wrap (IntKind.i64.wrap ((0 : Int) + (1 : Int)) + (1 : Int)) + (1 : Int)) +
        (1 : Int)) ∧
  IntKind.i64.wrap
        (IntKind.i64.wrap
            (IntKind.i64.wrap (IntKind.i64.wrap ((0 : Int) + (1 : Int)) + (1 : Int)) + (1 : Int)) +
          (1 : Int)) ≤
      (↑n : Int) ∧
    (↑n : Int) ≤ (↑n : Int) ∧ n ≤ cap)
              (.leaf ((.tuple [(.one (.int false .i64 (bits BinOp.or IntKind.i64
  (bits BinOp.or IntKind.i64
    (bits BinOp.or IntKind.i64
      (bits BinOp.or IntKind.i64 (0 : Int)
        (IntKind.i64.wrap
          (IntKind.i64.wrap ((X.getD (0 : Nat) (0 : Int)).tmod (128 : Int)) * (2 : Int) ^ (0 : Nat))))
      (IntKind.i64.wrap
        (IntKind.i64.wrap ((X.getD (1 : Nat) (0 : Int)).tmod (128 : Int)) * (2 : Int) ^ (7 : Nat))))
    (IntKind.i64.wrap
      (IntKind.i64.wrap ((X.getD (2 : Nat) (0 : Int)).tmod (128 : Int)) * (2 : Int) ^ (14 : Nat))))
  (IntKind.i64.wrap (IntKind.i64.wrap ((X.getD (3 : Nat) (0 : Int)).tmod (128 : Int)) * (2 : Int) ^ (21 : Nat)))))), (.one (.xr (sym.cutA A cap (4 : Nat) [IntKind.u8].length) ([IntKind.u8]) (sym.cutL X (4 : Nat) n [IntKind.u8].length) (n - (4 : Nat)) (cap - (4 : Nat)))), (.one (.int true .i64 (0)))]), [])))
              (.leaf ((.tuple [(.one (.int true .i64 (0))), (.one .nos), (.one (.int true .i64 (5)))]), []))))
            (.br (decide (X.getD (3 : Nat) (0 : Int) < (128 : Int)))
             (.chk ((0 : Int) ≤
    IntKind.i64.wrap
      (IntKind.i64.wrap (IntKind.i64.wrap (IntKind.i64.wrap ((0 : Int) + (1 : Int)) + (1 : Int)) + (1 : Int)) +
        (1 : Int)) ∧
  IntKind.i64.wrap
        (IntKind.i64.wrap
            (IntKind.i64.wrap (IntKind.i64.wrap ((0 : Int) + (1 : Int)) + (1 : Int)) + (1 : Int)) +
          (1 : Int)) ≤
      (↑n : Int) ∧
    (↑n : Int) ≤ (↑n : Int) ∧ n ≤ cap)
             (.leaf ((.tuple [(.one (.int false .i64 (bits BinOp.or IntKind.i64
  (bits BinOp.or IntKind.i64
    (bits BinOp.or IntKind.i64
      (bits BinOp.or IntKind.i64 (0 : Int)
        (IntKind.i64.wrap
          (IntKind.i64.wrap ((X.getD (0 : Nat) (0 : Int)).tmod (128 : Int)) * (2 : Int) ^ (0 : Nat))))
      (IntKind.i64.wrap
        (IntKind.i64.wrap ((X.getD (1 : Nat) (0 : Int)).tmod (128 : Int)) * (2 : Int) ^ (7 : Nat))))
    (IntKind.i64.wrap
      (IntKind.i64.wrap ((X.getD (2 : Nat) (0 : Int)).tmod (128 : Int)) * (2 : Int) ^ (14 : Nat))))
  (IntKind.i64.wrap (IntKind.i64.wrap ((X.getD (3 : Nat) (0 : Int)).tmod (128 : Int)) * (2 : Int) ^ (21 : Nat)))))), (.one (.xr (sym.cutA A cap (4 : Nat) [IntKind.u8].length) ([IntKind.u8]) (sym.cutL X (4 : Nat) n [IntKind.u8].length) (n - (4 : Nat)) (cap - (4 : Nat)))), (.one (.int true .i64 (0)))]), [])))
             (.leaf ((.tuple [(.one (.int true .i64 (0))), (.one .nos), (.one (.int true .i64 (5)))]), [])))))))))
        (.br (decide (X.getD (2 : Nat) (0 : Int) < (128 : Int)))
         (.chk ((0 : Int) ≤
    IntKind.i64.wrap (IntKind.i64.wrap (IntKind.i64.wrap ((0 : Int) + (1 : Int)) + (1 : Int)) + (1 : Int)) ∧
  IntKind.i64.wrap (IntKind.i64.wrap (IntKind.i64.wrap ((0 : Int) + (1 : Int)) + (1 : Int)) + (1 : Int)) ≤ (↑n : Int) ∧
    (↑n : Int) ≤ (↑n : Int) ∧ n ≤ cap)
         (.leaf ((.tuple [(.one (.int false .i64 (bits BinOp.or IntKind.i64
  (bits BinOp.or IntKind.i64
    (bits BinOp.or IntKind.i64 (0 : Int)
      (IntKind.i64.wrap
        (IntKind.i64.wrap ((X.getD (0 : Nat) (0 : Int)).tmod (128 : Int)) * (2 : Int) ^ (0 : Nat))))
    (IntKind.i64.wrap (IntKind.i64.wrap ((X.getD (1 : Nat) (0 : Int)).tmod (128 : Int)) * (2 : Int) ^ (7 : Nat))))
  (IntKind.i64.wrap (IntKind.i64.wrap ((X.getD (2 : Nat) (0 : Int)).tmod (128 : Int)) * (2 : Int) ^ (14 : Nat)))))), (.one (.xr (sym.cutA A cap (3 : Nat) [IntKind.u8].length) ([IntKind.u8]) (sym.cutL X (3 : Nat) n [IntKind.u8].length) (n - (3 : Nat)) (cap - (3 : Nat)))), (.one (.int true .i64 (0)))]), [])))
         (.br (decide
  (IntKind.i64.wrap (IntKind.i64.wrap (IntKind.i64.wrap ((0 : Int) + (1 : Int)) + (1 : Int)) + (1 : Int)) ≥ (↑n : Int)))
          (.leaf ((.tuple [(.one (.int true .i64 (0))), (.one .nos), (.one (.int true .i64 (2)))]), []))
          (.chk (sym.XR w A [IntKind.u8] X n ∧
  (0 : Int) ≤
      IntKind.i64.wrap (IntKind.i64.wrap (IntKind.i64.wrap ((0 : Int) + (1 : Int)) + (1 : Int)) + (1 : Int)) ∧
    IntKind.i64.wrap (IntKind.i64.wrap (IntKind.i64.wrap ((0 : Int) + (1 : Int)) + (1 : Int)) + (1 : Int)) <
        (↑n : Int) ∧
      (0 : Nat) < [IntKind.u8].length)
          (.chk (sym.XC w A [IntKind.u8] X ∧ (0 : Nat) < (1 : Nat) ∧ (4 : Nat) ≤ X.length)
          (.br (decide (X.getD (3 : Nat) (0 : Int) < (128 : Int)))
           (.br (X.getD (3 : Nat) (0 : Int) == (0 : Int))
            (.leaf ((.tuple [(.one (.int true .i64 (0))), (.one .nos), (.one (.int true .i64 (5)))]), []))
            (.br (decide (X.getD (3 : Nat) (0 : Int) < (128 : Int)))
             (.chk ((0 : Int) ≤
    IntKind.i64.wrap
      (IntKind.i64.wrap (IntKind.i64.wrap (IntKind.i64.wrap ((0 : Int) + (1 : Int)) + (1 : Int)) + (1 : Int)) +
        (1 : Int)) ∧
  IntKind.i64.wrap
        (IntKind.i64.wrap
            (IntKind.i64.wrap (IntKind.i64.wrap ((0 : Int) + (1 : Int)) + (1 : Int)) + (1 : Int)) +
          (1 : Int)) ≤
      (↑n : Int) ∧
    (↑n : Int) ≤ (↑n : Int) ∧ n ≤ cap)
             (.leaf ((.tuple [(.one (.int false .i64 (bits BinOp.or IntKind.i64
  (bits BinOp.or IntKind.i64
    (bits BinOp.or IntKind.i64
      (bits BinOp.or IntKind.i64 (0 : Int)
        (IntKind.i64.wrap
          (IntKind.i64.wrap ((X.getD (0 : Nat) (0 : Int)).tmod (128 : Int)) * (2 : Int) ^ (0 : Nat))))
      (IntKind.i64.wrap
        (IntKind.i64.wrap ((X.getD (1 : Nat) (0 : Int)).tmod (128 : Int)) * (2 : Int) ^ (7 : Nat))))
    (IntKind.i64.wrap
      (IntKind.i64.wrap ((X.getD (2 : Nat) (0 : Int)).tmod (128 : Int)) * (2 : Int) ^ (14 : Nat))))
  (IntKind.i64.wrap (IntKind.i64.wrap ((X.getD (3 : Nat) (0 : Int)).tmod (128 : Int)) * (2 : Int) ^ (21 : Nat)))))), (.one (.xr (sym.cutA A cap (4 : Nat) [IntKind.u8].length) ([IntKind.u8]) (sym.cutL X (4 : Nat) n [IntKind.u8].length) (n - (4 : Nat)) (cap - (4 : Nat)))), (.one (.int true .i64 (0)))]), [])))
             (.leaf ((.tuple [(.one (.int true .i64 (0))), (.one .nos), (.one (.int true .i64 (5)))]), []))))
           (.br (decide (X.getD (3 : Nat) (0 : Int) < (128 : Int)))
            (.chk ((0 : Int) ≤
    IntKind.i64.wrap
      (IntKind.i64.wrap (IntKind.i64.wrap (IntKind.i64.wrap ((0 : Int) + (1 : Int)) + (1 : Int)) + (1 : Int)) +
        (1 : Int)) ∧
  IntKind.i64.wrap
        (IntKind.i64.wrap
            (IntKind.i64.wrap (IntKind.i64.wrap ((0 : Int) + (1 : Int)) + (1 : Int)) + (1 : Int)) +
          (1 : Int)) ≤
      (↑n : Int) ∧
    (↑n : Int) ≤ (↑n : Int) ∧ n ≤ cap)
            (.leaf ((.tuple [(.one (.int false .i64 (bits BinOp.or IntKind.i64
  (bits BinOp.or IntKind.i64
    (bits BinOp.or IntKind.i64
      (bits BinOp.or IntKind.i64 (0 : Int)
        (IntKind.i64.wrap
          (IntKind.i64.wrap ((X.getD (0 : Nat) (0 : Int)).tmod (128 : Int)) * (2 : Int) ^ (0 : Nat))))
      (IntKind.i64.wrap
        (IntKind.i64.wrap ((X.getD (1 : Nat) (0 : Int)).tmod (128 : Int)) * (2 : Int) ^ (7 : Nat))))
    (IntKind.i64.wrap
      (IntKind.i64.wrap ((X.getD (2 : Nat) (0 : Int)).tmod (128 : Int)) * (2 : Int) ^ (14 : Nat))))
  (IntKind.i64.wrap (IntKind.i64.wrap ((X.getD (3 : Nat) (0 : Int)).tmod (128 : Int)) * (2 : Int) ^ (21 : Nat)))))), (.one (.xr (sym.cutA A cap (4 : Nat) [IntKind.u8].length) ([IntKind.u8]) (sym.cutL X (4 : Nat) n [IntKind.u8].length) (n - (4 : Nat)) (cap - (4 : Nat)))), (.one (.int true .i64 (0)))]), [])))
            (.leaf ((.tuple [(.one (.int true .i64 (0))), (.one .nos), (.one (.int true .i64 (5)))]), [])))))))))))))))))))))) := by kernel_rfl
theorem read_tree (w : World) (A : Option Addr) (X : List Int) (n cap : Nat) :
    callT Try.prog w (flatT Try.prog) (noCtr) (noPre) (noLoop) 20 25 [.v (.one (.xr A [.u8] X n cap))] [] =
(.br (decide ((0 : Int) ≥ (↑n : Int)))
 (.leaf ((.tuple [(.one (.int true .i64 (0))), (.one (.int true .i64 (0))), (.one (.int true .i64 (2)))]), []))
 (.chk (sym.XR w A [IntKind.u8] X n ∧
  (0 : Int) ≤ (0 : Int) ∧ (0 : Int) < (↑n : Int) ∧ (0 : Nat) < [IntKind.u8].length)
 (.chk (sym.XC w A [IntKind.u8] X ∧ (0 : Nat) < (1 : Nat) ∧ (1 : Nat) ≤ X.length)
 (.chk (sym.XR w A [IntKind.u8] X n ∧
  (0 : Int) ≤ (0 : Int) ∧ (0 : Int) < (↑n : Int) ∧ (0 : Nat) < [IntKind.u8].length)
 (.chk (sym.XC w A [IntKind.u8] X ∧ (0 : Nat) < (1 : Nat) ∧ (1 : Nat) ≤ X.length)
 (.br (decide (X.getD (0 : Nat) (0 : Int) < (128 : Int)))
  (.leaf ((.tuple [(.one (.int false .i64 (IntKind.i64.wrap
  ((0 : Int) + IntKind.i64.wrap ((IntKind.i64.wrap (X.getD (0 : Nat) (0 : Int))).tmod (128 : Int) * (1 : Int)))))), (.one (.int true .i64 (1))), (.one (.int true .i64 (0)))]), []))
  (.br (decide (IntKind.i64.wrap ((0 : Int) + (1 : Int)) ≥ (↑n : Int)))
   (.leaf ((.tuple [(.one (.int true .i64 (0))), (.one (.int true .i64 (0))), (.one (.int true .i64 (2)))]), []))
   (.chk (sym.XR w A [IntKind.u8] X n ∧
  (0 : Int) ≤ IntKind.i64.wrap ((0 : Int) + (1 : Int)) ∧
    IntKind.i64.wrap ((0 : Int) + (1 : Int)) < (↑n : Int) ∧ (0 : Nat) < [IntKind.u8].length)
   (.chk (sym.XC w A [IntKind.u8] X ∧ (0 : Nat) < (1 : Nat) ∧ (2 : Nat) ≤ X.length)
   (.chk (sym.XR w A [IntKind.u8] X n ∧
  (0 : Int) ≤ IntKind.i64.wrap ((0 : Int) + (1 : Int)) ∧
    IntKind.i64.wrap ((0 : Int) + (1 : Int)) < (↑n : Int) ∧ (0 : Nat) < [IntKind.u8].length)
   (.chk (sym.XC w A [IntKind.u8] X ∧ (0 : Nat) < (1 : Nat) ∧ (2 : Nat) ≤ X.length)
   (.br (decide (X.getD (1 : Nat) (0 : Int) < (128 : Int)))
    (.chk (sym.XR w A [IntKind.u8] X n ∧
  (0 : Int) ≤ IntKind.i64.wrap ((0 : Int) + (1 : Int)) ∧
    IntKind.i64.wrap ((0 : Int) + (1 : Int)) < (↑n : Int) ∧ (0 : Nat) < [IntKind.u8].length)
    (.chk (sym.XC w A [IntKind.u8] X ∧ (0 : Nat) < (1 : Nat) ∧ (2 : Nat) ≤ X.length)
    (.br (X.getD (1 : Nat) (0 : Int) == (0 : Int))
     (.leaf ((.tuple [(.one (.int true .i64 (0))), (.one (.int true .i64 (0))), (.one (.int true .i64 (5)))]), []))
     (.leaf ((.tuple [(.one (.int false .i64 (IntKind.i64.wrap
  (IntKind.i64.wrap
      ((0 : Int) +
        IntKind.i64.wrap ((IntKind.i64.wrap (X.getD (0 : Nat) (0 : Int))).tmod (128 : Int) * (1 : Int))) +
    IntKind.i64.wrap
      ((IntKind.i64.wrap (X.getD (1 : Nat) (0 : Int))).tmod (128 : Int) *
        IntKind.i64.wrap ((1 : Int) * (128 : Int))))))), (.one (.int true .i64 (2))), (.one (.int true .i64 (0)))]), [])))))
    (.br (decide (IntKind.i64.wrap (IntKind.i64.wrap ((0 : Int) + (1 : Int)) + (1 : Int)) ≥ (↑n : Int)))
     (.leaf ((.tuple [(.one (.int true .i64 (0))), (.one (.int true .i64 (0))), (.one (.int true .i64 (2)))]), []))
     (.chk (sym.XR w A [IntKind.u8] X n ∧
  (0 : Int) ≤ IntKind.i64.wrap (IntKind.i64.wrap ((0 : Int) + (1 : Int)) + (1 : Int)) ∧
    IntKind.i64.wrap (IntKind.i64.wrap ((0 : Int) + (1 : Int)) + (1 : Int)) < (↑n : Int) ∧
      (0 : Nat) < [IntKind.u8].length)
     (.chk (sym.XC w A [IntKind.u8] X ∧ (0 : Nat) < (1 : Nat) ∧ (3 : Nat) ≤ X.length)
     (.chk (sym.XR w A [IntKind.u8] X n ∧
  (0 : Int) ≤ IntKind.i64.wrap (IntKind.i64.wrap ((0 : Int) + (1 : Int)) + (1 : Int)) ∧
    IntKind.i64.wrap (IntKind.i64.wrap ((0 : Int) + (1 : Int)) + (1 : Int)) < (↑n : Int) ∧
      (0 : Nat) < [IntKind.u8].length)
     (.chk (sym.XC w A [IntKind.u8] X ∧ (0 : Nat) < (1 : Nat) ∧ (3 : Nat) ≤ X.length)
     (.br (decide (X.getD (2 : Nat) (0 : Int) < (128 : Int)))
      (.chk (sym.XR w A [IntKind.u8] X n ∧
  (0 : Int) ≤ IntKind.i64.wrap (IntKind.i64.wrap ((0 : Int) + (1 : Int)) + (1 : Int)) ∧
    IntKind.i64.wrap (IntKind.i64.wrap ((0 : Int) + (1 : Int)) + (1 : Int)) < (↑n : Int) ∧
      (0 : Nat) < [IntKind.u8].length)
      (.chk (sym.XC w A [IntKind.u8] X ∧ (0 : Nat) < (1 : Nat) ∧ (3 : Nat) ≤ X.length)
      (.br (X.getD (2 : Nat) (0 : Int) == (0 : Int))
       (.leaf ((.tuple [(.one (.int true .i64 (0))), (.one (.int true .i64 (0))), (.one (.int true .i64 (5)))]), []))
       (.leaf ((.tuple [(.one (.int false .i64 (IntKind.i64.wrap
  (IntKind.i64.wrap
      (IntKind.i64.wrap
          ((0 : Int) +
            IntKind.i64.wrap ((IntKind.i64.wrap (X.getD (0 : Nat) (0 : Int))).tmod (128 : Int) * (1 : Int))) +
        IntKind.i64.wrap
          ((IntKind.i64.wrap (X.getD (1 : Nat) (0 : Int))).tmod (128 : Int) *
            IntKind.i64.wrap ((1 : Int) * (128 : Int)))) +
    IntKind.i64.wrap
      ((IntKind.i64.wrap (X.getD (2 : Nat) (0 : Int))).tmod (128 : Int) *
        IntKind.i64.wrap (IntKind.i64.wrap ((1 : Int) * (128 : Int)) * (128 : Int))))))), (.one (.int true .i64 (3))), (.one (.int true .i64 (0)))]), [])))))
      (.br (decide
  (IntKind.i64.wrap (IntKind.i64.wrap (IntKind.i64.wrap ((0 : Int) + (1 : Int)) + (1 : Int)) + (1 : Int)) ≥ (↑n : Int)))
       (.leaf ((.tuple [(.one (.int true .i64 (0))), (.one (.int true .i64 (0))), (.one (.int true .i64 (2)))]), []))
       (.chk (sym.XR w A [IntKind.u8] X n ∧
  (0 : Int) ≤
      IntKind.i64.wrap (IntKind.i64.wrap (IntKind.i64.wrap ((0 : Int) + (1 : Int)) + (1 : Int)) + (1 : Int)) ∧
    IntKind.i64.wrap (IntKind.i64.wrap (IntKind.i64.wrap ((0 : Int) + (1 : Int)) + (1 : Int)) + (1 : Int)) <
        (↑n : Int) ∧
      (0 : Nat) < [IntKind.u8].length)
       (.chk (sym.XC w A [IntKind.u8] X ∧ (0 : Nat) < (1 : Nat) ∧ (4 : Nat) ≤ X.length)
       (.chk (sym.XR w A [IntKind.u8] X n ∧
  (0 : Int) ≤
      IntKind.i64.wrap (IntKind.i64.wrap (IntKind.i64.wrap ((0 : Int) + (1 : Int)) + (1 : Int)) + (1 : Int)) ∧
    IntKind.i64.wrap (IntKind.i64.wrap (IntKind.i64.wrap ((0 : Int) + (1 : Int)) + (1 : Int)) + (1 : Int)) <
        (↑n : Int) ∧
      (0 : Nat) < [IntKind.u8].length)
       (.chk (sym.XC w A [IntKind.u8] X ∧ (0 : Nat) < (1 : Nat) ∧ (4 : Nat) ≤ X.length)
       (.br (decide (X.getD (3 : Nat) (0 : Int) < (128 : Int)))
        (.chk (sym.XR w A [IntKind.u8] X n ∧
  (0 : Int) ≤
      IntKind.i64.wrap (IntKind.i64.wrap (IntKind.i64.wrap ((0 : Int) + (1 : Int)) + (1 : Int)) + (1 : Int)) ∧
    IntKind.i64.wrap (IntKind.i64.wrap (IntKind.i64.wrap ((0 : Int) + (1 : Int)) + (1 : Int)) + (1 : Int)) <
        (↑n : Int) ∧
      (0 : Nat) < [IntKind.u8].length)
        (.chk (sym.XC w A [IntKind.u8] X ∧ (0 : Nat) < (1 : Nat) ∧ (4 : Nat) ≤ X.length)
        (.br (X.getD (3 : Nat) (0 : Int) == (0 : Int))
         (.leaf ((.tuple [(.one (.int true .i64 (0))), (.one (.int true .i64 (0))), (.one (.int true .i64 (5)))]), []))
         (.leaf ((.tuple [(.one (.int false .i64 (IntKind.i64.wrap
  (IntKind.i64.wrap
      (IntKind.i64.wrap
          (IntKind.i64.wrap
              ((0 : Int) +
                IntKind.i64.wrap ((IntKind.i64.wrap (X.getD (0 : Nat) (0 : Int))).tmod (128 : Int) * (1 : Int))) +
            IntKind.i64.wrap
              ((IntKind.i64.wrap (X.getD (1 : Nat) (0 : Int))).tmod (128 : Int) *
                IntKind.i64.wrap ((1 : Int) * (128 : Int)))) +
        IntKind.i64.wrap
          ((IntKind.i64.wrap (X.getD (2 : Nat) (0 : Int))).tmod (128 : Int) *
            IntKind.i64.wrap (IntKind.i64.wrap ((1 : Int) * (128 : Int)) * (128 : Int)))) +
    IntKind.i64.wrap
      ((IntKind.i64.wrap (X.getD (3 : Nat) (0 : Int))).tmod (128 : Int) *
        IntKind.i64.wrap
          (IntKind.i64.wrap (IntKind.i64.wrap ((1 : Int) * (128 : Int)) * (128 : Int)) * (128 : Int))))))), (.one (.int true .i64 (4))), (.one (.int true .i64 (0)))]), [])))))
        (.leaf ((.tuple [(.one (.int true .i64 (0))), (.one (.int true .i64 (0))), (.one (.int true .i64 (5)))]), [])))))))))))))))))))))))))) := by kernel_rfl
theorem clone_tree (w : World) (A : Option Addr) (X : List Int) (n cap : Nat) :
    callT Try.prog w (flatT Try.prog) (noCtr) (noPre) (noLoop) 20 26 [.v (.one (.xr A [.u8] X n cap))] [] =
(.br (A.isNone)
 (.leaf ((.v (.one .nos)), []))
 (.chk ((sym.XR w A [IntKind.u8] X n ∧ n ≤ cap) ∧
  True ∧ ((0 : Nat) + n) * (1 : Nat) ≤ (140737488355328 : Nat))
 (.all fun x : sym.Grown false n ((0 : Nat) + n) =>
  (.leaf ((.v (.one (.gs 1 (x.nl') 1 0 ((0 : Nat) + n) (x.cap)))), [⟨[.dead], 5⟩, ⟨[(.row (x.nl') ([IntKind.u8]) ([] ++ X) (x.cap))], 5⟩]))))) := by kernel_rfl
theorem equal_tree (w : World) (A : Option Addr) (X : List Int) (n cap : Nat) (A2 : Option Addr) (Y : List Int) (m cap2 : Nat) :
    callT Try.prog w (flatT Try.prog) (noCtr) (noPre) (noLoop) 20 24 [.v (.one (.xr A [.u8] X n cap)), .v (.one (.xr A2 [.u8] Y m cap2))] [] =
(.chk (sym.XR w A [IntKind.u8] X n)
(.chk (sym.XR w A2 [IntKind.u8] Y m)
(.leaf ((.v (.one (.bool false ((sym.strOf X).toList == (sym.strOf Y).toList)))), [])))) := by kernel_rfl
theorem gv_eq {X : List Int} (h : Bs X) (j : Nat) : X.getD j 0 = (gv X j : Int) := by
  have := (h j).1
  unfold gv
  omega
theorem gv_lt {X : List Int} (h : Bs X) (j : Nat) : gv X j < 256 := by
  have := h j
  unfold gv
  omega
theorem gv_end {X : List Int} {j : Nat} (h : X.length ≤ j) : gv X j = 0 := by
  unfold gv
  rw [List.getD_eq_getElem?_getD, List.getElem?_eq_none h]
  rfl
theorem gN_1 {X : List Int} (h : gK X = 1) : gN X = gv X 0 % 128 := by unfold gN; rw [h]; simp
theorem gN_2 {X : List Int} (h : gK X = 2) : gN X = gv X 0 % 128 + gv X 1 % 128 * 128 := by unfold gN; rw [h]; simp
theorem gN_3 {X : List Int} (h : gK X = 3) : gN X = gv X 0 % 128 + gv X 1 % 128 * 128 + gv X 2 % 128 * 16384 := by unfold gN; rw [h]; simp
theorem gN_4 {X : List Int} (h : gK X = 4) : gN X = gv X 0 % 128 + gv X 1 % 128 * 128 + gv X 2 % 128 * 16384 + gv X 3 % 128 * 2097152 := by unfold gN; rw [h]; simp
theorem gK_1 {X : List Int} (h : gv X 0 < 128) : gK X = 1 := by unfold gK; rw [if_pos h]
theorem gK_2 {X : List Int} (h0 : 128 ≤ gv X 0) (h : gv X 1 < 128) : gK X = 2 := by unfold gK; rw [if_neg (by omega), if_pos h]
theorem gK_3 {X : List Int} (h0 : 128 ≤ gv X 0) (h1 : 128 ≤ gv X 1) (h : gv X 2 < 128) : gK X = 3 := by unfold gK; rw [if_neg (by omega), if_neg (by omega), if_pos h]
theorem gK_4 {X : List Int} (h0 : 128 ≤ gv X 0) (h1 : 128 ≤ gv X 1) (h2 : 128 ≤ gv X 2) : gK X = 4 := by unfold gK; rw [if_neg (by omega), if_neg (by omega), if_neg (by omega)]
theorem gE_2 {X : List Int} {k : Nat} (h : gK X = k) (hl : X.length < k) : gE X = 2 := by unfold gE; rw [h, if_pos hl]
theorem gE_0 {X : List Int} {k : Nat} (h : gK X = k) (hl : k ≤ X.length) (h1 : gv X (k - 1) < 128) (h2 : k = 1 ∨ gv X (k - 1) ≠ 0) : gE X = 0 := by unfold gE; rw [h, if_neg (by omega), if_neg (by omega)]
theorem gE_5 {X : List Int} {k : Nat} (h : gK X = k) (hl : k ≤ X.length) (h1 : 128 ≤ gv X (k - 1) ∨ (1 < k ∧ gv X (k - 1) = 0)) : gE X = 5 := by unfold gE; rw [h, if_neg (by omega), if_pos h1]
theorem wraps_i62 (n : Int) (h₀ : 0 ≤ n) (h₁ : n < 2 ^ 62) : IntKind.i64.wrap n = n := wi64 n (by omega) (by omega)
theorem or_i64 (a b : Nat) (ha : a < 2 ^ 62) (hb : b < 2 ^ 62) : bits .or .i64 (a : Int) (b : Int) = ((a ||| b : Nat) : Int) := (bits_nat .i64 62 (by decide) wraps_i62 a b ha hb).2
theorem or_up (i y b : Nat) (hy : y < 2 ^ i) (h1 : y < 2 ^ 62) (h2 : 2 ^ i * b < 2 ^ 62) : bits .or .i64 (y : Int) ((2 ^ i * b : Nat) : Int) = ((y + 2 ^ i * b : Nat) : Int) := by
  rw [or_i64 y (2 ^ i * b) h1 h2, Nat.or_comm, ← Nat.two_pow_add_eq_or_of_lt hy b]
  omega
theorem or0 (b : Nat) (hb : b < 128) : bits .or .i64 0 (b : Int) = (b : Int) := by
  have := or_i64 0 b (by decide) (by omega)
  simpa using this
theorem or7 (y b : Nat) (hy : y < 128) (hb : b < 128) : bits .or .i64 (y : Int) ((b * 128 : Nat) : Int) = ((y + b * 128 : Nat) : Int) := by
  have := or_up 7 y b (by omega) (by omega) (by omega)
  rwa [show 2 ^ 7 * b = b * 128 by omega] at this
theorem or14 (y b : Nat) (hy : y < 16384) (hb : b < 128) : bits .or .i64 (y : Int) ((b * 16384 : Nat) : Int) = ((y + b * 16384 : Nat) : Int) := by
  have := or_up 14 y b (by omega) (by omega) (by omega)
  rwa [show 2 ^ 14 * b = b * 16384 by omega] at this
theorem or21 (y b : Nat) (hy : y < 2097152) (hb : b < 128) : bits .or .i64 (y : Int) ((b * 2097152 : Nat) : Int) = ((y + b * 2097152 : Nat) : Int) := by
  have := or_up 21 y b (by omega) (by omega) (by omega)
  rwa [show 2 ^ 21 * b = b * 2097152 by omega] at this
theorem tm (a : Nat) : ((a : Int)).tmod 128 = ((a % 128 : Nat) : Int) := by rw [Int.tmod_eq_emod_of_nonneg (by omega)]; omega
theorem p0 (a : Nat) : IntKind.i64.wrap (IntKind.i64.wrap ((a : Int).tmod 128) * 2 ^ 0) = ((a % 128 : Nat) : Int) := by rw [tm, wi64 ((a % 128 : Nat) : Int) (by omega) (by omega), wi64 _ (by omega) (by omega)]; omega
theorem p7 (a : Nat) : IntKind.i64.wrap (IntKind.i64.wrap ((a : Int).tmod 128) * 2 ^ 7) = ((a % 128 * 128 : Nat) : Int) := by rw [tm, wi64 ((a % 128 : Nat) : Int) (by omega) (by omega), wi64 _ (by omega) (by omega)]; omega
theorem p14 (a : Nat) : IntKind.i64.wrap (IntKind.i64.wrap ((a : Int).tmod 128) * 2 ^ 14) = ((a % 128 * 16384 : Nat) : Int) := by rw [tm, wi64 ((a % 128 : Nat) : Int) (by omega) (by omega), wi64 _ (by omega) (by omega)]; omega
theorem p21 (a : Nat) : IntKind.i64.wrap (IntKind.i64.wrap ((a : Int).tmod 128) * 2 ^ 21) = ((a % 128 * 2097152 : Nat) : Int) := by rw [tm, wi64 ((a % 128 : Nat) : Int) (by omega) (by omega), wi64 _ (by omega) (by omega)]; omega
theorem c1 : IntKind.i64.wrap (0 + 1) = 1 := rfl
theorem c2 : IntKind.i64.wrap (1 + 1) = 2 := rfl
theorem c3 : IntKind.i64.wrap (2 + 1) = 3 := rfl
theorem s1 : IntKind.i64.wrap (1 * 128) = 128 := rfl
theorem s2 : IntKind.i64.wrap (128 * 128) = 16384 := rfl
theorem s3 : IntKind.i64.wrap (16384 * 128) = 2097152 := rfl
theorem wgv {X : List Int} (h : Bs X) (j : Nat) : IntKind.i64.wrap ((gv X j : Nat) : Int) = (gv X j : Int) := by
  have := gv_lt h j
  exact wi64 _ (by omega) (by omega)
theorem t0 (a : Nat) : IntKind.i64.wrap ((a : Int).tmod 128 * 1) = ((a % 128 : Nat) : Int) := by rw [tm, Int.mul_one]; exact wi64 _ (by omega) (by omega)
theorem t1 (a : Nat) : IntKind.i64.wrap ((a : Int).tmod 128 * 128) = ((a % 128 * 128 : Nat) : Int) := by rw [tm, wi64 _ (by omega) (by omega)]; omega
theorem t2 (a : Nat) : IntKind.i64.wrap ((a : Int).tmod 128 * 16384) = ((a % 128 * 16384 : Nat) : Int) := by rw [tm, wi64 _ (by omega) (by omega)]; omega
theorem t3 (a : Nat) : IntKind.i64.wrap ((a : Int).tmod 128 * 2097152) = ((a % 128 * 2097152 : Nat) : Int) := by rw [tm, wi64 _ (by omega) (by omega)]; omega
theorem a0 (b : Nat) (hb : b < 1000000000) : IntKind.i64.wrap (0 + (b : Int)) = (b : Int) := by rw [Int.zero_add]; exact wi64 _ (by omega) (by omega)
theorem a1 (a b : Nat) (hb : a + b < 1000000000) : IntKind.i64.wrap ((a : Int) + (b : Int)) = ((a + b : Nat) : Int) := by rw [wi64 _ (by omega) (by omega)]; omega
theorem c4 : IntKind.i64.wrap (3 + 1) = 4 := rfl
theorem strOf_data (X : List Int) : ∀ r : ByteArray, (X.foldl (fun r n => r.push (UInt8.ofNat n.toNat)) r).data.toList = r.data.toList ++ X.map fun n => UInt8.ofNat n.toNat := by
  induction X with
  | nil => intro r; simp
  | cons x X ih => intro r; rw [List.foldl_cons, ih]; simp
theorem strOf_inj {X Y : List Int} (hX : Bs X) (hY : Bs Y) : ((strOf X).toList == (strOf Y).toList) = decide (X = Y) := by
  rw [ByteArray.toList_eq, ByteArray.toList_eq]
  unfold strOf
  rw [strOf_data, strOf_data, Bool.eq_iff_iff, beq_iff_eq, decide_eq_true_eq]
  constructor
  · intro h
    have h : X.map (fun n => UInt8.ofNat n.toNat) = Y.map (fun n => UInt8.ofNat n.toNat) := by simpa using h
    have hl : X.length = Y.length := by simpa using congrArg List.length h
    apply List.ext_getElem hl
    intro j h1 h2
    have h3 := congrArg (fun l => l[j]?) h
    simp only [List.getElem?_map, List.getElem?_eq_getElem h1, List.getElem?_eq_getElem h2, Option.map_some, Option.some.injEq] at h3
    have h4 := congrArg UInt8.toNat h3
    have g1 := hX.mem (List.getElem_mem h1)
    have g2 := hY.mem (List.getElem_mem h2)
    simp only [UInt8.toNat_ofNat'] at h4
    omega
  · rintro rfl; rfl
def numberC : RCtr := ⟨22, [none], fun | [.av (.v (.one (.int _ .i64 n)))] => some (.chk (0 ≤ n ∧ n < 16384) (.all fun g : RowR (num n.toNat).length => .leaf [.row g.nl 5 [.u8] (num n.toNat) (num n.toNat).length g.cap])) | _ => none⟩
theorem numberC_ok : numberC.Ok Try.prog := by
  refine rctr_ok base2 ⟨_, Try.func22, rfl⟩ (ctr := fun w => noCtr) (fun w => ctrs_none _ w) (pre := fun w => noPre) (fun w => pre_none _ w) (n := 2) fun w cas args t h ha K hK => ?_
  unfold numberC at h
  simp only at h
  split at h
  · cases h
    obtain ⟨y0, rfl, q0⟩ := all2_1 ha
    obtain ⟨rfl, o0⟩ := argAv q0
    rename_i lit n
    obtain ⟨⟨h0, h1⟩, hK⟩ := hK
    obtain ⟨n, rfl⟩ := Int.eq_ofNat_of_zero_le h0
    rw [Int.toNat_natCast] at hK
    refine ⟨noLoop, loops_none _ _, ?_⟩
    rw [show numberC.f = 22 from rfl]
    simp only [AV.norm, Sc.norm]
    rw [number_tree]
    have e1 : (n : Int).tdiv 128 = ((n / 128 : Nat) : Int) := by rw [Int.tdiv_eq_ediv_of_nonneg (by omega)]; omega
    have e2 : (n : Int).tmod 128 = ((n % 128 : Nat) : Int) := by rw [Int.tmod_eq_emod_of_nonneg (by omega)]; omega
    have e3 : IntKind.i64.wrap ((n / 128 : Nat) : Int) = ((n / 128 : Nat) : Int) := wi64 _ (by omega) (by omega)
    rw [e1, e2, e3]
    refine ⟨fun hl => ?_, fun hl => ⟨fun h2 => ?_, fun h2 => ?_⟩⟩
    · have hl : n < 128 := by have := of_decide_eq_true hl; omega
      have e : num n = [(n : Int)] := by unfold num; rw [if_pos hl]
      rw [e] at hK
      have hK := hK ⟨false, 1, fun h => (by cases h), Nat.le_refl _, by decide⟩
      refine ⟨_, [_], hK, rfl, .cons (.os (r := 0) rfl rfl rfl ?_ rfl) .nil⟩
      show some [IntKind.u8.wrap (n : Int)] = some [(n : Int)]
      rw [wu8, Int.emod_eq_of_lt (by omega) (by omega)]
    · have hl : ¬ n < 128 := by have := of_decide_eq_false hl; omega
      have e : num n = [((n % 128 + 128 : Nat) : Int), ((n / 128 : Nat) : Int)] := by unfold num; rw [if_neg hl]
      refine ⟨⟨trivial, trivial, by decide⟩, fun g => ?_⟩
      rw [e] at hK
      have hK := hK (rowR g)
      have e4 : IntKind.u8.wrap (IntKind.i64.wrap (((n % 128 : Nat) : Int) + 128)) = ((n % 128 + 128 : Nat) : Int) := by
        rw [wi64 _ (by omega) (by omega), wu8]; omega
      have e5 : IntKind.u8.wrap ((n / 128 : Nat) : Int) = ((n / 128 : Nat) : Int) := by rw [wu8, Int.emod_eq_of_lt (by omega) (by omega)]
      rw [e4, e5]
      refine ⟨_, [_], hK, rfl, .cons (.row (r := 2) rfl fun h => (rowR g).nil h) .nil⟩
    · have h2 := of_decide_eq_false h2
      omega
  · cases h
def getC : RCtr := ⟨27, [some [.u8]], fun | [.row [.u8] n xs] => some (.chk (n ≤ 1000000000 ∧ Bs xs) (.br (decide (gE xs = 0)) (.leaf [.av (.one (.int false .i64 (gN xs : Nat))), .cut 0 1 (gK xs) n, .av (.one (.int false .i64 0))]) (.leaf [.av (.one (.int false .i64 0)), .row true 5 [.u8] [] 0 0, .av (.one (.int false .i64 (gE xs)))]))) | _ => none⟩
theorem getC_ok : getC.Ok Try.prog := by
  refine rctr_ok base2 ⟨_, Try.func27, rfl⟩ (ctr := fun w => noCtr) (fun w => ctrs_none _ w) (pre := fun w => noPre) (fun w => pre_none _ w) (n := 20) fun w cas args t h ha K hK => ?_
  unfold getC at h
  simp only at h
  split at h
  · cases h
    obtain ⟨y0, rfl, q0⟩ := all2_1 ha
    obtain ⟨a, c, rfl, hX, hc⟩ := argRow q0
    rename_i n xs
    obtain ⟨⟨big, hb⟩, hK⟩ := hK
    refine ⟨noLoop, loops_none _ _, ?_⟩
    rw [show getC.f = 27 from rfl, get_tree]
    have hn : xs.length = n := by simpa using hX.1
    have l0 := gv_lt hb 0
    have l1 := gv_lt hb 1
    have l2 := gv_lt hb 2
    have l3 := gv_lt hb 3
    have bad : ∀ e : Int, gE xs = e → e ≠ 0 → ∃ rs ys, K rs ∧ AV.tuple [.one (.int true .i64 0), .one .nos, .one (.int true .i64 e)] = packA ys ∧ All2 (OutIs [.v (.one (.xr a [.u8] xs n c))] []) rs ys := fun e he hne =>
      ⟨_, [_, _, _], hK.2 (by simp [he, hne]), rfl, .cons (.av rfl fun _ => rfl) (.cons .nil (.cons (.av rfl fun _ => by rw [he]; rfl) .nil))⟩
    have good : ∀ k : Nat, gE xs = 0 → gK xs = k → ∀ v : Int, v = (gN xs : Nat) → ∃ rs ys, K rs ∧ AV.tuple [.one (.int false .i64 v), .one (.xr (cutA a c k 1) [.u8] (cutL xs k n 1) (n - k) (c - k)), .one (.int true .i64 0)] = packA ys ∧ All2 (OutIs [.v (.one (.xr a [.u8] xs n c))] []) rs ys := fun k he hk v hv =>
      ⟨_, [_, _, _], hK.1 (by simp [he]), rfl, .cons (.av rfl fun _ => by rw [hv]) (.cons (.cut (l := gK xs) rfl (by have := gE_len he; omega) (Nat.le_refl _) hc (by rw [hk]) (by rw [hk]) (by rw [hk])) (.cons (.av rfl fun _ => rfl) .nil))⟩
    simp only [T.holds, gv_eq hb, c1, c2, c3, c4, s1, s2, s3, decide_eq_true_eq, decide_eq_false_iff_not, beq_iff_eq, beq_eq_false_iff_ne, ge_iff_le, List.length_singleton]
    repeat' (first | exact hX | exact hX.2 | (intro _) | (refine And.intro ?_ ?_))
    all_goals first
      | exact hX | exact hX.2 | omega | decide
      | exact bad 2 (gE_2 (gK_1 (by rw [gv_end (by omega)]; decide)) (by omega)) (by decide)
      | exact bad 2 (gE_2 (gK_2 (by omega) (by rw [gv_end (by omega)]; decide)) (by omega)) (by decide)
      | exact bad 2 (gE_2 (gK_3 (by omega) (by omega) (by rw [gv_end (by omega)]; decide)) (by omega)) (by decide)
      | exact bad 2 (gE_2 (gK_4 (by omega) (by omega) (by omega)) (by omega)) (by decide)
      | exact bad 5 (gE_5 (gK_2 (by omega) (by omega)) (by omega) (.inr ⟨by decide, by show gv xs 1 = 0; omega⟩)) (by decide)
      | exact bad 5 (gE_5 (gK_3 (by omega) (by omega) (by omega)) (by omega) (.inr ⟨by decide, by show gv xs 2 = 0; omega⟩)) (by decide)
      | exact bad 5 (gE_5 (gK_4 (by omega) (by omega) (by omega)) (by omega) (.inr ⟨by decide, by show gv xs 3 = 0; omega⟩)) (by decide)
      | exact bad 5 (gE_5 (gK_4 (by omega) (by omega) (by omega)) (by omega) (.inl (by show 128 ≤ gv xs 3; omega))) (by decide)
      | exact good 1 (gE_0 (gK_1 (by omega)) (by omega) (by show gv xs 0 < 128; omega) (.inl rfl)) (gK_1 (by omega)) _ (by rw [gN_1 (gK_1 (by omega))]; first | rw [p0, or0 _ (by omega), p7, or7 _ _ (by omega) (by omega), p14, or14 _ _ (by omega) (by omega), p21, or21 _ _ (by omega) (by omega)] | rw [p0, or0 _ (by omega), p7, or7 _ _ (by omega) (by omega), p14, or14 _ _ (by omega) (by omega)] | rw [p0, or0 _ (by omega), p7, or7 _ _ (by omega) (by omega)] | rw [p0, or0 _ (by omega)])
      | exact good 2 (gE_0 (gK_2 (by omega) (by omega)) (by omega) (by show gv xs 1 < 128; omega) (.inr (by show gv xs 1 ≠ 0; omega))) (gK_2 (by omega) (by omega)) _ (by rw [gN_2 (gK_2 (by omega) (by omega))]; first | rw [p0, or0 _ (by omega), p7, or7 _ _ (by omega) (by omega), p14, or14 _ _ (by omega) (by omega), p21, or21 _ _ (by omega) (by omega)] | rw [p0, or0 _ (by omega), p7, or7 _ _ (by omega) (by omega), p14, or14 _ _ (by omega) (by omega)] | rw [p0, or0 _ (by omega), p7, or7 _ _ (by omega) (by omega)] | rw [p0, or0 _ (by omega)])
      | exact good 3 (gE_0 (gK_3 (by omega) (by omega) (by omega)) (by omega) (by show gv xs 2 < 128; omega) (.inr (by show gv xs 2 ≠ 0; omega))) (gK_3 (by omega) (by omega) (by omega)) _ (by rw [gN_3 (gK_3 (by omega) (by omega) (by omega))]; first | rw [p0, or0 _ (by omega), p7, or7 _ _ (by omega) (by omega), p14, or14 _ _ (by omega) (by omega), p21, or21 _ _ (by omega) (by omega)] | rw [p0, or0 _ (by omega), p7, or7 _ _ (by omega) (by omega), p14, or14 _ _ (by omega) (by omega)] | rw [p0, or0 _ (by omega), p7, or7 _ _ (by omega) (by omega)] | rw [p0, or0 _ (by omega)])
      | exact good 4 (gE_0 (gK_4 (by omega) (by omega) (by omega)) (by omega) (by show gv xs 3 < 128; omega) (.inr (by show gv xs 3 ≠ 0; omega))) (gK_4 (by omega) (by omega) (by omega)) _ (by rw [gN_4 (gK_4 (by omega) (by omega) (by omega))]; first | rw [p0, or0 _ (by omega), p7, or7 _ _ (by omega) (by omega), p14, or14 _ _ (by omega) (by omega), p21, or21 _ _ (by omega) (by omega)] | rw [p0, or0 _ (by omega), p7, or7 _ _ (by omega) (by omega), p14, or14 _ _ (by omega) (by omega)] | rw [p0, or0 _ (by omega), p7, or7 _ _ (by omega) (by omega)] | rw [p0, or0 _ (by omega)])
  · cases h
def readC : RCtr := ⟨25, [some [.u8]], fun | [.row [.u8] n xs] => some (.chk (n ≤ 1000000000 ∧ Bs xs) (.br (decide (gE xs = 0)) (.leaf [.av (.one (.int false .i64 (gN xs : Nat))), .av (.one (.int false .i64 (gK xs : Nat))), .av (.one (.int false .i64 0))]) (.leaf [.av (.one (.int false .i64 0)), .av (.one (.int false .i64 0)), .av (.one (.int false .i64 (gE xs)))]))) | _ => none⟩
theorem readC_ok : readC.Ok Try.prog := by
  refine rctr_ok base2 ⟨_, Try.func25, rfl⟩ (ctr := fun w => noCtr) (fun w => ctrs_none _ w) (pre := fun w => noPre) (fun w => pre_none _ w) (n := 20) fun w cas args t h ha K hK => ?_
  unfold readC at h
  simp only at h
  split at h
  · cases h
    obtain ⟨y0, rfl, q0⟩ := all2_1 ha
    obtain ⟨a, c, rfl, hX, hc⟩ := argRow q0
    rename_i n xs
    obtain ⟨⟨big, hb⟩, hK⟩ := hK
    refine ⟨noLoop, loops_none _ _, ?_⟩
    rw [show readC.f = 25 from rfl, read_tree]
    have hn : xs.length = n := by simpa using hX.1
    have l0 := gv_lt hb 0
    have l1 := gv_lt hb 1
    have l2 := gv_lt hb 2
    have l3 := gv_lt hb 3
    have bad : ∀ e : Int, gE xs = e → e ≠ 0 → ∃ rs ys, K rs ∧ AV.tuple [.one (.int true .i64 0), .one (.int true .i64 0), .one (.int true .i64 e)] = packA ys ∧ All2 (OutIs [.v (.one (.xr a [.u8] xs n c))] []) rs ys := fun e he hne =>
      ⟨_, [_, _, _], hK.2 (by simp [he, hne]), rfl, .cons (.av rfl fun _ => rfl) (.cons (.av rfl fun _ => rfl) (.cons (.av rfl fun _ => by rw [he]; rfl) .nil))⟩
    have good : ∀ k : Nat, gE xs = 0 → gK xs = k → ∀ v : Int, v = (gN xs : Nat) → ∃ rs ys, K rs ∧ AV.tuple [.one (.int false .i64 v), .one (.int true .i64 (k : Nat)), .one (.int true .i64 0)] = packA ys ∧ All2 (OutIs [.v (.one (.xr a [.u8] xs n c))] []) rs ys := fun k he hk v hv =>
      ⟨_, [_, _, _], hK.1 (by simp [he]), rfl, .cons (.av rfl fun _ => by rw [hv]) (.cons (.av rfl fun _ => by rw [hk]; rfl) (.cons (.av rfl fun _ => rfl) .nil))⟩
    simp only [T.holds, gv_eq hb, c1, c2, c3, c4, s1, s2, s3, decide_eq_true_eq, decide_eq_false_iff_not, beq_iff_eq, beq_eq_false_iff_ne, ge_iff_le, List.length_singleton]
    repeat' (first | exact hX | exact hX.2 | (intro _) | (refine And.intro ?_ ?_))
    all_goals first
      | exact hX | exact hX.2 | omega | decide
      | exact bad 2 (gE_2 (gK_1 (by rw [gv_end (by omega)]; decide)) (by omega)) (by decide)
      | exact bad 2 (gE_2 (gK_2 (by omega) (by rw [gv_end (by omega)]; decide)) (by omega)) (by decide)
      | exact bad 2 (gE_2 (gK_3 (by omega) (by omega) (by rw [gv_end (by omega)]; decide)) (by omega)) (by decide)
      | exact bad 2 (gE_2 (gK_4 (by omega) (by omega) (by omega)) (by omega)) (by decide)
      | exact bad 5 (gE_5 (gK_2 (by omega) (by omega)) (by omega) (.inr ⟨by decide, by show gv xs 1 = 0; omega⟩)) (by decide)
      | exact bad 5 (gE_5 (gK_3 (by omega) (by omega) (by omega)) (by omega) (.inr ⟨by decide, by show gv xs 2 = 0; omega⟩)) (by decide)
      | exact bad 5 (gE_5 (gK_4 (by omega) (by omega) (by omega)) (by omega) (.inr ⟨by decide, by show gv xs 3 = 0; omega⟩)) (by decide)
      | exact bad 5 (gE_5 (gK_4 (by omega) (by omega) (by omega)) (by omega) (.inl (by show 128 ≤ gv xs 3; omega))) (by decide)
      | exact good 1 (gE_0 (gK_1 (by omega)) (by omega) (by show gv xs 0 < 128; omega) (.inl rfl)) (gK_1 (by omega)) _ (by rw [gN_1 (gK_1 (by omega))]; simp only [wgv hb, t0, t1, t2, t3]; first | rw [a0 _ (by omega), a1 _ _ (by omega), a1 _ _ (by omega), a1 _ _ (by omega)] | rw [a0 _ (by omega), a1 _ _ (by omega), a1 _ _ (by omega)] | rw [a0 _ (by omega), a1 _ _ (by omega)] | rw [a0 _ (by omega)])
      | exact good 2 (gE_0 (gK_2 (by omega) (by omega)) (by omega) (by show gv xs 1 < 128; omega) (.inr (by show gv xs 1 ≠ 0; omega))) (gK_2 (by omega) (by omega)) _ (by rw [gN_2 (gK_2 (by omega) (by omega))]; simp only [wgv hb, t0, t1, t2, t3]; first | rw [a0 _ (by omega), a1 _ _ (by omega), a1 _ _ (by omega), a1 _ _ (by omega)] | rw [a0 _ (by omega), a1 _ _ (by omega), a1 _ _ (by omega)] | rw [a0 _ (by omega), a1 _ _ (by omega)] | rw [a0 _ (by omega)])
      | exact good 3 (gE_0 (gK_3 (by omega) (by omega) (by omega)) (by omega) (by show gv xs 2 < 128; omega) (.inr (by show gv xs 2 ≠ 0; omega))) (gK_3 (by omega) (by omega) (by omega)) _ (by rw [gN_3 (gK_3 (by omega) (by omega) (by omega))]; simp only [wgv hb, t0, t1, t2, t3]; first | rw [a0 _ (by omega), a1 _ _ (by omega), a1 _ _ (by omega), a1 _ _ (by omega)] | rw [a0 _ (by omega), a1 _ _ (by omega), a1 _ _ (by omega)] | rw [a0 _ (by omega), a1 _ _ (by omega)] | rw [a0 _ (by omega)])
      | exact good 4 (gE_0 (gK_4 (by omega) (by omega) (by omega)) (by omega) (by show gv xs 3 < 128; omega) (.inr (by show gv xs 3 ≠ 0; omega))) (gK_4 (by omega) (by omega) (by omega)) _ (by rw [gN_4 (gK_4 (by omega) (by omega) (by omega))]; simp only [wgv hb, t0, t1, t2, t3]; first | rw [a0 _ (by omega), a1 _ _ (by omega), a1 _ _ (by omega), a1 _ _ (by omega)] | rw [a0 _ (by omega), a1 _ _ (by omega), a1 _ _ (by omega)] | rw [a0 _ (by omega), a1 _ _ (by omega)] | rw [a0 _ (by omega)])
  · cases h
def cloneC : RCtr := ⟨26, [some [.u8]], fun | [.row [.u8] n xs] => some (.chk (n ≤ 1000000000) (.all fun g : RowR n => .leaf [.row g.nl 5 [.u8] xs n g.cap])) | _ => none⟩
theorem cloneC_ok : cloneC.Ok Try.prog := by
  refine rctr_ok base2 ⟨_, Try.func26, rfl⟩ (ctr := fun w => noCtr) (fun w => ctrs_none _ w) (pre := fun w => noPre) (fun w => pre_none _ w) (n := 20) fun w cas args t h ha K hK => ?_
  unfold cloneC at h
  simp only at h
  split at h
  · cases h
    obtain ⟨y0, rfl, q0⟩ := all2_1 ha
    obtain ⟨a, c, rfl, hX, hc⟩ := argRow q0
    rename_i n xs
    obtain ⟨big, hK⟩ := hK
    refine ⟨noLoop, loops_none _ _, ?_⟩
    rw [show cloneC.f = 26 from rfl, clone_tree]
    have hn : xs.length = n := by simpa using hX.1
    refine ⟨fun hnil => ?_, fun hnil => ⟨⟨⟨hX, hc⟩, trivial, by omega⟩, by rw [Nat.zero_add]; intro g; exact ⟨_, [_], hK (rowR g), rfl, .cons (.row (r := 1) rfl fun h => (rowR g).nil h) .nil⟩⟩⟩
    · have e : xs = [] := by
        cases xs with
        | nil => rfl
        | cons x l =>
          obtain ⟨b, off, rfl, _⟩ := hX.2 0 (by simp)
          cases hnil
      subst e
      have hn : n = 0 := by simpa using hn.symm
      subst hn
      exact ⟨_, [_], hK ⟨true, 0, fun _ => ⟨rfl, rfl⟩, Nat.le_refl _, by decide⟩, rfl, .cons .nil .nil⟩
  · cases h
def equalC : RCtr := ⟨24, [some [.u8], some [.u8]], fun | [.row [.u8] n xs, .row [.u8] m ys] => some (.chk (Bs xs ∧ Bs ys) (.leaf [.av (.one (.bool false (decide (xs = ys))))])) | _ => none⟩
theorem equalC_ok : equalC.Ok Try.prog := by
  refine rctr_ok base2 ⟨_, Try.func24, rfl⟩ (ctr := fun w => noCtr) (fun w => ctrs_none _ w) (pre := fun w => noPre) (fun w => pre_none _ w) (n := 20) fun w cas args t h ha K hK => ?_
  unfold equalC at h
  simp only at h
  split at h
  · cases h
    obtain ⟨y0, y1, rfl, q0, q1⟩ := all2_2 ha
    obtain ⟨a, c, rfl, hX, hc⟩ := argRow q0
    obtain ⟨a2, c2, rfl, hY, hc2⟩ := argRow q1
    rename_i n xs m ys
    obtain ⟨⟨b1, b2⟩, hK⟩ := hK
    refine ⟨noLoop, loops_none _ _, ?_⟩
    rw [show equalC.f = 24 from rfl, equal_tree]
    refine ⟨hX, hY, _, [_], hK, rfl, .cons (.av rfl fun _ => ?_) .nil⟩
    rw [strOf_inj b1 b2]
  · cases h
end Go.Proofs.Ytcfnfihemejjkaa
