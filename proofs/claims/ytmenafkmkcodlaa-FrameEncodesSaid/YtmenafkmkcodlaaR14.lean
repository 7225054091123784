/-
  A frame and its bytes: the law walked.
-/
import Derived.Test.YtmenafkmkcodlaaR11
namespace Go.Proofs.Ytmenafkmkcodlaa
open Go.RowKit sym
set_option linter.unusedVariables false
set_option linter.unusedSimpArgs false
set_option maxRecDepth 100000
theorem encodes_tree (w : World) (s : Int) (A : Option Addr) (X : List Int) (n cap : Nat) :
    callV Try.prog w (flatT Try.prog) (ctrOf [awC]) (preOr (preOf w tab2) (fpreOf [concatC w, feedC w, framesC, rscanC w, sameFC, encC w, rencC w, fedC w])) (lpOf Try.prog [mixLp 3 5]) 20 3 [.v (.agg [.int false .u8 s, .xr A [.u8] X n cap])] =
(.br (decide ((↑n : Int) > (300 : Int)))
 (.leaf (.v (.one (.bool true true))))
 (.chk (sym.XR w A [IntKind.u8] X n ∧
  n ≤ cap ∧ B s ∧ Bs X ∧ n ≤ (1000000 : Nat))
 (.br (decide (n > (64 : Nat)))
  (.chk (sym.XR w A [IntKind.u8] X n ∧
  n ≤ cap ∧ B s ∧ Bs X ∧ n ≤ (1000000 : Nat))
  (.br (decide (n > (64 : Nat)))
   (.chk (True ∧ True ∧ True)
   (.chk ((0 : Nat) ≤ (1000000000 : Nat))
   (.br (decide (([] : List Int) = []))
    (.all fun x : Bool =>
     (.br (x)
      (.br ((8 : Int) == (8 : Int))
       (.all fun x_1 : Bool =>
        (.br (x_1)
         (.all fun x_2 : Bool =>
          (.br (x_2)
           (.chk ((sym.XR w A [IntKind.u8] X n ∧ n ≤ cap) ∧ True)
           (.chk (n ≤ (1000000000 : Nat) ∧ Bs X)
           (.chk ((sym.XR w A [IntKind.u8] X n ∧ n ≤ cap) ∧ True)
           (.chk (n ≤ (1000000000 : Nat) ∧ Bs X)
           (.leaf (.v (.one (.bool false (crcL X == crcL X)))))))))
           (.all fun x_3 : Bool =>
            (.br (x_3)
             (.chk ((sym.XR w A [IntKind.u8] X n ∧ n ≤ cap) ∧ True)
             (.chk (n ≤ (1000000000 : Nat) ∧ Bs X)
             (.chk ((sym.XR w A [IntKind.u8] X n ∧ n ≤ cap) ∧ True)
             (.chk (n ≤ (1000000000 : Nat) ∧ Bs X)
             (.leaf (.v (.one (.bool false (crcL X == crcL X)))))))))
             (.chk ((sym.XR w A [IntKind.u8] X n ∧ n ≤ cap) ∧ True)
             (.chk (n ≤ (1000000000 : Nat) ∧ Bs X)
             (.chk ((sym.XR w A [IntKind.u8] X n ∧ n ≤ cap) ∧ True)
             (.chk (n ≤ (1000000000 : Nat) ∧ Bs X)
             (.leaf (.v (.one (.bool false (crcL X == crcL X)))))))))))))
         (.all fun x_2 : Bool =>
          (.br (x_2)
           (.all fun x_3 : Bool =>
            (.br (x_3)
             (.chk ((sym.XR w A [IntKind.u8] X n ∧ n ≤ cap) ∧ True)
             (.chk (n ≤ (1000000000 : Nat) ∧ Bs X)
             (.chk ((sym.XR w A [IntKind.u8] X n ∧ n ≤ cap) ∧ True)
             (.chk (n ≤ (1000000000 : Nat) ∧ Bs X)
             (.leaf (.v (.one (.bool false (crcL X == crcL X)))))))))
             (.chk ((sym.XR w A [IntKind.u8] X n ∧ n ≤ cap) ∧ True)
             (.chk (n ≤ (1000000000 : Nat) ∧ Bs X)
             (.chk ((sym.XR w A [IntKind.u8] X n ∧ n ≤ cap) ∧ True)
             (.chk (n ≤ (1000000000 : Nat) ∧ Bs X)
             (.leaf (.v (.one (.bool false (crcL X == crcL X)))))))))))
           (.chk ((sym.XR w A [IntKind.u8] X n ∧ n ≤ cap) ∧ True)
           (.chk (n ≤ (1000000000 : Nat) ∧ Bs X)
           (.chk ((sym.XR w A [IntKind.u8] X n ∧ n ≤ cap) ∧ True)
           (.chk (n ≤ (1000000000 : Nat) ∧ Bs X)
           (.leaf (.v (.one (.bool false (crcL X == crcL X)))))))))))))
       (.all fun x_1 : Bool =>
        (.br (x_1)
         (.all fun x_2 : Bool =>
          (.br (x_2)
           (.leaf (.v (.one (.bool true false))))
           (.all fun x_3 : Bool =>
            (.br (x_3)
             (.leaf (.v (.one (.bool true false))))
             (.leaf (.v (.one (.bool true false))))))))
         (.all fun x_2 : Bool =>
          (.br (x_2)
           (.all fun x_3 : Bool =>
            (.br (x_3)
             (.leaf (.v (.one (.bool true false))))
             (.leaf (.v (.one (.bool true false))))))
           (.leaf (.v (.one (.bool true false)))))))))
      (.br ((8 : Int) == (8 : Int))
       (.all fun x_1 : Bool =>
        (.br (x_1)
         (.all fun x_2 : Bool =>
          (.br (x_2)
           (.all fun x_3 : Bool =>
            (.br (x_3)
             (.chk ((sym.XR w A [IntKind.u8] X n ∧ n ≤ cap) ∧ True)
             (.chk (n ≤ (1000000000 : Nat) ∧ Bs X)
             (.chk ((sym.XR w A [IntKind.u8] X n ∧ n ≤ cap) ∧ True)
             (.chk (n ≤ (1000000000 : Nat) ∧ Bs X)
             (.leaf (.v (.one (.bool false (crcL X == crcL X)))))))))
             (.chk ((sym.XR w A [IntKind.u8] X n ∧ n ≤ cap) ∧ True)
             (.chk (n ≤ (1000000000 : Nat) ∧ Bs X)
             (.chk ((sym.XR w A [IntKind.u8] X n ∧ n ≤ cap) ∧ True)
             (.chk (n ≤ (1000000000 : Nat) ∧ Bs X)
             (.leaf (.v (.one (.bool false (crcL X == crcL X)))))))))))
           (.chk ((sym.XR w A [IntKind.u8] X n ∧ n ≤ cap) ∧ True)
           (.chk (n ≤ (1000000000 : Nat) ∧ Bs X)
           (.chk ((sym.XR w A [IntKind.u8] X n ∧ n ≤ cap) ∧ True)
           (.chk (n ≤ (1000000000 : Nat) ∧ Bs X)
           (.leaf (.v (.one (.bool false (crcL X == crcL X)))))))))))
         (.chk ((sym.XR w A [IntKind.u8] X n ∧ n ≤ cap) ∧ True)
         (.chk (n ≤ (1000000000 : Nat) ∧ Bs X)
         (.chk ((sym.XR w A [IntKind.u8] X n ∧ n ≤ cap) ∧ True)
         (.chk (n ≤ (1000000000 : Nat) ∧ Bs X)
         (.leaf (.v (.one (.bool false (crcL X == crcL X)))))))))))
       (.all fun x_1 : Bool =>
        (.br (x_1)
         (.all fun x_2 : Bool =>
          (.br (x_2)
           (.all fun x_3 : Bool =>
            (.br (x_3)
             (.leaf (.v (.one (.bool true false))))
             (.leaf (.v (.one (.bool true false))))))
           (.leaf (.v (.one (.bool true false))))))
         (.leaf (.v (.one (.bool true false)))))))))
    (.all fun x : Bool =>
     (.br (x)
      (.all fun x_1 : Bool =>
       (.br (x_1)
        (.all fun x_2 : Bool =>
         (.br (x_2)
          (.leaf (.v (.one (.bool true false))))
          (.all fun x_3 : Bool =>
           (.br (x_3)
            (.leaf (.v (.one (.bool true false))))
            (.leaf (.v (.one (.bool true false))))))))
        (.all fun x_2 : Bool =>
         (.br (x_2)
          (.all fun x_3 : Bool =>
           (.br (x_3)
            (.leaf (.v (.one (.bool true false))))
            (.leaf (.v (.one (.bool true false))))))
          (.leaf (.v (.one (.bool true false))))))))
      (.all fun x_1 : Bool =>
       (.br (x_1)
        (.all fun x_2 : Bool =>
         (.br (x_2)
          (.all fun x_3 : Bool =>
           (.br (x_3)
            (.leaf (.v (.one (.bool true false))))
            (.leaf (.v (.one (.bool true false))))))
          (.leaf (.v (.one (.bool true false))))))
        (.leaf (.v (.one (.bool true false)))))))))))
   (.all fun x : RowR (n + (5 : Nat)) =>
    (.chk (True ∧
  (x.nl = x.nl ∧
      ((0 : Nat) + (n + (5 : Nat))) * (1 : Nat) ≤ (encX s X).length ∧
        n + (5 : Nat) ≤ x.cap) ∧
    True)
    (.chk ((0 : Nat) ≤ (1000000000 : Nat))
    (.br (decide
  ([] =
    sym.cutL (encX s X) (0 : Nat) ((0 : Nat) + (n + (5 : Nat)))
      (1 : Nat)))
     (.all fun x_1 : Bool =>
      (.br (x_1)
       (.br ((8 : Int) == (0 : Int))
        (.all fun x_2 : Bool =>
         (.br (x_2)
          (.all fun x_3 : Bool =>
           (.br (x_3)
            (.chk ((sym.XR w A [IntKind.u8] X n ∧ n ≤ cap) ∧ True)
            (.chk (n ≤ (1000000000 : Nat) ∧ Bs X)
            (.chk ((sym.XR w A [IntKind.u8] X n ∧ n ≤ cap) ∧ True)
            (.chk (n ≤ (1000000000 : Nat) ∧ Bs X)
            (.leaf (.v (.one (.bool false (crcL X == crcL X)))))))))
            (.all fun x_4 : Bool =>
             (.br (x_4)
              (.chk ((sym.XR w A [IntKind.u8] X n ∧ n ≤ cap) ∧ True)
              (.chk (n ≤ (1000000000 : Nat) ∧ Bs X)
              (.chk ((sym.XR w A [IntKind.u8] X n ∧ n ≤ cap) ∧ True)
              (.chk (n ≤ (1000000000 : Nat) ∧ Bs X)
              (.leaf (.v (.one (.bool false (crcL X == crcL X)))))))))
              (.chk ((sym.XR w A [IntKind.u8] X n ∧ n ≤ cap) ∧ True)
              (.chk (n ≤ (1000000000 : Nat) ∧ Bs X)
              (.chk ((sym.XR w A [IntKind.u8] X n ∧ n ≤ cap) ∧ True)
              (.chk (n ≤ (1000000000 : Nat) ∧ Bs X)
              (.leaf (.v (.one (.bool false (crcL X == crcL X)))))))))))))
          (.all fun x_3 : Bool =>
           (.br (x_3)
            (.all fun x_4 : Bool =>
             (.br (x_4)
              (.chk ((sym.XR w A [IntKind.u8] X n ∧ n ≤ cap) ∧ True)
              (.chk (n ≤ (1000000000 : Nat) ∧ Bs X)
              (.chk ((sym.XR w A [IntKind.u8] X n ∧ n ≤ cap) ∧ True)
              (.chk (n ≤ (1000000000 : Nat) ∧ Bs X)
              (.leaf (.v (.one (.bool false (crcL X == crcL X)))))))))
              (.chk ((sym.XR w A [IntKind.u8] X n ∧ n ≤ cap) ∧ True)
              (.chk (n ≤ (1000000000 : Nat) ∧ Bs X)
              (.chk ((sym.XR w A [IntKind.u8] X n ∧ n ≤ cap) ∧ True)
              (.chk (n ≤ (1000000000 : Nat) ∧ Bs X)
              (.leaf (.v (.one (.bool false (crcL X == crcL X)))))))))))
            (.chk ((sym.XR w A [IntKind.u8] X n ∧ n ≤ cap) ∧ True)
            (.chk (n ≤ (1000000000 : Nat) ∧ Bs X)
            (.chk ((sym.XR w A [IntKind.u8] X n ∧ n ≤ cap) ∧ True)
            (.chk (n ≤ (1000000000 : Nat) ∧ Bs X)
            (.leaf (.v (.one (.bool false (crcL X == crcL X)))))))))))))
        (.all fun x_2 : Bool =>
         (.br (x_2)
          (.all fun x_3 : Bool =>
           (.br (x_3)
            (.leaf (.v (.one (.bool true false))))
            (.all fun x_4 : Bool =>
             (.br (x_4)
              (.leaf (.v (.one (.bool true false))))
              (.leaf (.v (.one (.bool true false))))))))
          (.all fun x_3 : Bool =>
           (.br (x_3)
            (.all fun x_4 : Bool =>
             (.br (x_4)
              (.leaf (.v (.one (.bool true false))))
              (.leaf (.v (.one (.bool true false))))))
            (.leaf (.v (.one (.bool true false)))))))))
       (.br ((8 : Int) == (0 : Int))
        (.all fun x_2 : Bool =>
         (.br (x_2)
          (.all fun x_3 : Bool =>
           (.br (x_3)
            (.all fun x_4 : Bool =>
             (.br (x_4)
              (.chk ((sym.XR w A [IntKind.u8] X n ∧ n ≤ cap) ∧ True)
              (.chk (n ≤ (1000000000 : Nat) ∧ Bs X)
              (.chk ((sym.XR w A [IntKind.u8] X n ∧ n ≤ cap) ∧ True)
              (.chk (n ≤ (1000000000 : Nat) ∧ Bs X)
              (.leaf (.v (.one (.bool false (crcL X == crcL X)))))))))
              (.chk ((sym.XR w A [IntKind.u8] X n ∧ n ≤ cap) ∧ True)
              (.chk (n ≤ (1000000000 : Nat) ∧ Bs X)
              (.chk ((sym.XR w A [IntKind.u8] X n ∧ n ≤ cap) ∧ True)
              (.chk (n ≤ (1000000000 : Nat) ∧ Bs X)
              (.leaf (.v (.one (.bool false (crcL X == crcL X)))))))))))
            (.chk ((sym.XR w A [IntKind.u8] X n ∧ n ≤ cap) ∧ True)
            (.chk (n ≤ (1000000000 : Nat) ∧ Bs X)
            (.chk ((sym.XR w A [IntKind.u8] X n ∧ n ≤ cap) ∧ True)
            (.chk (n ≤ (1000000000 : Nat) ∧ Bs X)
            (.leaf (.v (.one (.bool false (crcL X == crcL X)))))))))))
          (.chk ((sym.XR w A [IntKind.u8] X n ∧ n ≤ cap) ∧ True)
          (.chk (n ≤ (1000000000 : Nat) ∧ Bs X)
          (.chk ((sym.XR w A [IntKind.u8] X n ∧ n ≤ cap) ∧ True)
          (.chk (n ≤ (1000000000 : Nat) ∧ Bs X)
          (.leaf (.v (.one (.bool false (crcL X == crcL X)))))))))))
        (.all fun x_2 : Bool =>
         (.br (x_2)
          (.all fun x_3 : Bool =>
           (.br (x_3)
            (.all fun x_4 : Bool =>
             (.br (x_4)
              (.leaf (.v (.one (.bool true false))))
              (.leaf (.v (.one (.bool true false))))))
            (.leaf (.v (.one (.bool true false))))))
          (.leaf (.v (.one (.bool true false)))))))))
     (.all fun x_1 : Bool =>
      (.br (x_1)
       (.all fun x_2 : Bool =>
        (.br (x_2)
         (.all fun x_3 : Bool =>
          (.br (x_3)
           (.leaf (.v (.one (.bool true false))))
           (.all fun x_4 : Bool =>
            (.br (x_4)
             (.leaf (.v (.one (.bool true false))))
             (.leaf (.v (.one (.bool true false))))))))
         (.all fun x_3 : Bool =>
          (.br (x_3)
           (.all fun x_4 : Bool =>
            (.br (x_4)
             (.leaf (.v (.one (.bool true false))))
             (.leaf (.v (.one (.bool true false))))))
           (.leaf (.v (.one (.bool true false))))))))
       (.all fun x_2 : Bool =>
        (.br (x_2)
         (.all fun x_3 : Bool =>
          (.br (x_3)
           (.all fun x_4 : Bool =>
            (.br (x_4)
             (.leaf (.v (.one (.bool true false))))
             (.leaf (.v (.one (.bool true false))))))
           (.leaf (.v (.one (.bool true false))))))
         (.leaf (.v (.one (.bool true false))))))))))))))
  (.all fun x : RowR (n + (5 : Nat)) =>
   (.chk (sym.XR w A [IntKind.u8] X n ∧
  n ≤ cap ∧ B s ∧ Bs X ∧ n ≤ (1000000 : Nat))
   (.br (decide (n > (64 : Nat)))
    (.chk ((x.nl = x.nl ∧
    ((0 : Nat) + (n + (5 : Nat))) * (1 : Nat) ≤ (encX s X).length ∧ n + (5 : Nat) ≤ x.cap) ∧
  True ∧ True)
    (.chk (n + (5 : Nat) ≤ (1000000000 : Nat))
    (.br (decide
  (sym.cutL (encX s X) (0 : Nat) ((0 : Nat) + (n + (5 : Nat)))
      (1 : Nat) =
    []))
     (.all fun x_1 : Bool =>
      (.br (x_1)
       (.br ((0 : Int) == (8 : Int))
        (.all fun x_2 : Bool =>
         (.br (x_2)
          (.all fun x_3 : Bool =>
           (.br (x_3)
            (.chk ((sym.XR w A [IntKind.u8] X n ∧ n ≤ cap) ∧ True)
            (.chk (n ≤ (1000000000 : Nat) ∧ Bs X)
            (.chk ((sym.XR w A [IntKind.u8] X n ∧ n ≤ cap) ∧ True)
            (.chk (n ≤ (1000000000 : Nat) ∧ Bs X)
            (.leaf (.v (.one (.bool false (crcL X == crcL X)))))))))
            (.all fun x_4 : Bool =>
             (.br (x_4)
              (.chk ((sym.XR w A [IntKind.u8] X n ∧ n ≤ cap) ∧ True)
              (.chk (n ≤ (1000000000 : Nat) ∧ Bs X)
              (.chk ((sym.XR w A [IntKind.u8] X n ∧ n ≤ cap) ∧ True)
              (.chk (n ≤ (1000000000 : Nat) ∧ Bs X)
              (.leaf (.v (.one (.bool false (crcL X == crcL X)))))))))
              (.chk ((sym.XR w A [IntKind.u8] X n ∧ n ≤ cap) ∧ True)
              (.chk (n ≤ (1000000000 : Nat) ∧ Bs X)
              (.chk ((sym.XR w A [IntKind.u8] X n ∧ n ≤ cap) ∧ True)
              (.chk (n ≤ (1000000000 : Nat) ∧ Bs X)
              (.leaf (.v (.one (.bool false (crcL X == crcL X)))))))))))))
          (.all fun x_3 : Bool =>
           (.br (x_3)
            (.all fun x_4 : Bool =>
             (.br (x_4)
              (.chk ((sym.XR w A [IntKind.u8] X n ∧ n ≤ cap) ∧ True)
              (.chk (n ≤ (1000000000 : Nat) ∧ Bs X)
              (.chk ((sym.XR w A [IntKind.u8] X n ∧ n ≤ cap) ∧ True)
              (.chk (n ≤ (1000000000 : Nat) ∧ Bs X)
              (.leaf (.v (.one (.bool false (crcL X == crcL X)))))))))
              (.chk ((sym.XR w A [IntKind.u8] X n ∧ n ≤ cap) ∧ True)
              (.chk (n ≤ (1000000000 : Nat) ∧ Bs X)
              (.chk ((sym.XR w A [IntKind.u8] X n ∧ n ≤ cap) ∧ True)
              (.chk (n ≤ (1000000000 : Nat) ∧ Bs X)
              (.leaf (.v (.one (.bool false (crcL X == crcL X)))))))))))
            (.chk ((sym.XR w A [IntKind.u8] X n ∧ n ≤ cap) ∧ True)
            (.chk (n ≤ (1000000000 : Nat) ∧ Bs X)
            (.chk ((sym.XR w A [IntKind.u8] X n ∧ n ≤ cap) ∧ True)
            (.chk (n ≤ (1000000000 : Nat) ∧ Bs X)
            (.leaf (.v (.one (.bool false (crcL X == crcL X)))))))))))))
        (.all fun x_2 : Bool =>
         (.br (x_2)
          (.all fun x_3 : Bool =>
           (.br (x_3)
            (.leaf (.v (.one (.bool true false))))
            (.all fun x_4 : Bool =>
             (.br (x_4)
              (.leaf (.v (.one (.bool true false))))
              (.leaf (.v (.one (.bool true false))))))))
          (.all fun x_3 : Bool =>
           (.br (x_3)
            (.all fun x_4 : Bool =>
             (.br (x_4)
              (.leaf (.v (.one (.bool true false))))
              (.leaf (.v (.one (.bool true false))))))
            (.leaf (.v (.one (.bool true false)))))))))
       (.br ((0 : Int) == (8 : Int))
        (.all fun x_2 : Bool =>
         (.br (x_2)
          (.all fun x_3 : Bool =>
           (.br (x_3)
            (.all fun x_4 : Bool =>
             (.br (x_4)
              (.chk ((sym.XR w A [IntKind.u8] X n ∧ n ≤ cap) ∧ True)
              (.chk (n ≤ (1000000000 : Nat) ∧ Bs X)
              (.chk ((sym.XR w A [IntKind.u8] X n ∧ n ≤ cap) ∧ True)
              (.chk (n ≤ (1000000000 : Nat) ∧ Bs X)
              (.leaf (.v (.one (.bool false (crcL X == crcL X)))))))))
              (.chk ((sym.XR w A [IntKind.u8] X n ∧ n ≤ cap) ∧ True)
              (.chk (n ≤ (1000000000 : Nat) ∧ Bs X)
              (.chk ((sym.XR w A [IntKind.u8] X n ∧ n ≤ cap) ∧ True)
              (.chk (n ≤ (1000000000 : Nat) ∧ Bs X)
              (.leaf (.v (.one (.bool false (crcL X == crcL X)))))))))))
            (.chk ((sym.XR w A [IntKind.u8] X n ∧ n ≤ cap) ∧ True)
            (.chk (n ≤ (1000000000 : Nat) ∧ Bs X)
            (.chk ((sym.XR w A [IntKind.u8] X n ∧ n ≤ cap) ∧ True)
            (.chk (n ≤ (1000000000 : Nat) ∧ Bs X)
            (.leaf (.v (.one (.bool false (crcL X == crcL X)))))))))))
          (.chk ((sym.XR w A [IntKind.u8] X n ∧ n ≤ cap) ∧ True)
          (.chk (n ≤ (1000000000 : Nat) ∧ Bs X)
          (.chk ((sym.XR w A [IntKind.u8] X n ∧ n ≤ cap) ∧ True)
          (.chk (n ≤ (1000000000 : Nat) ∧ Bs X)
          (.leaf (.v (.one (.bool false (crcL X == crcL X)))))))))))
        (.all fun x_2 : Bool =>
         (.br (x_2)
          (.all fun x_3 : Bool =>
           (.br (x_3)
            (.all fun x_4 : Bool =>
             (.br (x_4)
              (.leaf (.v (.one (.bool true false))))
              (.leaf (.v (.one (.bool true false))))))
            (.leaf (.v (.one (.bool true false))))))
          (.leaf (.v (.one (.bool true false)))))))))
     (.all fun x_1 : Bool =>
      (.br (x_1)
       (.all fun x_2 : Bool =>
        (.br (x_2)
         (.all fun x_3 : Bool =>
          (.br (x_3)
           (.leaf (.v (.one (.bool true false))))
           (.all fun x_4 : Bool =>
            (.br (x_4)
             (.leaf (.v (.one (.bool true false))))
             (.leaf (.v (.one (.bool true false))))))))
         (.all fun x_3 : Bool =>
          (.br (x_3)
           (.all fun x_4 : Bool =>
            (.br (x_4)
             (.leaf (.v (.one (.bool true false))))
             (.leaf (.v (.one (.bool true false))))))
           (.leaf (.v (.one (.bool true false))))))))
       (.all fun x_2 : Bool =>
        (.br (x_2)
         (.all fun x_3 : Bool =>
          (.br (x_3)
           (.all fun x_4 : Bool =>
            (.br (x_4)
             (.leaf (.v (.one (.bool true false))))
             (.leaf (.v (.one (.bool true false))))))
           (.leaf (.v (.one (.bool true false))))))
         (.leaf (.v (.one (.bool true false)))))))))))
    (.all fun x_1 : RowR (n + (5 : Nat)) =>
     (.chk ((x.nl = x.nl ∧
    ((0 : Nat) + (n + (5 : Nat))) * (1 : Nat) ≤ (encX s X).length ∧ n + (5 : Nat) ≤ x.cap) ∧
  (x_1.nl = x_1.nl ∧
      ((0 : Nat) + (n + (5 : Nat))) * (1 : Nat) ≤ (encX s X).length ∧
        n + (5 : Nat) ≤ x_1.cap) ∧
    True)
     (.chk (n + (5 : Nat) ≤ (1000000000 : Nat))
     (.br (decide
  (sym.cutL (encX s X) (0 : Nat) ((0 : Nat) + (n + (5 : Nat)))
      (1 : Nat) =
    sym.cutL (encX s X) (0 : Nat) ((0 : Nat) + (n + (5 : Nat)))
      (1 : Nat)))
      (.all fun x_2 : Bool =>
       (.br (x_2)
        (.br ((0 : Int) == (0 : Int))
         (.all fun x_3 : Bool =>
          (.br (x_3)
           (.all fun x_4 : Bool =>
            (.br (x_4)
             (.chk ((sym.XR w A [IntKind.u8] X n ∧ n ≤ cap) ∧ True)
             (.chk (n ≤ (1000000000 : Nat) ∧ Bs X)
             (.chk ((sym.XR w A [IntKind.u8] X n ∧ n ≤ cap) ∧ True)
             (.chk (n ≤ (1000000000 : Nat) ∧ Bs X)
             (.leaf (.v (.one (.bool false (crcL X == crcL X)))))))))
             (.all fun x_5 : Bool =>
              (.br (x_5)
               (.chk ((sym.XR w A [IntKind.u8] X n ∧ n ≤ cap) ∧ True)
               (.chk (n ≤ (1000000000 : Nat) ∧ Bs X)
               (.chk ((sym.XR w A [IntKind.u8] X n ∧ n ≤ cap) ∧ True)
               (.chk (n ≤ (1000000000 : Nat) ∧ Bs X)
               (.leaf (.v (.one (.bool false (crcL X == crcL X)))))))))
               (.chk ((sym.XR w A [IntKind.u8] X n ∧ n ≤ cap) ∧ True)
               (.chk (n ≤ (1000000000 : Nat) ∧ Bs X)
               (.chk ((sym.XR w A [IntKind.u8] X n ∧ n ≤ cap) ∧ True)
               (.chk (n ≤ (1000000000 : Nat) ∧ Bs X)
               (.leaf (.v (.one (.bool false (crcL X == crcL X)))))))))))))
           (.all fun x_4 : Bool =>
            (.br (x_4)
             (.all fun x_5 : Bool =>
              (.br (x_5)
               (.chk ((sym.XR w A [IntKind.u8] X n ∧ n ≤ cap) ∧ True)
               (.chk (n ≤ (1000000000 : Nat) ∧ Bs X)
               (.chk ((sym.XR w A [IntKind.u8] X n ∧ n ≤ cap) ∧ True)
               (.chk (n ≤ (1000000000 : Nat) ∧ Bs X)
               (.leaf (.v (.one (.bool false (crcL X == crcL X)))))))))
               (.chk ((sym.XR w A [IntKind.u8] X n ∧ n ≤ cap) ∧ True)
               (.chk (n ≤ (1000000000 : Nat) ∧ Bs X)
               (.chk ((sym.XR w A [IntKind.u8] X n ∧ n ≤ cap) ∧ True)
               (.chk (n ≤ (1000000000 : Nat) ∧ Bs X)
               (.leaf (.v (.one (.bool false (crcL X == crcL X)))))))))))
             (.chk ((sym.XR w A [IntKind.u8] X n ∧ n ≤ cap) ∧ True)
             (.chk (n ≤ (1000000000 : Nat) ∧ Bs X)
             (.chk ((sym.XR w A [IntKind.u8] X n ∧ n ≤ cap) ∧ True)
             (.chk (n ≤ (1000000000 : Nat) ∧ Bs X)
             (.leaf (.v (.one (.bool false (crcL X == crcL X)))))))))))))
         (.all fun x_3 : Bool =>
          (.br (x_3)
           (.all fun x_4 : Bool =>
            (.br (x_4)
             (.leaf (.v (.one (.bool true false))))
             (.all fun x_5 : Bool =>
              (.br (x_5)
               (.leaf (.v (.one (.bool true false))))
               (.leaf (.v (.one (.bool true false))))))))
           (.all fun x_4 : Bool =>
            (.br (x_4)
             (.all fun x_5 : Bool =>
              (.br (x_5)
               (.leaf (.v (.one (.bool true false))))
               (.leaf (.v (.one (.bool true false))))))
             (.leaf (.v (.one (.bool true false)))))))))
        (.br ((0 : Int) == (0 : Int))
         (.all fun x_3 : Bool =>
          (.br (x_3)
           (.all fun x_4 : Bool =>
            (.br (x_4)
             (.all fun x_5 : Bool =>
              (.br (x_5)
               (.chk ((sym.XR w A [IntKind.u8] X n ∧ n ≤ cap) ∧ True)
               (.chk (n ≤ (1000000000 : Nat) ∧ Bs X)
               (.chk ((sym.XR w A [IntKind.u8] X n ∧ n ≤ cap) ∧ True)
               (.chk (n ≤ (1000000000 : Nat) ∧ Bs X)
               (.leaf (.v (.one (.bool false (crcL X == crcL X)))))))))
               (.chk ((sym.XR w A [IntKind.u8] X n ∧ n ≤ cap) ∧ True)
               (.chk (n ≤ (1000000000 : Nat) ∧ Bs X)
               (.chk ((sym.XR w A [IntKind.u8] X n ∧ n ≤ cap) ∧ True)
               (.chk (n ≤ (1000000000 : Nat) ∧ Bs X)
               (.leaf (.v (.one (.bool false (crcL X == crcL X)))))))))))
             (.chk ((sym.XR w A [IntKind.u8] X n ∧ n ≤ cap) ∧ True)
             (.chk (n ≤ (1000000000 : Nat) ∧ Bs X)
             (.chk ((sym.XR w A [IntKind.u8] X n ∧ n ≤ cap) ∧ True)
             (.chk (n ≤ (1000000000 : Nat) ∧ Bs X)
             (.leaf (.v (.one (.bool false (crcL X == crcL X)))))))))))
           (.chk ((sym.XR w A [IntKind.u8] X n ∧ n ≤ cap) ∧ True)
           (.chk (n ≤ (1000000000 : Nat) ∧ Bs X)
           (.chk ((sym.XR w A [IntKind.u8] X n ∧ n ≤ cap) ∧ True)
           (.chk (n ≤ (1000000000 : Nat) ∧ Bs X)
           (.leaf (.v (.one (.bool false (crcL X == crcL X)))))))))))
         (.all fun x_3 : Bool =>
          (.br (x_3)
           (.all fun x_4 : Bool =>
            (.br (x_4)
             (.all fun x_5 : Bool =>
              (.br (x_5)
               (.leaf (.v (.one (.bool true false))))
               (.leaf (.v (.one (.bool true false))))))
             (.leaf (.v (.one (.bool true false))))))
           (.leaf (.v (.one (.bool true false)))))))))
      (.all fun x_2 : Bool =>
       (.br (x_2)
        (.all fun x_3 : Bool =>
         (.br (x_3)
          (.all fun x_4 : Bool =>
           (.br (x_4)
            (.leaf (.v (.one (.bool true false))))
            (.all fun x_5 : Bool =>
             (.br (x_5)
              (.leaf (.v (.one (.bool true false))))
              (.leaf (.v (.one (.bool true false))))))))
          (.all fun x_4 : Bool =>
           (.br (x_4)
            (.all fun x_5 : Bool =>
             (.br (x_5)
              (.leaf (.v (.one (.bool true false))))
              (.leaf (.v (.one (.bool true false))))))
            (.leaf (.v (.one (.bool true false))))))))
        (.all fun x_3 : Bool =>
         (.br (x_3)
          (.all fun x_4 : Bool =>
           (.br (x_4)
            (.all fun x_5 : Bool =>
             (.br (x_5)
              (.leaf (.v (.one (.bool true false))))
              (.leaf (.v (.one (.bool true false))))))
            (.leaf (.v (.one (.bool true false))))))
          (.leaf (.v (.one (.bool true false)))))))))))))))))) := by kernel_rfl
theorem encodes_walk (w : World) (s : Int) (A : Option Addr) (X : List Int) (n cap : Nat) (hs : B s) (hX : XR w A [.u8] X n) (hc : n ≤ cap) (hb : Bs X) : Calls Try.prog 3 #[.agg #[.int .u8 s, .slice A n cap]] w fun e w' => e = .returned (.bool true) ∧ Below w.heap.size w w' := by
  refine val_eq base2 (awT_ok w) (pre5_ok w) (lps_ok (ls := [mixLp 3 5]) fun l hl => by (simp only [List.mem_cons, List.not_mem_nil, or_false] at hl; subst hl; exact mixLp_ok _ _ _ _)) (encodes_tree w s A X n cap) rfl ?_
  refine ⟨fun _ => ⟨rfl, rfl⟩, fun h1 => ?_⟩
  have hn : n ≤ 300 := by have := of_decide_eq_false h1; omega
  have hXl : X.length = n := by simpa using hX.1
  have c0 : sym.XR w A [IntKind.u8] X n := hX
  have c1 : n ≤ 1000000 := by omega
  have c3 : n ≤ 1000000000 := by omega
  have c4 : n + 5 ≤ 1000000000 := by omega
  have hel : (encX s X).length = n + 5 := by rw [encX_length, hXl]
  have hcut : sym.cutL (encX s X) 0 (n + 5) 1 = encX s X := by
    rw [cut1, List.drop_zero]
    exact List.take_of_length_le (by omega)
  have c5 : ∀ r : RowR (n + 5), n + 5 ≤ r.cap := fun r => r.le
  have fin : (AV.v (.one (.bool false true))).own = true ∧ (AV.v (.one (.bool false true))).γ [] = (AV.v (.one (.bool true true))).γ [] := ⟨rfl, rfl⟩
  by_cases h : n > 64
  · have hd : decide (n > 64) = true := decide_eq_true h
    simp only [T.holds, hd, beq_self_eq_true, decide_true, Bool.true_eq_false, Bool.false_eq_true, false_implies, true_implies, forall_const, true_and, and_true, and_self, Nat.zero_le]
    repeat' (first | exact fin | exact c0 | exact hc | exact hs | exact hb | exact c1 | exact c3 | exact rfl | (intro _) | (refine And.intro ?_ ?_))
  · have hd : decide (n > 64) = false := decide_eq_false h
    simp only [T.holds, hd, Nat.zero_add, Nat.mul_one, hel, hcut, beq_self_eq_true, decide_true, Bool.true_eq_false, Bool.false_eq_true, false_implies, true_implies, forall_const, true_and, and_true, and_self, Nat.zero_le, Nat.le_refl]
    repeat' (first | exact fin | exact c0 | exact hc | exact hs | exact hb | exact c1 | exact c3 | exact c4 | exact c5 _ | exact rfl | (intro _) | (refine And.intro ?_ ?_))
end Go.Proofs.Ytmenafkmkcodlaa
