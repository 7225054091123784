/-
  The walk of EvalRuns. Registers and numbers are as they can be.
-/
import Derived.Test.YtmbahohmiecfiaaR8
namespace Go.Proofs.Ytmbahohmiecfiaa
open Go.RowKit sym
set_option linter.unusedVariables false
set_option linter.unusedSimpArgs false
set_option maxRecDepth 100000
theorem runs_tree (w : World) (A : Option Addr) (L : List Int) (m cap : Nat) (qa qf qb qc qd qe qh ql sp pc : Int) (ad va ki ba : Int) (AB : Option Addr) (Bx : List Int) (nb cb : Nat) (ev : Value) (F : Int → Int) :
    callV Try.prog w (flatT Try.prog) (ctrOf l3T) (preOf w (l3P w ev F)) (lpOf Try.prog [mixLp 3 3, mixLp 3 5]) 20 3 [.v (.one (.xr A [.i64, .i64] L m cap)), .v (.agg [.int false .u8 qa, .int false .u8 qf, .int false .u8 qb, .int false .u8 qc, .int false .u8 qd, .int false .u8 qe, .int false .u8 qh, .int false .u8 ql, .int false .u16 sp, .int false .u16 pc, .int false .i64 ad, .int false .i64 va, .int false .i64 ki, .int false .i64 ba, .xr AB [.u8] Bx nb cb])] =
(.br (decide ((↑m : Int) > (400 : Int)))
 (.leaf (.v (.one (.bool true true))))
 (.br (decide ((↑nb : Int) > (400 : Int)))
  (.leaf (.v (.one (.bool true true))))
  (.all fun x : Bool =>
   (.br (x)
    (.chk ((sym.XR w A [IntKind.i64, IntKind.i64] L m ∧ m ≤ cap) ∧ True)
    (.chk (m ≤ (1000000 : Nat))
    (.all fun x_1 : RowR m =>
     (.chk ((x_1.nl = x_1.nl ∧ ((0 : Nat) + m) * [IntKind.i64, IntKind.i64].length ≤ L.length ∧ m ≤ x_1.cap) ∧ True)
     (.chk (m ≤ (1000000 : Nat) ∧
  Go.Value.func (Go.Fn.func (17 : Go.FuncId))
      #[evV qa qf qb qc qd qe qh ql sp pc ad va ki ba AB Bx nb cb] #[] =
    Go.Value.func (Go.Fn.func (17 : Go.FuncId)) #[ev] #[])
     (.chk ((sym.XR w A [IntKind.i64, IntKind.i64] L m ∧ m ≤ cap) ∧ True)
     (.chk (m ≤ (1000000 : Nat) ∧
  RgB qa qf qb qc qd qe qh ql sp pc ad va ki ba ∧
    (∀ (j : Nat), I6 (L.getD j (0 : Int))) ∧
      sym.XR w AB [IntKind.u8] Bx nb ∧ Bs Bx)
     (.all fun x_2 : Bool =>
      (.br (x_2)
       (.chk ((sym.XR w A [IntKind.i64, IntKind.i64] L m ∧ m ≤ cap) ∧ True)
       (.chk (m ≤ (1000000 : Nat))
       (.all fun x_3 : RowR m =>
        (.br ((↑m : Int) == (0 : Int))
         (.br ((↑m : Int) == (0 : Int))
          (.br ((evalL (nameL qa qf qb qc qd qe qh ql sp pc ad va ki ba) F
      (sym.cutL L (0 : Nat) ((0 : Nat) + m) [IntKind.i64, IntKind.i64].length)
      []).fst ==
  (evalL (nameL qa qf qb qc qd qe qh ql sp pc ad va ki ba)
      (pkL Bx nb) L []).fst)
           (.br ((evalL (nameL qa qf qb qc qd qe qh ql sp pc ad va ki ba) F
      (sym.cutL L (0 : Nat) ((0 : Nat) + m) [IntKind.i64, IntKind.i64].length)
      []).snd ==
  (evalL (nameL qa qf qb qc qd qe qh ql sp pc ad va ki ba)
      (pkL Bx nb) L []).snd)
            (.br (decide ((↑m : Int) > (0 : Int)))
             (.leaf (.v (.one (.bool false (false ==
  ((evalL (nameL qa qf qb qc qd qe qh ql sp pc ad va ki ba)
        (pkL Bx nb) L []).snd !=
    (0 : Int)))))))
             (.leaf (.v (.one (.bool true true)))))
            (.leaf (.v (.one (.bool true false)))))
           (.leaf (.v (.one (.bool true false)))))
          (.br ((evalL (nameL qa qf qb qc qd qe qh ql sp pc ad va ki ba)
      (pkL Bx nb) L []).snd !=
  (0 : Int))
           (.br ((evalL (nameL qa qf qb qc qd qe qh ql sp pc ad va ki ba) F
      (sym.cutL L (0 : Nat) ((0 : Nat) + m) [IntKind.i64, IntKind.i64].length)
      []).fst ==
  (evalL (nameL qa qf qb qc qd qe qh ql sp pc ad va ki ba)
      (pkL Bx nb) L []).fst)
            (.br ((evalL (nameL qa qf qb qc qd qe qh ql sp pc ad va ki ba) F
      (sym.cutL L (0 : Nat) ((0 : Nat) + m) [IntKind.i64, IntKind.i64].length)
      []).snd ==
  (evalL (nameL qa qf qb qc qd qe qh ql sp pc ad va ki ba)
      (pkL Bx nb) L []).snd)
             (.br (decide ((↑m : Int) > (0 : Int)))
              (.leaf (.v (.one (.bool false (false ==
  ((evalL (nameL qa qf qb qc qd qe qh ql sp pc ad va ki ba)
        (pkL Bx nb) L []).snd !=
    (0 : Int)))))))
              (.leaf (.v (.one (.bool true true)))))
             (.leaf (.v (.one (.bool true false)))))
            (.leaf (.v (.one (.bool true false)))))
           (.br ((evalL (nameL qa qf qb qc qd qe qh ql sp pc ad va ki ba) F
      (sym.cutL L (0 : Nat) ((0 : Nat) + m) [IntKind.i64, IntKind.i64].length)
      []).fst ==
  (evalL (nameL qa qf qb qc qd qe qh ql sp pc ad va ki ba)
      (pkL Bx nb) L []).fst)
            (.br ((evalL (nameL qa qf qb qc qd qe qh ql sp pc ad va ki ba) F
      (sym.cutL L (0 : Nat) ((0 : Nat) + m) [IntKind.i64, IntKind.i64].length)
      []).snd ==
  (evalL (nameL qa qf qb qc qd qe qh ql sp pc ad va ki ba)
      (pkL Bx nb) L []).snd)
             (.br (true ==
  ((evalL (nameL qa qf qb qc qd qe qh ql sp pc ad va ki ba)
        (pkL Bx nb) L []).fst !=
    (0 : Int)))
              (.br (decide ((↑m : Int) > (0 : Int)))
               (.leaf (.v (.one (.bool false (false ==
  ((evalL (nameL qa qf qb qc qd qe qh ql sp pc ad va ki ba)
        (pkL Bx nb) L []).snd !=
    (0 : Int)))))))
               (.leaf (.v (.one (.bool true true)))))
              (.leaf (.v (.one (.bool true false)))))
             (.leaf (.v (.one (.bool true false)))))
            (.leaf (.v (.one (.bool true false)))))))
         (.chk ((x_3.nl = x_3.nl ∧ ((0 : Nat) + m) * [IntKind.i64, IntKind.i64].length ≤ L.length ∧ m ≤ x_3.cap) ∧ True)
         (.chk (m ≤ (1000000 : Nat) ∧
  Go.Value.func (Go.Fn.func (17 : Go.FuncId))
      #[evV qa qf qb qc qd qe qh ql sp pc ad va ki ba AB Bx nb cb] #[] =
    Go.Value.func (Go.Fn.func (17 : Go.FuncId)) #[ev] #[])
         (.br ((evalL (nameL qa qf qb qc qd qe qh ql sp pc ad va ki ba) F
      (sym.cutL L (0 : Nat) ((0 : Nat) + m) [IntKind.i64, IntKind.i64].length)
      []).fst !=
  (0 : Int))
          (.br ((↑m : Int) == (0 : Int))
           (.br ((evalL (nameL qa qf qb qc qd qe qh ql sp pc ad va ki ba) F
      (sym.cutL L (0 : Nat) ((0 : Nat) + m) [IntKind.i64, IntKind.i64].length)
      []).fst ==
  (evalL (nameL qa qf qb qc qd qe qh ql sp pc ad va ki ba)
      (pkL Bx nb) L []).fst)
            (.br ((evalL (nameL qa qf qb qc qd qe qh ql sp pc ad va ki ba) F
      (sym.cutL L (0 : Nat) ((0 : Nat) + m) [IntKind.i64, IntKind.i64].length)
      []).snd ==
  (evalL (nameL qa qf qb qc qd qe qh ql sp pc ad va ki ba)
      (pkL Bx nb) L []).snd)
             (.br (decide ((↑m : Int) > (0 : Int)))
              (.leaf (.v (.one (.bool false (((evalL (nameL qa qf qb qc qd qe qh ql sp pc ad va ki ba) F
        (sym.cutL L (0 : Nat) ((0 : Nat) + m) [IntKind.i64, IntKind.i64].length)
        []).snd !=
    (0 : Int)) ==
  ((evalL (nameL qa qf qb qc qd qe qh ql sp pc ad va ki ba)
        (pkL Bx nb) L []).snd !=
    (0 : Int)))))))
              (.leaf (.v (.one (.bool false (((evalL (nameL qa qf qb qc qd qe qh ql sp pc ad va ki ba) F
        (sym.cutL L (0 : Nat) ((0 : Nat) + m) [IntKind.i64, IntKind.i64].length)
        []).snd !=
    (0 : Int)) ==
  false))))))
             (.leaf (.v (.one (.bool true false)))))
            (.leaf (.v (.one (.bool true false)))))
           (.br ((evalL (nameL qa qf qb qc qd qe qh ql sp pc ad va ki ba)
      (pkL Bx nb) L []).snd !=
  (0 : Int))
            (.br ((evalL (nameL qa qf qb qc qd qe qh ql sp pc ad va ki ba) F
      (sym.cutL L (0 : Nat) ((0 : Nat) + m) [IntKind.i64, IntKind.i64].length)
      []).fst ==
  (evalL (nameL qa qf qb qc qd qe qh ql sp pc ad va ki ba)
      (pkL Bx nb) L []).fst)
             (.br ((evalL (nameL qa qf qb qc qd qe qh ql sp pc ad va ki ba) F
      (sym.cutL L (0 : Nat) ((0 : Nat) + m) [IntKind.i64, IntKind.i64].length)
      []).snd ==
  (evalL (nameL qa qf qb qc qd qe qh ql sp pc ad va ki ba)
      (pkL Bx nb) L []).snd)
              (.br (decide ((↑m : Int) > (0 : Int)))
               (.leaf (.v (.one (.bool false (((evalL (nameL qa qf qb qc qd qe qh ql sp pc ad va ki ba) F
        (sym.cutL L (0 : Nat) ((0 : Nat) + m) [IntKind.i64, IntKind.i64].length)
        []).snd !=
    (0 : Int)) ==
  ((evalL (nameL qa qf qb qc qd qe qh ql sp pc ad va ki ba)
        (pkL Bx nb) L []).snd !=
    (0 : Int)))))))
               (.leaf (.v (.one (.bool false (((evalL (nameL qa qf qb qc qd qe qh ql sp pc ad va ki ba) F
        (sym.cutL L (0 : Nat) ((0 : Nat) + m) [IntKind.i64, IntKind.i64].length)
        []).snd !=
    (0 : Int)) ==
  false))))))
              (.leaf (.v (.one (.bool true false)))))
             (.leaf (.v (.one (.bool true false)))))
            (.br ((evalL (nameL qa qf qb qc qd qe qh ql sp pc ad va ki ba) F
      (sym.cutL L (0 : Nat) ((0 : Nat) + m) [IntKind.i64, IntKind.i64].length)
      []).fst ==
  (evalL (nameL qa qf qb qc qd qe qh ql sp pc ad va ki ba)
      (pkL Bx nb) L []).fst)
             (.br ((evalL (nameL qa qf qb qc qd qe qh ql sp pc ad va ki ba) F
      (sym.cutL L (0 : Nat) ((0 : Nat) + m) [IntKind.i64, IntKind.i64].length)
      []).snd ==
  (evalL (nameL qa qf qb qc qd qe qh ql sp pc ad va ki ba)
      (pkL Bx nb) L []).snd)
              (.br (true ==
  ((evalL (nameL qa qf qb qc qd qe qh ql sp pc ad va ki ba)
        (pkL Bx nb) L []).fst !=
    (0 : Int)))
               (.br (decide ((↑m : Int) > (0 : Int)))
                (.leaf (.v (.one (.bool false (((evalL (nameL qa qf qb qc qd qe qh ql sp pc ad va ki ba) F
        (sym.cutL L (0 : Nat) ((0 : Nat) + m) [IntKind.i64, IntKind.i64].length)
        []).snd !=
    (0 : Int)) ==
  ((evalL (nameL qa qf qb qc qd qe qh ql sp pc ad va ki ba)
        (pkL Bx nb) L []).snd !=
    (0 : Int)))))))
                (.leaf (.v (.one (.bool false (((evalL (nameL qa qf qb qc qd qe qh ql sp pc ad va ki ba) F
        (sym.cutL L (0 : Nat) ((0 : Nat) + m) [IntKind.i64, IntKind.i64].length)
        []).snd !=
    (0 : Int)) ==
  false))))))
               (.leaf (.v (.one (.bool true false)))))
              (.leaf (.v (.one (.bool true false)))))
             (.leaf (.v (.one (.bool true false)))))))
          (.br ((↑m : Int) == (0 : Int))
           (.br ((evalL (nameL qa qf qb qc qd qe qh ql sp pc ad va ki ba) F
      (sym.cutL L (0 : Nat) ((0 : Nat) + m) [IntKind.i64, IntKind.i64].length)
      []).fst ==
  (evalL (nameL qa qf qb qc qd qe qh ql sp pc ad va ki ba)
      (pkL Bx nb) L []).fst)
            (.br ((evalL (nameL qa qf qb qc qd qe qh ql sp pc ad va ki ba) F
      (sym.cutL L (0 : Nat) ((0 : Nat) + m) [IntKind.i64, IntKind.i64].length)
      []).snd ==
  (evalL (nameL qa qf qb qc qd qe qh ql sp pc ad va ki ba)
      (pkL Bx nb) L []).snd)
             (.br (((evalL (nameL qa qf qb qc qd qe qh ql sp pc ad va ki ba) F
        (sym.cutL L (0 : Nat) ((0 : Nat) + m) [IntKind.i64, IntKind.i64].length)
        []).snd !=
    (0 : Int)) ==
  true)
              (.br (decide ((↑m : Int) > (0 : Int)))
               (.leaf (.v (.one (.bool false (((evalL (nameL qa qf qb qc qd qe qh ql sp pc ad va ki ba) F
        (sym.cutL L (0 : Nat) ((0 : Nat) + m) [IntKind.i64, IntKind.i64].length)
        []).snd !=
    (0 : Int)) ==
  ((evalL (nameL qa qf qb qc qd qe qh ql sp pc ad va ki ba)
        (pkL Bx nb) L []).snd !=
    (0 : Int)))))))
               (.leaf (.v (.one (.bool false (((evalL (nameL qa qf qb qc qd qe qh ql sp pc ad va ki ba) F
        (sym.cutL L (0 : Nat) ((0 : Nat) + m) [IntKind.i64, IntKind.i64].length)
        []).snd !=
    (0 : Int)) ==
  false))))))
              (.leaf (.v (.one (.bool true false)))))
             (.leaf (.v (.one (.bool true false)))))
            (.leaf (.v (.one (.bool true false)))))
           (.br ((evalL (nameL qa qf qb qc qd qe qh ql sp pc ad va ki ba)
      (pkL Bx nb) L []).snd !=
  (0 : Int))
            (.br ((evalL (nameL qa qf qb qc qd qe qh ql sp pc ad va ki ba) F
      (sym.cutL L (0 : Nat) ((0 : Nat) + m) [IntKind.i64, IntKind.i64].length)
      []).fst ==
  (evalL (nameL qa qf qb qc qd qe qh ql sp pc ad va ki ba)
      (pkL Bx nb) L []).fst)
             (.br ((evalL (nameL qa qf qb qc qd qe qh ql sp pc ad va ki ba) F
      (sym.cutL L (0 : Nat) ((0 : Nat) + m) [IntKind.i64, IntKind.i64].length)
      []).snd ==
  (evalL (nameL qa qf qb qc qd qe qh ql sp pc ad va ki ba)
      (pkL Bx nb) L []).snd)
              (.br (((evalL (nameL qa qf qb qc qd qe qh ql sp pc ad va ki ba) F
        (sym.cutL L (0 : Nat) ((0 : Nat) + m) [IntKind.i64, IntKind.i64].length)
        []).snd !=
    (0 : Int)) ==
  true)
               (.br (decide ((↑m : Int) > (0 : Int)))
                (.leaf (.v (.one (.bool false (((evalL (nameL qa qf qb qc qd qe qh ql sp pc ad va ki ba) F
        (sym.cutL L (0 : Nat) ((0 : Nat) + m) [IntKind.i64, IntKind.i64].length)
        []).snd !=
    (0 : Int)) ==
  ((evalL (nameL qa qf qb qc qd qe qh ql sp pc ad va ki ba)
        (pkL Bx nb) L []).snd !=
    (0 : Int)))))))
                (.leaf (.v (.one (.bool false (((evalL (nameL qa qf qb qc qd qe qh ql sp pc ad va ki ba) F
        (sym.cutL L (0 : Nat) ((0 : Nat) + m) [IntKind.i64, IntKind.i64].length)
        []).snd !=
    (0 : Int)) ==
  false))))))
               (.leaf (.v (.one (.bool true false)))))
              (.leaf (.v (.one (.bool true false)))))
             (.leaf (.v (.one (.bool true false)))))
            (.br ((evalL (nameL qa qf qb qc qd qe qh ql sp pc ad va ki ba) F
      (sym.cutL L (0 : Nat) ((0 : Nat) + m) [IntKind.i64, IntKind.i64].length)
      []).fst ==
  (evalL (nameL qa qf qb qc qd qe qh ql sp pc ad va ki ba)
      (pkL Bx nb) L []).fst)
             (.br ((evalL (nameL qa qf qb qc qd qe qh ql sp pc ad va ki ba) F
      (sym.cutL L (0 : Nat) ((0 : Nat) + m) [IntKind.i64, IntKind.i64].length)
      []).snd ==
  (evalL (nameL qa qf qb qc qd qe qh ql sp pc ad va ki ba)
      (pkL Bx nb) L []).snd)
              (.br (((evalL (nameL qa qf qb qc qd qe qh ql sp pc ad va ki ba) F
        (sym.cutL L (0 : Nat) ((0 : Nat) + m) [IntKind.i64, IntKind.i64].length)
        []).snd !=
    (0 : Int)) ==
  ((evalL (nameL qa qf qb qc qd qe qh ql sp pc ad va ki ba)
        (pkL Bx nb) L []).fst !=
    (0 : Int)))
               (.br (decide ((↑m : Int) > (0 : Int)))
                (.leaf (.v (.one (.bool false (((evalL (nameL qa qf qb qc qd qe qh ql sp pc ad va ki ba) F
        (sym.cutL L (0 : Nat) ((0 : Nat) + m) [IntKind.i64, IntKind.i64].length)
        []).snd !=
    (0 : Int)) ==
  ((evalL (nameL qa qf qb qc qd qe qh ql sp pc ad va ki ba)
        (pkL Bx nb) L []).snd !=
    (0 : Int)))))))
                (.leaf (.v (.one (.bool false (((evalL (nameL qa qf qb qc qd qe qh ql sp pc ad va ki ba) F
        (sym.cutL L (0 : Nat) ((0 : Nat) + m) [IntKind.i64, IntKind.i64].length)
        []).snd !=
    (0 : Int)) ==
  false))))))
               (.leaf (.v (.one (.bool true false)))))
              (.leaf (.v (.one (.bool true false)))))
             (.leaf (.v (.one (.bool true false))))))))))))))
       (.chk ((sym.XR w A [IntKind.i64, IntKind.i64] L m ∧ m ≤ cap) ∧ True)
       (.chk (m ≤ (1000000 : Nat))
       (.all fun x_3 : RowR m =>
        (.br ((↑m : Int) == (0 : Int))
         (.br ((↑m : Int) == (0 : Int))
          (.br ((evalL (nameL qa qf qb qc qd qe qh ql sp pc ad va ki ba) F
      (sym.cutL L (0 : Nat) ((0 : Nat) + m) [IntKind.i64, IntKind.i64].length)
      []).fst ==
  (evalL (nameL qa qf qb qc qd qe qh ql sp pc ad va ki ba)
      (pkL Bx nb) L []).fst)
           (.br ((evalL (nameL qa qf qb qc qd qe qh ql sp pc ad va ki ba) F
      (sym.cutL L (0 : Nat) ((0 : Nat) + m) [IntKind.i64, IntKind.i64].length)
      []).snd ==
  (evalL (nameL qa qf qb qc qd qe qh ql sp pc ad va ki ba)
      (pkL Bx nb) L []).snd)
            (.br (decide ((↑m : Int) > (0 : Int)))
             (.leaf (.v (.one (.bool false (false ==
  ((evalL (nameL qa qf qb qc qd qe qh ql sp pc ad va ki ba)
        (pkL Bx nb) L []).snd !=
    (0 : Int)))))))
             (.leaf (.v (.one (.bool true true)))))
            (.leaf (.v (.one (.bool true false)))))
           (.leaf (.v (.one (.bool true false)))))
          (.br ((evalL (nameL qa qf qb qc qd qe qh ql sp pc ad va ki ba)
      (pkL Bx nb) L []).snd !=
  (0 : Int))
           (.br ((evalL (nameL qa qf qb qc qd qe qh ql sp pc ad va ki ba) F
      (sym.cutL L (0 : Nat) ((0 : Nat) + m) [IntKind.i64, IntKind.i64].length)
      []).fst ==
  (evalL (nameL qa qf qb qc qd qe qh ql sp pc ad va ki ba)
      (pkL Bx nb) L []).fst)
            (.br ((evalL (nameL qa qf qb qc qd qe qh ql sp pc ad va ki ba) F
      (sym.cutL L (0 : Nat) ((0 : Nat) + m) [IntKind.i64, IntKind.i64].length)
      []).snd ==
  (evalL (nameL qa qf qb qc qd qe qh ql sp pc ad va ki ba)
      (pkL Bx nb) L []).snd)
             (.br (decide ((↑m : Int) > (0 : Int)))
              (.leaf (.v (.one (.bool false (false ==
  ((evalL (nameL qa qf qb qc qd qe qh ql sp pc ad va ki ba)
        (pkL Bx nb) L []).snd !=
    (0 : Int)))))))
              (.leaf (.v (.one (.bool true true)))))
             (.leaf (.v (.one (.bool true false)))))
            (.leaf (.v (.one (.bool true false)))))
           (.br ((evalL (nameL qa qf qb qc qd qe qh ql sp pc ad va ki ba) F
      (sym.cutL L (0 : Nat) ((0 : Nat) + m) [IntKind.i64, IntKind.i64].length)
      []).fst ==
  (evalL (nameL qa qf qb qc qd qe qh ql sp pc ad va ki ba)
      (pkL Bx nb) L []).fst)
            (.br ((evalL (nameL qa qf qb qc qd qe qh ql sp pc ad va ki ba) F
      (sym.cutL L (0 : Nat) ((0 : Nat) + m) [IntKind.i64, IntKind.i64].length)
      []).snd ==
  (evalL (nameL qa qf qb qc qd qe qh ql sp pc ad va ki ba)
      (pkL Bx nb) L []).snd)
             (.br (true ==
  ((evalL (nameL qa qf qb qc qd qe qh ql sp pc ad va ki ba)
        (pkL Bx nb) L []).fst !=
    (0 : Int)))
              (.br (decide ((↑m : Int) > (0 : Int)))
               (.leaf (.v (.one (.bool false (false ==
  ((evalL (nameL qa qf qb qc qd qe qh ql sp pc ad va ki ba)
        (pkL Bx nb) L []).snd !=
    (0 : Int)))))))
               (.leaf (.v (.one (.bool true true)))))
              (.leaf (.v (.one (.bool true false)))))
             (.leaf (.v (.one (.bool true false)))))
            (.leaf (.v (.one (.bool true false)))))))
         (.chk ((x_3.nl = x_3.nl ∧ ((0 : Nat) + m) * [IntKind.i64, IntKind.i64].length ≤ L.length ∧ m ≤ x_3.cap) ∧ True)
         (.chk (m ≤ (1000000 : Nat) ∧
  Go.Value.func (Go.Fn.func (17 : Go.FuncId))
      #[evV qa qf qb qc qd qe qh ql sp pc ad va ki ba AB Bx nb cb] #[] =
    Go.Value.func (Go.Fn.func (17 : Go.FuncId)) #[ev] #[])
         (.br ((evalL (nameL qa qf qb qc qd qe qh ql sp pc ad va ki ba) F
      (sym.cutL L (0 : Nat) ((0 : Nat) + m) [IntKind.i64, IntKind.i64].length)
      []).fst !=
  (0 : Int))
          (.br ((↑m : Int) == (0 : Int))
           (.br ((evalL (nameL qa qf qb qc qd qe qh ql sp pc ad va ki ba) F
      (sym.cutL L (0 : Nat) ((0 : Nat) + m) [IntKind.i64, IntKind.i64].length)
      []).fst ==
  (evalL (nameL qa qf qb qc qd qe qh ql sp pc ad va ki ba)
      (pkL Bx nb) L []).fst)
            (.br ((evalL (nameL qa qf qb qc qd qe qh ql sp pc ad va ki ba) F
      (sym.cutL L (0 : Nat) ((0 : Nat) + m) [IntKind.i64, IntKind.i64].length)
      []).snd ==
  (evalL (nameL qa qf qb qc qd qe qh ql sp pc ad va ki ba)
      (pkL Bx nb) L []).snd)
             (.br (decide ((↑m : Int) > (0 : Int)))
              (.leaf (.v (.one (.bool false (((evalL (nameL qa qf qb qc qd qe qh ql sp pc ad va ki ba) F
        (sym.cutL L (0 : Nat) ((0 : Nat) + m) [IntKind.i64, IntKind.i64].length)
        []).snd !=
    (0 : Int)) ==
  ((evalL (nameL qa qf qb qc qd qe qh ql sp pc ad va ki ba)
        (pkL Bx nb) L []).snd !=
    (0 : Int)))))))
              (.leaf (.v (.one (.bool false (((evalL (nameL qa qf qb qc qd qe qh ql sp pc ad va ki ba) F
        (sym.cutL L (0 : Nat) ((0 : Nat) + m) [IntKind.i64, IntKind.i64].length)
        []).snd !=
    (0 : Int)) ==
  false))))))
             (.leaf (.v (.one (.bool true false)))))
            (.leaf (.v (.one (.bool true false)))))
           (.br ((evalL (nameL qa qf qb qc qd qe qh ql sp pc ad va ki ba)
      (pkL Bx nb) L []).snd !=
  (0 : Int))
            (.br ((evalL (nameL qa qf qb qc qd qe qh ql sp pc ad va ki ba) F
      (sym.cutL L (0 : Nat) ((0 : Nat) + m) [IntKind.i64, IntKind.i64].length)
      []).fst ==
  (evalL (nameL qa qf qb qc qd qe qh ql sp pc ad va ki ba)
      (pkL Bx nb) L []).fst)
             (.br ((evalL (nameL qa qf qb qc qd qe qh ql sp pc ad va ki ba) F
      (sym.cutL L (0 : Nat) ((0 : Nat) + m) [IntKind.i64, IntKind.i64].length)
      []).snd ==
  (evalL (nameL qa qf qb qc qd qe qh ql sp pc ad va ki ba)
      (pkL Bx nb) L []).snd)
              (.br (decide ((↑m : Int) > (0 : Int)))
               (.leaf (.v (.one (.bool false (((evalL (nameL qa qf qb qc qd qe qh ql sp pc ad va ki ba) F
        (sym.cutL L (0 : Nat) ((0 : Nat) + m) [IntKind.i64, IntKind.i64].length)
        []).snd !=
    (0 : Int)) ==
  ((evalL (nameL qa qf qb qc qd qe qh ql sp pc ad va ki ba)
        (pkL Bx nb) L []).snd !=
    (0 : Int)))))))
               (.leaf (.v (.one (.bool false (((evalL (nameL qa qf qb qc qd qe qh ql sp pc ad va ki ba) F
        (sym.cutL L (0 : Nat) ((0 : Nat) + m) [IntKind.i64, IntKind.i64].length)
        []).snd !=
    (0 : Int)) ==
  false))))))
              (.leaf (.v (.one (.bool true false)))))
             (.leaf (.v (.one (.bool true false)))))
            (.br ((evalL (nameL qa qf qb qc qd qe qh ql sp pc ad va ki ba) F
      (sym.cutL L (0 : Nat) ((0 : Nat) + m) [IntKind.i64, IntKind.i64].length)
      []).fst ==
  (evalL (nameL qa qf qb qc qd qe qh ql sp pc ad va ki ba)
      (pkL Bx nb) L []).fst)
             (.br ((evalL (nameL qa qf qb qc qd qe qh ql sp pc ad va ki ba) F
      (sym.cutL L (0 : Nat) ((0 : Nat) + m) [IntKind.i64, IntKind.i64].length)
      []).snd ==
  (evalL (nameL qa qf qb qc qd qe qh ql sp pc ad va ki ba)
      (pkL Bx nb) L []).snd)
              (.br (true ==
  ((evalL (nameL qa qf qb qc qd qe qh ql sp pc ad va ki ba)
        (pkL Bx nb) L []).fst !=
    (0 : Int)))
               (.br (decide ((↑m : Int) > (0 : Int)))
                (.leaf (.v (.one (.bool false (((evalL (nameL qa qf qb qc qd qe qh ql sp pc ad va ki ba) F
        (sym.cutL L (0 : Nat) ((0 : Nat) + m) [IntKind.i64, IntKind.i64].length)
        []).snd !=
    (0 : Int)) ==
  ((evalL (nameL qa qf qb qc qd qe qh ql sp pc ad va ki ba)
        (pkL Bx nb) L []).snd !=
    (0 : Int)))))))
                (.leaf (.v (.one (.bool false (((evalL (nameL qa qf qb qc qd qe qh ql sp pc ad va ki ba) F
        (sym.cutL L (0 : Nat) ((0 : Nat) + m) [IntKind.i64, IntKind.i64].length)
        []).snd !=
    (0 : Int)) ==
  false))))))
               (.leaf (.v (.one (.bool true false)))))
              (.leaf (.v (.one (.bool true false)))))
             (.leaf (.v (.one (.bool true false)))))))
          (.br ((↑m : Int) == (0 : Int))
           (.br ((evalL (nameL qa qf qb qc qd qe qh ql sp pc ad va ki ba) F
      (sym.cutL L (0 : Nat) ((0 : Nat) + m) [IntKind.i64, IntKind.i64].length)
      []).fst ==
  (evalL (nameL qa qf qb qc qd qe qh ql sp pc ad va ki ba)
      (pkL Bx nb) L []).fst)
            (.br ((evalL (nameL qa qf qb qc qd qe qh ql sp pc ad va ki ba) F
      (sym.cutL L (0 : Nat) ((0 : Nat) + m) [IntKind.i64, IntKind.i64].length)
      []).snd ==
  (evalL (nameL qa qf qb qc qd qe qh ql sp pc ad va ki ba)
      (pkL Bx nb) L []).snd)
             (.br (((evalL (nameL qa qf qb qc qd qe qh ql sp pc ad va ki ba) F
        (sym.cutL L (0 : Nat) ((0 : Nat) + m) [IntKind.i64, IntKind.i64].length)
        []).snd !=
    (0 : Int)) ==
  true)
              (.br (decide ((↑m : Int) > (0 : Int)))
               (.leaf (.v (.one (.bool false (((evalL (nameL qa qf qb qc qd qe qh ql sp pc ad va ki ba) F
        (sym.cutL L (0 : Nat) ((0 : Nat) + m) [IntKind.i64, IntKind.i64].length)
        []).snd !=
    (0 : Int)) ==
  ((evalL (nameL qa qf qb qc qd qe qh ql sp pc ad va ki ba)
        (pkL Bx nb) L []).snd !=
    (0 : Int)))))))
               (.leaf (.v (.one (.bool false (((evalL (nameL qa qf qb qc qd qe qh ql sp pc ad va ki ba) F
        (sym.cutL L (0 : Nat) ((0 : Nat) + m) [IntKind.i64, IntKind.i64].length)
        []).snd !=
    (0 : Int)) ==
  false))))))
              (.leaf (.v (.one (.bool true false)))))
             (.leaf (.v (.one (.bool true false)))))
            (.leaf (.v (.one (.bool true false)))))
           (.br ((evalL (nameL qa qf qb qc qd qe qh ql sp pc ad va ki ba)
      (pkL Bx nb) L []).snd !=
  (0 : Int))
            (.br ((evalL (nameL qa qf qb qc qd qe qh ql sp pc ad va ki ba) F
      (sym.cutL L (0 : Nat) ((0 : Nat) + m) [IntKind.i64, IntKind.i64].length)
      []).fst ==
  (evalL (nameL qa qf qb qc qd qe qh ql sp pc ad va ki ba)
      (pkL Bx nb) L []).fst)
             (.br ((evalL (nameL qa qf qb qc qd qe qh ql sp pc ad va ki ba) F
      (sym.cutL L (0 : Nat) ((0 : Nat) + m) [IntKind.i64, IntKind.i64].length)
      []).snd ==
  (evalL (nameL qa qf qb qc qd qe qh ql sp pc ad va ki ba)
      (pkL Bx nb) L []).snd)
              (.br (((evalL (nameL qa qf qb qc qd qe qh ql sp pc ad va ki ba) F
        (sym.cutL L (0 : Nat) ((0 : Nat) + m) [IntKind.i64, IntKind.i64].length)
        []).snd !=
    (0 : Int)) ==
  true)
               (.br (decide ((↑m : Int) > (0 : Int)))
                (.leaf (.v (.one (.bool false (((evalL (nameL qa qf qb qc qd qe qh ql sp pc ad va ki ba) F
        (sym.cutL L (0 : Nat) ((0 : Nat) + m) [IntKind.i64, IntKind.i64].length)
        []).snd !=
    (0 : Int)) ==
  ((evalL (nameL qa qf qb qc qd qe qh ql sp pc ad va ki ba)
        (pkL Bx nb) L []).snd !=
    (0 : Int)))))))
                (.leaf (.v (.one (.bool false (((evalL (nameL qa qf qb qc qd qe qh ql sp pc ad va ki ba) F
        (sym.cutL L (0 : Nat) ((0 : Nat) + m) [IntKind.i64, IntKind.i64].length)
        []).snd !=
    (0 : Int)) ==
  false))))))
               (.leaf (.v (.one (.bool true false)))))
              (.leaf (.v (.one (.bool true false)))))
             (.leaf (.v (.one (.bool true false)))))
            (.br ((evalL (nameL qa qf qb qc qd qe qh ql sp pc ad va ki ba) F
      (sym.cutL L (0 : Nat) ((0 : Nat) + m) [IntKind.i64, IntKind.i64].length)
      []).fst ==
  (evalL (nameL qa qf qb qc qd qe qh ql sp pc ad va ki ba)
      (pkL Bx nb) L []).fst)
             (.br ((evalL (nameL qa qf qb qc qd qe qh ql sp pc ad va ki ba) F
      (sym.cutL L (0 : Nat) ((0 : Nat) + m) [IntKind.i64, IntKind.i64].length)
      []).snd ==
  (evalL (nameL qa qf qb qc qd qe qh ql sp pc ad va ki ba)
      (pkL Bx nb) L []).snd)
              (.br (((evalL (nameL qa qf qb qc qd qe qh ql sp pc ad va ki ba) F
        (sym.cutL L (0 : Nat) ((0 : Nat) + m) [IntKind.i64, IntKind.i64].length)
        []).snd !=
    (0 : Int)) ==
  ((evalL (nameL qa qf qb qc qd qe qh ql sp pc ad va ki ba)
        (pkL Bx nb) L []).fst !=
    (0 : Int)))
               (.br (decide ((↑m : Int) > (0 : Int)))
                (.leaf (.v (.one (.bool false (((evalL (nameL qa qf qb qc qd qe qh ql sp pc ad va ki ba) F
        (sym.cutL L (0 : Nat) ((0 : Nat) + m) [IntKind.i64, IntKind.i64].length)
        []).snd !=
    (0 : Int)) ==
  ((evalL (nameL qa qf qb qc qd qe qh ql sp pc ad va ki ba)
        (pkL Bx nb) L []).snd !=
    (0 : Int)))))))
                (.leaf (.v (.one (.bool false (((evalL (nameL qa qf qb qc qd qe qh ql sp pc ad va ki ba) F
        (sym.cutL L (0 : Nat) ((0 : Nat) + m) [IntKind.i64, IntKind.i64].length)
        []).snd !=
    (0 : Int)) ==
  false))))))
               (.leaf (.v (.one (.bool true false)))))
              (.leaf (.v (.one (.bool true false)))))
             (.leaf (.v (.one (.bool true false)))))))))))))))))))))))
    (.chk ((sym.XR w A [IntKind.i64, IntKind.i64] L m ∧ m ≤ cap) ∧ True)
    (.chk (m ≤ (1000000 : Nat))
    (.all fun x_1 : RowR m =>
     (.chk ((x_1.nl = x_1.nl ∧ ((0 : Nat) + m) * [IntKind.i64, IntKind.i64].length ≤ L.length ∧ m ≤ x_1.cap) ∧ True)
     (.chk (m ≤ (1000000 : Nat) ∧
  Go.Value.func (Go.Fn.func (17 : Go.FuncId))
      #[evV qa qf qb qc qd qe qh ql sp pc ad va ki ba AB Bx nb cb] #[] =
    Go.Value.func (Go.Fn.func (17 : Go.FuncId)) #[ev] #[])
     (.chk ((sym.XR w A [IntKind.i64, IntKind.i64] L m ∧ m ≤ cap) ∧ True)
     (.chk (m ≤ (1000000 : Nat) ∧
  RgB qa qf qb qc qd qe qh ql sp pc ad va ki ba ∧
    (∀ (j : Nat), I6 (L.getD j (0 : Int))) ∧
      sym.XR w AB [IntKind.u8] Bx nb ∧ Bs Bx)
     (.all fun x_2 : Bool =>
      (.br (x_2)
       (.chk ((sym.XR w A [IntKind.i64, IntKind.i64] L m ∧ m ≤ cap) ∧ True)
       (.chk (m ≤ (1000000 : Nat))
       (.all fun x_3 : RowR m =>
        (.br ((↑m : Int) == (0 : Int))
         (.br ((↑m : Int) == (0 : Int))
          (.br ((evalL (nameL qa qf qb qc qd qe qh ql sp pc ad va ki ba) F
      (sym.cutL L (0 : Nat) ((0 : Nat) + m) [IntKind.i64, IntKind.i64].length)
      []).fst ==
  (evalL (nameL qa qf qb qc qd qe qh ql sp pc ad va ki ba)
      (pkL Bx nb) L []).fst)
           (.br ((evalL (nameL qa qf qb qc qd qe qh ql sp pc ad va ki ba) F
      (sym.cutL L (0 : Nat) ((0 : Nat) + m) [IntKind.i64, IntKind.i64].length)
      []).snd ==
  (evalL (nameL qa qf qb qc qd qe qh ql sp pc ad va ki ba)
      (pkL Bx nb) L []).snd)
            (.br (decide ((↑m : Int) > (0 : Int)))
             (.leaf (.v (.one (.bool false (false ==
  ((evalL (nameL qa qf qb qc qd qe qh ql sp pc ad va ki ba)
        (pkL Bx nb) L []).snd !=
    (0 : Int)))))))
             (.leaf (.v (.one (.bool true true)))))
            (.leaf (.v (.one (.bool true false)))))
           (.leaf (.v (.one (.bool true false)))))
          (.br ((evalL (nameL qa qf qb qc qd qe qh ql sp pc ad va ki ba)
      (pkL Bx nb) L []).snd !=
  (0 : Int))
           (.br ((evalL (nameL qa qf qb qc qd qe qh ql sp pc ad va ki ba) F
      (sym.cutL L (0 : Nat) ((0 : Nat) + m) [IntKind.i64, IntKind.i64].length)
      []).fst ==
  (evalL (nameL qa qf qb qc qd qe qh ql sp pc ad va ki ba)
      (pkL Bx nb) L []).fst)
            (.br ((evalL (nameL qa qf qb qc qd qe qh ql sp pc ad va ki ba) F
      (sym.cutL L (0 : Nat) ((0 : Nat) + m) [IntKind.i64, IntKind.i64].length)
      []).snd ==
  (evalL (nameL qa qf qb qc qd qe qh ql sp pc ad va ki ba)
      (pkL Bx nb) L []).snd)
             (.br (decide ((↑m : Int) > (0 : Int)))
              (.leaf (.v (.one (.bool false (false ==
  ((evalL (nameL qa qf qb qc qd qe qh ql sp pc ad va ki ba)
        (pkL Bx nb) L []).snd !=
    (0 : Int)))))))
              (.leaf (.v (.one (.bool true true)))))
             (.leaf (.v (.one (.bool true false)))))
            (.leaf (.v (.one (.bool true false)))))
           (.br ((evalL (nameL qa qf qb qc qd qe qh ql sp pc ad va ki ba) F
      (sym.cutL L (0 : Nat) ((0 : Nat) + m) [IntKind.i64, IntKind.i64].length)
      []).fst ==
  (evalL (nameL qa qf qb qc qd qe qh ql sp pc ad va ki ba)
      (pkL Bx nb) L []).fst)
            (.br ((evalL (nameL qa qf qb qc qd qe qh ql sp pc ad va ki ba) F
      (sym.cutL L (0 : Nat) ((0 : Nat) + m) [IntKind.i64, IntKind.i64].length)
      []).snd ==
  (evalL (nameL qa qf qb qc qd qe qh ql sp pc ad va ki ba)
      (pkL Bx nb) L []).snd)
             (.br (true ==
  ((evalL (nameL qa qf qb qc qd qe qh ql sp pc ad va ki ba)
        (pkL Bx nb) L []).fst !=
    (0 : Int)))
              (.br (decide ((↑m : Int) > (0 : Int)))
               (.leaf (.v (.one (.bool false (false ==
  ((evalL (nameL qa qf qb qc qd qe qh ql sp pc ad va ki ba)
        (pkL Bx nb) L []).snd !=
    (0 : Int)))))))
               (.leaf (.v (.one (.bool true true)))))
              (.leaf (.v (.one (.bool true false)))))
             (.leaf (.v (.one (.bool true false)))))
            (.leaf (.v (.one (.bool true false)))))))
         (.chk ((x_3.nl = x_3.nl ∧ ((0 : Nat) + m) * [IntKind.i64, IntKind.i64].length ≤ L.length ∧ m ≤ x_3.cap) ∧ True)
         (.chk (m ≤ (1000000 : Nat) ∧
  Go.Value.func (Go.Fn.func (17 : Go.FuncId))
      #[evV qa qf qb qc qd qe qh ql sp pc ad va ki ba AB Bx nb cb] #[] =
    Go.Value.func (Go.Fn.func (17 : Go.FuncId)) #[ev] #[])
         (.br ((evalL (nameL qa qf qb qc qd qe qh ql sp pc ad va ki ba) F
      (sym.cutL L (0 : Nat) ((0 : Nat) + m) [IntKind.i64, IntKind.i64].length)
      []).fst !=
  (0 : Int))
          (.br ((↑m : Int) == (0 : Int))
           (.br ((evalL (nameL qa qf qb qc qd qe qh ql sp pc ad va ki ba) F
      (sym.cutL L (0 : Nat) ((0 : Nat) + m) [IntKind.i64, IntKind.i64].length)
      []).fst ==
  (evalL (nameL qa qf qb qc qd qe qh ql sp pc ad va ki ba)
      (pkL Bx nb) L []).fst)
            (.br ((evalL (nameL qa qf qb qc qd qe qh ql sp pc ad va ki ba) F
      (sym.cutL L (0 : Nat) ((0 : Nat) + m) [IntKind.i64, IntKind.i64].length)
      []).snd ==
  (evalL (nameL qa qf qb qc qd qe qh ql sp pc ad va ki ba)
      (pkL Bx nb) L []).snd)
             (.br (decide ((↑m : Int) > (0 : Int)))
              (.leaf (.v (.one (.bool false (((evalL (nameL qa qf qb qc qd qe qh ql sp pc ad va ki ba) F
        (sym.cutL L (0 : Nat) ((0 : Nat) + m) [IntKind.i64, IntKind.i64].length)
        []).snd !=
    (0 : Int)) ==
  ((evalL (nameL qa qf qb qc qd qe qh ql sp pc ad va ki ba)
        (pkL Bx nb) L []).snd !=
    (0 : Int)))))))
              (.leaf (.v (.one (.bool false (((evalL (nameL qa qf qb qc qd qe qh ql sp pc ad va ki ba) F
        (sym.cutL L (0 : Nat) ((0 : Nat) + m) [IntKind.i64, IntKind.i64].length)
        []).snd !=
    (0 : Int)) ==
  false))))))
             (.leaf (.v (.one (.bool true false)))))
            (.leaf (.v (.one (.bool true false)))))
           (.br ((evalL (nameL qa qf qb qc qd qe qh ql sp pc ad va ki ba)
      (pkL Bx nb) L []).snd !=
  (0 : Int))
            (.br ((evalL (nameL qa qf qb qc qd qe qh ql sp pc ad va ki ba) F
      (sym.cutL L (0 : Nat) ((0 : Nat) + m) [IntKind.i64, IntKind.i64].length)
      []).fst ==
  (evalL (nameL qa qf qb qc qd qe qh ql sp pc ad va ki ba)
      (pkL Bx nb) L []).fst)
             (.br ((evalL (nameL qa qf qb qc qd qe qh ql sp pc ad va ki ba) F
      (sym.cutL L (0 : Nat) ((0 : Nat) + m) [IntKind.i64, IntKind.i64].length)
      []).snd ==
  (evalL (nameL qa qf qb qc qd qe qh ql sp pc ad va ki ba)
      (pkL Bx nb) L []).snd)
              (.br (decide ((↑m : Int) > (0 : Int)))
               (.leaf (.v (.one (.bool false (((evalL (nameL qa qf qb qc qd qe qh ql sp pc ad va ki ba) F
        (sym.cutL L (0 : Nat) ((0 : Nat) + m) [IntKind.i64, IntKind.i64].length)
        []).snd !=
    (0 : Int)) ==
  ((evalL (nameL qa qf qb qc qd qe qh ql sp pc ad va ki ba)
        (pkL Bx nb) L []).snd !=
    (0 : Int)))))))
               (.leaf (.v (.one (.bool false (((evalL (nameL qa qf qb qc qd qe qh ql sp pc ad va ki ba) F
        (sym.cutL L (0 : Nat) ((0 : Nat) + m) [IntKind.i64, IntKind.i64].length)
        []).snd !=
    (0 : Int)) ==
  false))))))
              (.leaf (.v (.one (.bool true false)))))
             (.leaf (.v (.one (.bool true false)))))
            (.br ((evalL (nameL qa qf qb qc qd qe qh ql sp pc ad va ki ba) F
      (sym.cutL L (0 : Nat) ((0 : Nat) + m) [IntKind.i64, IntKind.i64].length)
      []).fst ==
  (evalL (nameL qa qf qb qc qd qe qh ql sp pc ad va ki ba)
      (pkL Bx nb) L []).fst)
             (.br ((evalL (nameL qa qf qb qc qd qe qh ql sp pc ad va ki ba) F
      (sym.cutL L (0 : Nat) ((0 : Nat) + m) [IntKind.i64, IntKind.i64].length)
      []).snd ==
  (evalL (nameL qa qf qb qc qd qe qh ql sp pc ad va ki ba)
      (pkL Bx nb) L []).snd)
              (.br (true ==
  ((evalL (nameL qa qf qb qc qd qe qh ql sp pc ad va ki ba)
        (pkL Bx nb) L []).fst !=
    (0 : Int)))
               (.br (decide ((↑m : Int) > (0 : Int)))
                (.leaf (.v (.one (.bool false (((evalL (nameL qa qf qb qc qd qe qh ql sp pc ad va ki ba) F
        (sym.cutL L (0 : Nat) ((0 : Nat) + m) [IntKind.i64, IntKind.i64].length)
        []).snd !=
    (0 : Int)) ==
  ((evalL (nameL qa qf qb qc qd qe qh ql sp pc ad va ki ba)
        (pkL Bx nb) L []).snd !=
    (0 : Int)))))))
                (.leaf (.v (.one (.bool false (((evalL (nameL qa qf qb qc qd qe qh ql sp pc ad va ki ba) F
        (sym.cutL L (0 : Nat) ((0 : Nat) + m) [IntKind.i64, IntKind.i64].length)
        []).snd !=
    (0 : Int)) ==
  false))))))
               (.leaf (.v (.one (.bool true false)))))
              (.leaf (.v (.one (.bool true false)))))
             (.leaf (.v (.one (.bool true false)))))))
          (.br ((↑m : Int) == (0 : Int))
           (.br ((evalL (nameL qa qf qb qc qd qe qh ql sp pc ad va ki ba) F
      (sym.cutL L (0 : Nat) ((0 : Nat) + m) [IntKind.i64, IntKind.i64].length)
      []).fst ==
  (evalL (nameL qa qf qb qc qd qe qh ql sp pc ad va ki ba)
      (pkL Bx nb) L []).fst)
            (.br ((evalL (nameL qa qf qb qc qd qe qh ql sp pc ad va ki ba) F
      (sym.cutL L (0 : Nat) ((0 : Nat) + m) [IntKind.i64, IntKind.i64].length)
      []).snd ==
  (evalL (nameL qa qf qb qc qd qe qh ql sp pc ad va ki ba)
      (pkL Bx nb) L []).snd)
             (.br (((evalL (nameL qa qf qb qc qd qe qh ql sp pc ad va ki ba) F
        (sym.cutL L (0 : Nat) ((0 : Nat) + m) [IntKind.i64, IntKind.i64].length)
        []).snd !=
    (0 : Int)) ==
  true)
              (.br (decide ((↑m : Int) > (0 : Int)))
               (.leaf (.v (.one (.bool false (((evalL (nameL qa qf qb qc qd qe qh ql sp pc ad va ki ba) F
        (sym.cutL L (0 : Nat) ((0 : Nat) + m) [IntKind.i64, IntKind.i64].length)
        []).snd !=
    (0 : Int)) ==
  ((evalL (nameL qa qf qb qc qd qe qh ql sp pc ad va ki ba)
        (pkL Bx nb) L []).snd !=
    (0 : Int)))))))
               (.leaf (.v (.one (.bool false (((evalL (nameL qa qf qb qc qd qe qh ql sp pc ad va ki ba) F
        (sym.cutL L (0 : Nat) ((0 : Nat) + m) [IntKind.i64, IntKind.i64].length)
        []).snd !=
    (0 : Int)) ==
  false))))))
              (.leaf (.v (.one (.bool true false)))))
             (.leaf (.v (.one (.bool true false)))))
            (.leaf (.v (.one (.bool true false)))))
           (.br ((evalL (nameL qa qf qb qc qd qe qh ql sp pc ad va ki ba)
      (pkL Bx nb) L []).snd !=
  (0 : Int))
            (.br ((evalL (nameL qa qf qb qc qd qe qh ql sp pc ad va ki ba) F
      (sym.cutL L (0 : Nat) ((0 : Nat) + m) [IntKind.i64, IntKind.i64].length)
      []).fst ==
  (evalL (nameL qa qf qb qc qd qe qh ql sp pc ad va ki ba)
      (pkL Bx nb) L []).fst)
             (.br ((evalL (nameL qa qf qb qc qd qe qh ql sp pc ad va ki ba) F
      (sym.cutL L (0 : Nat) ((0 : Nat) + m) [IntKind.i64, IntKind.i64].length)
      []).snd ==
  (evalL (nameL qa qf qb qc qd qe qh ql sp pc ad va ki ba)
      (pkL Bx nb) L []).snd)
              (.br (((evalL (nameL qa qf qb qc qd qe qh ql sp pc ad va ki ba) F
        (sym.cutL L (0 : Nat) ((0 : Nat) + m) [IntKind.i64, IntKind.i64].length)
        []).snd !=
    (0 : Int)) ==
  true)
               (.br (decide ((↑m : Int) > (0 : Int)))
                (.leaf (.v (.one (.bool false (((evalL (nameL qa qf qb qc qd qe qh ql sp pc ad va ki ba) F
        (sym.cutL L (0 : Nat) ((0 : Nat) + m) [IntKind.i64, IntKind.i64].length)
        []).snd !=
    (0 : Int)) ==
  ((evalL (nameL qa qf qb qc qd qe qh ql sp pc ad va ki ba)
        (pkL Bx nb) L []).snd !=
    (0 : Int)))))))
                (.leaf (.v (.one (.bool false (((evalL (nameL qa qf qb qc qd qe qh ql sp pc ad va ki ba) F
        (sym.cutL L (0 : Nat) ((0 : Nat) + m) [IntKind.i64, IntKind.i64].length)
        []).snd !=
    (0 : Int)) ==
  false))))))
               (.leaf (.v (.one (.bool true false)))))
              (.leaf (.v (.one (.bool true false)))))
             (.leaf (.v (.one (.bool true false)))))
            (.br ((evalL (nameL qa qf qb qc qd qe qh ql sp pc ad va ki ba) F
      (sym.cutL L (0 : Nat) ((0 : Nat) + m) [IntKind.i64, IntKind.i64].length)
      []).fst ==
  (evalL (nameL qa qf qb qc qd qe qh ql sp pc ad va ki ba)
      (pkL Bx nb) L []).fst)
             (.br ((evalL (nameL qa qf qb qc qd qe qh ql sp pc ad va ki ba) F
      (sym.cutL L (0 : Nat) ((0 : Nat) + m) [IntKind.i64, IntKind.i64].length)
      []).snd ==
  (evalL (nameL qa qf qb qc qd qe qh ql sp pc ad va ki ba)
      (pkL Bx nb) L []).snd)
              (.br (((evalL (nameL qa qf qb qc qd qe qh ql sp pc ad va ki ba) F
        (sym.cutL L (0 : Nat) ((0 : Nat) + m) [IntKind.i64, IntKind.i64].length)
        []).snd !=
    (0 : Int)) ==
  ((evalL (nameL qa qf qb qc qd qe qh ql sp pc ad va ki ba)
        (pkL Bx nb) L []).fst !=
    (0 : Int)))
               (.br (decide ((↑m : Int) > (0 : Int)))
                (.leaf (.v (.one (.bool false (((evalL (nameL qa qf qb qc qd qe qh ql sp pc ad va ki ba) F
        (sym.cutL L (0 : Nat) ((0 : Nat) + m) [IntKind.i64, IntKind.i64].length)
        []).snd !=
    (0 : Int)) ==
  ((evalL (nameL qa qf qb qc qd qe qh ql sp pc ad va ki ba)
        (pkL Bx nb) L []).snd !=
    (0 : Int)))))))
                (.leaf (.v (.one (.bool false (((evalL (nameL qa qf qb qc qd qe qh ql sp pc ad va ki ba) F
        (sym.cutL L (0 : Nat) ((0 : Nat) + m) [IntKind.i64, IntKind.i64].length)
        []).snd !=
    (0 : Int)) ==
  false))))))
               (.leaf (.v (.one (.bool true false)))))
              (.leaf (.v (.one (.bool true false)))))
             (.leaf (.v (.one (.bool true false))))))))))))))
       (.chk ((sym.XR w A [IntKind.i64, IntKind.i64] L m ∧ m ≤ cap) ∧ True)
       (.chk (m ≤ (1000000 : Nat))
       (.all fun x_3 : RowR m =>
        (.br ((↑m : Int) == (0 : Int))
         (.br ((↑m : Int) == (0 : Int))
          (.br ((evalL (nameL qa qf qb qc qd qe qh ql sp pc ad va ki ba) F
      (sym.cutL L (0 : Nat) ((0 : Nat) + m) [IntKind.i64, IntKind.i64].length)
      []).fst ==
  (evalL (nameL qa qf qb qc qd qe qh ql sp pc ad va ki ba)
      (pkL Bx nb) L []).fst)
           (.br ((evalL (nameL qa qf qb qc qd qe qh ql sp pc ad va ki ba) F
      (sym.cutL L (0 : Nat) ((0 : Nat) + m) [IntKind.i64, IntKind.i64].length)
      []).snd ==
  (evalL (nameL qa qf qb qc qd qe qh ql sp pc ad va ki ba)
      (pkL Bx nb) L []).snd)
            (.br (decide ((↑m : Int) > (0 : Int)))
             (.leaf (.v (.one (.bool false (false ==
  ((evalL (nameL qa qf qb qc qd qe qh ql sp pc ad va ki ba)
        (pkL Bx nb) L []).snd !=
    (0 : Int)))))))
             (.leaf (.v (.one (.bool true true)))))
            (.leaf (.v (.one (.bool true false)))))
           (.leaf (.v (.one (.bool true false)))))
          (.br ((evalL (nameL qa qf qb qc qd qe qh ql sp pc ad va ki ba)
      (pkL Bx nb) L []).snd !=
  (0 : Int))
           (.br ((evalL (nameL qa qf qb qc qd qe qh ql sp pc ad va ki ba) F
      (sym.cutL L (0 : Nat) ((0 : Nat) + m) [IntKind.i64, IntKind.i64].length)
      []).fst ==
  (evalL (nameL qa qf qb qc qd qe qh ql sp pc ad va ki ba)
      (pkL Bx nb) L []).fst)
            (.br ((evalL (nameL qa qf qb qc qd qe qh ql sp pc ad va ki ba) F
      (sym.cutL L (0 : Nat) ((0 : Nat) + m) [IntKind.i64, IntKind.i64].length)
      []).snd ==
  (evalL (nameL qa qf qb qc qd qe qh ql sp pc ad va ki ba)
      (pkL Bx nb) L []).snd)
             (.br (decide ((↑m : Int) > (0 : Int)))
              (.leaf (.v (.one (.bool false (false ==
  ((evalL (nameL qa qf qb qc qd qe qh ql sp pc ad va ki ba)
        (pkL Bx nb) L []).snd !=
    (0 : Int)))))))
              (.leaf (.v (.one (.bool true true)))))
             (.leaf (.v (.one (.bool true false)))))
            (.leaf (.v (.one (.bool true false)))))
           (.br ((evalL (nameL qa qf qb qc qd qe qh ql sp pc ad va ki ba) F
      (sym.cutL L (0 : Nat) ((0 : Nat) + m) [IntKind.i64, IntKind.i64].length)
      []).fst ==
  (evalL (nameL qa qf qb qc qd qe qh ql sp pc ad va ki ba)
      (pkL Bx nb) L []).fst)
            (.br ((evalL (nameL qa qf qb qc qd qe qh ql sp pc ad va ki ba) F
      (sym.cutL L (0 : Nat) ((0 : Nat) + m) [IntKind.i64, IntKind.i64].length)
      []).snd ==
  (evalL (nameL qa qf qb qc qd qe qh ql sp pc ad va ki ba)
      (pkL Bx nb) L []).snd)
             (.br (true ==
  ((evalL (nameL qa qf qb qc qd qe qh ql sp pc ad va ki ba)
        (pkL Bx nb) L []).fst !=
    (0 : Int)))
              (.br (decide ((↑m : Int) > (0 : Int)))
               (.leaf (.v (.one (.bool false (false ==
  ((evalL (nameL qa qf qb qc qd qe qh ql sp pc ad va ki ba)
        (pkL Bx nb) L []).snd !=
    (0 : Int)))))))
               (.leaf (.v (.one (.bool true true)))))
              (.leaf (.v (.one (.bool true false)))))
             (.leaf (.v (.one (.bool true false)))))
            (.leaf (.v (.one (.bool true false)))))))
         (.chk ((x_3.nl = x_3.nl ∧ ((0 : Nat) + m) * [IntKind.i64, IntKind.i64].length ≤ L.length ∧ m ≤ x_3.cap) ∧ True)
         (.chk (m ≤ (1000000 : Nat) ∧
  Go.Value.func (Go.Fn.func (17 : Go.FuncId))
      #[evV qa qf qb qc qd qe qh ql sp pc ad va ki ba AB Bx nb cb] #[] =
    Go.Value.func (Go.Fn.func (17 : Go.FuncId)) #[ev] #[])
         (.br ((evalL (nameL qa qf qb qc qd qe qh ql sp pc ad va ki ba) F
      (sym.cutL L (0 : Nat) ((0 : Nat) + m) [IntKind.i64, IntKind.i64].length)
      []).fst !=
  (0 : Int))
          (.br ((↑m : Int) == (0 : Int))
           (.br ((evalL (nameL qa qf qb qc qd qe qh ql sp pc ad va ki ba) F
      (sym.cutL L (0 : Nat) ((0 : Nat) + m) [IntKind.i64, IntKind.i64].length)
      []).fst ==
  (evalL (nameL qa qf qb qc qd qe qh ql sp pc ad va ki ba)
      (pkL Bx nb) L []).fst)
            (.br ((evalL (nameL qa qf qb qc qd qe qh ql sp pc ad va ki ba) F
      (sym.cutL L (0 : Nat) ((0 : Nat) + m) [IntKind.i64, IntKind.i64].length)
      []).snd ==
  (evalL (nameL qa qf qb qc qd qe qh ql sp pc ad va ki ba)
      (pkL Bx nb) L []).snd)
             (.br (decide ((↑m : Int) > (0 : Int)))
              (.leaf (.v (.one (.bool false (((evalL (nameL qa qf qb qc qd qe qh ql sp pc ad va ki ba) F
        (sym.cutL L (0 : Nat) ((0 : Nat) + m) [IntKind.i64, IntKind.i64].length)
        []).snd !=
    (0 : Int)) ==
  ((evalL (nameL qa qf qb qc qd qe qh ql sp pc ad va ki ba)
        (pkL Bx nb) L []).snd !=
    (0 : Int)))))))
              (.leaf (.v (.one (.bool false (((evalL (nameL qa qf qb qc qd qe qh ql sp pc ad va ki ba) F
        (sym.cutL L (0 : Nat) ((0 : Nat) + m) [IntKind.i64, IntKind.i64].length)
        []).snd !=
    (0 : Int)) ==
  false))))))
             (.leaf (.v (.one (.bool true false)))))
            (.leaf (.v (.one (.bool true false)))))
           (.br ((evalL (nameL qa qf qb qc qd qe qh ql sp pc ad va ki ba)
      (pkL Bx nb) L []).snd !=
  (0 : Int))
            (.br ((evalL (nameL qa qf qb qc qd qe qh ql sp pc ad va ki ba) F
      (sym.cutL L (0 : Nat) ((0 : Nat) + m) [IntKind.i64, IntKind.i64].length)
      []).fst ==
  (evalL (nameL qa qf qb qc qd qe qh ql sp pc ad va ki ba)
      (pkL Bx nb) L []).fst)
             (.br ((evalL (nameL qa qf qb qc qd qe qh ql sp pc ad va ki ba) F
      (sym.cutL L (0 : Nat) ((0 : Nat) + m) [IntKind.i64, IntKind.i64].length)
      []).snd ==
  (evalL (nameL qa qf qb qc qd qe qh ql sp pc ad va ki ba)
      (pkL Bx nb) L []).snd)
              (.br (decide ((↑m : Int) > (0 : Int)))
               (.leaf (.v (.one (.bool false (((evalL (nameL qa qf qb qc qd qe qh ql sp pc ad va ki ba) F
        (sym.cutL L (0 : Nat) ((0 : Nat) + m) [IntKind.i64, IntKind.i64].length)
        []).snd !=
    (0 : Int)) ==
  ((evalL (nameL qa qf qb qc qd qe qh ql sp pc ad va ki ba)
        (pkL Bx nb) L []).snd !=
    (0 : Int)))))))
               (.leaf (.v (.one (.bool false (((evalL (nameL qa qf qb qc qd qe qh ql sp pc ad va ki ba) F
        (sym.cutL L (0 : Nat) ((0 : Nat) + m) [IntKind.i64, IntKind.i64].length)
        []).snd !=
    (0 : Int)) ==
  false))))))
              (.leaf (.v (.one (.bool true false)))))
             (.leaf (.v (.one (.bool true false)))))
            (.br ((evalL (nameL qa qf qb qc qd qe qh ql sp pc ad va ki ba) F
      (sym.cutL L (0 : Nat) ((0 : Nat) + m) [IntKind.i64, IntKind.i64].length)
      []).fst ==
  (evalL (nameL qa qf qb qc qd qe qh ql sp pc ad va ki ba)
      (pkL Bx nb) L []).fst)
             (.br ((evalL (nameL qa qf qb qc qd qe qh ql sp pc ad va ki ba) F
      (sym.cutL L (0 : Nat) ((0 : Nat) + m) [IntKind.i64, IntKind.i64].length)
      []).snd ==
  (evalL (nameL qa qf qb qc qd qe qh ql sp pc ad va ki ba)
      (pkL Bx nb) L []).snd)
              (.br (true ==
  ((evalL (nameL qa qf qb qc qd qe qh ql sp pc ad va ki ba)
        (pkL Bx nb) L []).fst !=
    (0 : Int)))
               (.br (decide ((↑m : Int) > (0 : Int)))
                (.leaf (.v (.one (.bool false (((evalL (nameL qa qf qb qc qd qe qh ql sp pc ad va ki ba) F
        (sym.cutL L (0 : Nat) ((0 : Nat) + m) [IntKind.i64, IntKind.i64].length)
        []).snd !=
    (0 : Int)) ==
  ((evalL (nameL qa qf qb qc qd qe qh ql sp pc ad va ki ba)
        (pkL Bx nb) L []).snd !=
    (0 : Int)))))))
                (.leaf (.v (.one (.bool false (((evalL (nameL qa qf qb qc qd qe qh ql sp pc ad va ki ba) F
        (sym.cutL L (0 : Nat) ((0 : Nat) + m) [IntKind.i64, IntKind.i64].length)
        []).snd !=
    (0 : Int)) ==
  false))))))
               (.leaf (.v (.one (.bool true false)))))
              (.leaf (.v (.one (.bool true false)))))
             (.leaf (.v (.one (.bool true false)))))))
          (.br ((↑m : Int) == (0 : Int))
           (.br ((evalL (nameL qa qf qb qc qd qe qh ql sp pc ad va ki ba) F
      (sym.cutL L (0 : Nat) ((0 : Nat) + m) [IntKind.i64, IntKind.i64].length)
      []).fst ==
  (evalL (nameL qa qf qb qc qd qe qh ql sp pc ad va ki ba)
      (pkL Bx nb) L []).fst)
            (.br ((evalL (nameL qa qf qb qc qd qe qh ql sp pc ad va ki ba) F
      (sym.cutL L (0 : Nat) ((0 : Nat) + m) [IntKind.i64, IntKind.i64].length)
      []).snd ==
  (evalL (nameL qa qf qb qc qd qe qh ql sp pc ad va ki ba)
      (pkL Bx nb) L []).snd)
             (.br (((evalL (nameL qa qf qb qc qd qe qh ql sp pc ad va ki ba) F
        (sym.cutL L (0 : Nat) ((0 : Nat) + m) [IntKind.i64, IntKind.i64].length)
        []).snd !=
    (0 : Int)) ==
  true)
              (.br (decide ((↑m : Int) > (0 : Int)))
               (.leaf (.v (.one (.bool false (((evalL (nameL qa qf qb qc qd qe qh ql sp pc ad va ki ba) F
        (sym.cutL L (0 : Nat) ((0 : Nat) + m) [IntKind.i64, IntKind.i64].length)
        []).snd !=
    (0 : Int)) ==
  ((evalL (nameL qa qf qb qc qd qe qh ql sp pc ad va ki ba)
        (pkL Bx nb) L []).snd !=
    (0 : Int)))))))
               (.leaf (.v (.one (.bool false (((evalL (nameL qa qf qb qc qd qe qh ql sp pc ad va ki ba) F
        (sym.cutL L (0 : Nat) ((0 : Nat) + m) [IntKind.i64, IntKind.i64].length)
        []).snd !=
    (0 : Int)) ==
  false))))))
              (.leaf (.v (.one (.bool true false)))))
             (.leaf (.v (.one (.bool true false)))))
            (.leaf (.v (.one (.bool true false)))))
           (.br ((evalL (nameL qa qf qb qc qd qe qh ql sp pc ad va ki ba)
      (pkL Bx nb) L []).snd !=
  (0 : Int))
            (.br ((evalL (nameL qa qf qb qc qd qe qh ql sp pc ad va ki ba) F
      (sym.cutL L (0 : Nat) ((0 : Nat) + m) [IntKind.i64, IntKind.i64].length)
      []).fst ==
  (evalL (nameL qa qf qb qc qd qe qh ql sp pc ad va ki ba)
      (pkL Bx nb) L []).fst)
             (.br ((evalL (nameL qa qf qb qc qd qe qh ql sp pc ad va ki ba) F
      (sym.cutL L (0 : Nat) ((0 : Nat) + m) [IntKind.i64, IntKind.i64].length)
      []).snd ==
  (evalL (nameL qa qf qb qc qd qe qh ql sp pc ad va ki ba)
      (pkL Bx nb) L []).snd)
              (.br (((evalL (nameL qa qf qb qc qd qe qh ql sp pc ad va ki ba) F
        (sym.cutL L (0 : Nat) ((0 : Nat) + m) [IntKind.i64, IntKind.i64].length)
        []).snd !=
    (0 : Int)) ==
  true)
               (.br (decide ((↑m : Int) > (0 : Int)))
                (.leaf (.v (.one (.bool false (((evalL (nameL qa qf qb qc qd qe qh ql sp pc ad va ki ba) F
        (sym.cutL L (0 : Nat) ((0 : Nat) + m) [IntKind.i64, IntKind.i64].length)
        []).snd !=
    (0 : Int)) ==
  ((evalL (nameL qa qf qb qc qd qe qh ql sp pc ad va ki ba)
        (pkL Bx nb) L []).snd !=
    (0 : Int)))))))
                (.leaf (.v (.one (.bool false (((evalL (nameL qa qf qb qc qd qe qh ql sp pc ad va ki ba) F
        (sym.cutL L (0 : Nat) ((0 : Nat) + m) [IntKind.i64, IntKind.i64].length)
        []).snd !=
    (0 : Int)) ==
  false))))))
               (.leaf (.v (.one (.bool true false)))))
              (.leaf (.v (.one (.bool true false)))))
             (.leaf (.v (.one (.bool true false)))))
            (.br ((evalL (nameL qa qf qb qc qd qe qh ql sp pc ad va ki ba) F
      (sym.cutL L (0 : Nat) ((0 : Nat) + m) [IntKind.i64, IntKind.i64].length)
      []).fst ==
  (evalL (nameL qa qf qb qc qd qe qh ql sp pc ad va ki ba)
      (pkL Bx nb) L []).fst)
             (.br ((evalL (nameL qa qf qb qc qd qe qh ql sp pc ad va ki ba) F
      (sym.cutL L (0 : Nat) ((0 : Nat) + m) [IntKind.i64, IntKind.i64].length)
      []).snd ==
  (evalL (nameL qa qf qb qc qd qe qh ql sp pc ad va ki ba)
      (pkL Bx nb) L []).snd)
              (.br (((evalL (nameL qa qf qb qc qd qe qh ql sp pc ad va ki ba) F
        (sym.cutL L (0 : Nat) ((0 : Nat) + m) [IntKind.i64, IntKind.i64].length)
        []).snd !=
    (0 : Int)) ==
  ((evalL (nameL qa qf qb qc qd qe qh ql sp pc ad va ki ba)
        (pkL Bx nb) L []).fst !=
    (0 : Int)))
               (.br (decide ((↑m : Int) > (0 : Int)))
                (.leaf (.v (.one (.bool false (((evalL (nameL qa qf qb qc qd qe qh ql sp pc ad va ki ba) F
        (sym.cutL L (0 : Nat) ((0 : Nat) + m) [IntKind.i64, IntKind.i64].length)
        []).snd !=
    (0 : Int)) ==
  ((evalL (nameL qa qf qb qc qd qe qh ql sp pc ad va ki ba)
        (pkL Bx nb) L []).snd !=
    (0 : Int)))))))
                (.leaf (.v (.one (.bool false (((evalL (nameL qa qf qb qc qd qe qh ql sp pc ad va ki ba) F
        (sym.cutL L (0 : Nat) ((0 : Nat) + m) [IntKind.i64, IntKind.i64].length)
        []).snd !=
    (0 : Int)) ==
  false))))))
               (.leaf (.v (.one (.bool true false)))))
              (.leaf (.v (.one (.bool true false)))))
             (.leaf (.v (.one (.bool true false))))))))))))))))))))))))))) := by kernel_rfl
theorem l3P_ok (w : World) (qa qf qb qc qd qe qh ql sp pc : Int) (ad va ki ba : Int) (AB : Option Addr) (Bx : List Int) (nb cb : Nat) (hB : XR w AB [.u8] Bx nb) : ∀ c ∈ l3P w (evV qa qf qb qc qd qe qh ql sp pc ad va ki ba AB Bx nb cb) (pkL Bx nb), c.Ok Try.prog w := fun c hc => by
  simp only [l3P, List.mem_cons, List.not_mem_nil, or_false] at hc
  rcases hc with rfl | rfl | rfl
  · exact codesC_ok w
  · exact runB_ok _ _ w (rpk_ok qa qf qb qc qd qe qh ql sp pc ad va ki ba AB Bx nb cb hB)
  · exact rrunC_ok w
theorem runs_walk (w : World) (A : Option Addr) (L : List Int) (m cap : Nat) (qa qf qb qc qd qe qh ql sp pc : Int) (ad va ki ba : Int) (AB : Option Addr) (Bx : List Int) (nb cb : Nat) (hX : XR w A [.i64, .i64] L m) (hc : m ≤ cap) (hL : ∀ j, I6 (L.getD j 0)) (hR : RgB qa qf qb qc qd qe qh ql sp pc ad va ki ba) (hB : XR w AB [.u8] Bx nb) (hbb : Bs Bx) :
    Calls Try.prog 3 #[.slice A m cap, .agg #[.int .u8 qa, .int .u8 qf, .int .u8 qb, .int .u8 qc, .int .u8 qd, .int .u8 qe, .int .u8 qh, .int .u8 ql, .int .u16 sp, .int .u16 pc, .int .i64 ad, .int .i64 va, .int .i64 ki, .int .i64 ba, .slice AB nb cb]] w fun e w' => e = .returned (.bool true) ∧ Below w.heap.size w w' := by
  refine val_eq base2 (l3T_ok w) (preOf_ok (l3P_ok w qa qf qb qc qd qe qh ql sp pc ad va ki ba AB Bx nb cb hB)) (lps_ok (ls := [mixLp 3 3, mixLp 3 5]) fun l hl => by (simp only [List.mem_cons, List.not_mem_nil, or_false] at hl; rcases hl with rfl | rfl <;> exact mixLp_ok _ _ _ _)) (runs_tree w A L m cap qa qf qb qc qd qe qh ql sp pc ad va ki ba AB Bx nb cb (evV qa qf qb qc qd qe qh ql sp pc ad va ki ba AB Bx nb cb) (pkL Bx nb)) rfl ?_
  have hl : L.length = m * 2 := hX.1
  have hcut : cutL L 0 (0 + m) [IntKind.i64, IntKind.i64].length = L := by
    show (L.drop (0 * 2)).take ((0 + m - 0) * 2) = L
    rw [Nat.zero_mul, List.drop_zero]
    exact List.take_of_length_le (by omega)
  rw [hcut]
  have hlen : [IntKind.i64, IntKind.i64].length = 2 := rfl
  generalize (evalL (nameL qa qf qb qc qd qe qh ql sp pc ad va ki ba) (pkL Bx nb) L []) = E
  obtain ⟨x, f⟩ := E
  simp only [T.holds, hlen, beq_self_eq_true, Bool.true_eq_false, Bool.false_eq_true, false_implies, true_implies, true_and, and_true, and_self, decide_eq_true_eq, decide_eq_false_iff_not, beq_iff_eq, beq_eq_false_iff_ne, bne_iff_ne, bne_eq_false_iff_eq, ne_eq]
  have hnn : ∀ j, I6 (L.getD j 0) := hL
  have hbl : m ≤ 400 → m ≤ 1000000 := fun h => by omega
  refine ⟨fun _ => ⟨rfl, rfl⟩, fun h4 => ⟨fun _ => ⟨rfl, rfl⟩, fun h5 => ?_⟩⟩
  have hbig : m ≤ 1000000 := by omega
  have w1 : ∀ r : RowR m, m * 2 ≤ L.length ∧ m ≤ r.cap := fun r => ⟨by omega, r.le⟩
  repeat' (first | exact ⟨rfl, rfl⟩ | exact hbig | exact w1 _ | exact hX | exact hc | exact hR | exact hnn | exact hB | exact hbb | exact rfl | (intro _) | (refine And.intro ?_ ?_))
  all_goals first | omega | exact RowR.le _ | (exfalso; simp_all; done)
end Go.Proofs.Ytmbahohmiecfiaa
