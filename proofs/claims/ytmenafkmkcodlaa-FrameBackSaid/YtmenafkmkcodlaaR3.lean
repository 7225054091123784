/-
  The contract of two rows put together. Rows have at most 1000000 bytes.
-/
import Derived.Test.YtmenafkmkcodlaaR2
import Derived.Test.YtmenafkmkcodlaaSymF
namespace Go.Proofs.Ytmenafkmkcodlaa
open Go.RowKit sym
set_option linter.unusedVariables false
set_option linter.unusedSimpArgs false
set_option maxRecDepth 100000
def tab2 : List RCtr := [checkC, rcheckC, cloneC, sameC, atC, wholeC]
theorem tab2_ok (w : World) : ∀ c ∈ tab2, c.Ok Try.prog w := fun c hc => by
  simp only [tab2, List.mem_cons, List.not_mem_nil, or_false] at hc
  rcases hc with rfl | rfl | rfl | rfl | rfl | rfl
  · exact checkC_ok w
  · exact rcheckC_ok w
  · exact cloneC_ok w
  · exact sameC_ok w
  · exact atC_ok w
  · exact wholeC_ok w
def concatC (w0 : World) : FCtr := ⟨22, fun args h => match args, h with
  | [.v (.one (.os 1 0 2 2))], [⟨[.gs 2 nl 1 0 ln lc, .xr A [.u8] X n cap], 22⟩, ⟨[.row nl' [.u8] Lx lc'], 5⟩] => some (.chk (XR w0 A [.u8] X n ∧ n ≤ cap ∧ nl' = nl ∧ lc' = lc ∧ Lx.length = ln ∧ ln ≤ lc ∧ ln ≤ 1000000 ∧ n ≤ 1000000) (.all fun g : RowR (ln + n) =>
      .leaf (.v (.one (.gs 3 g.nl 1 0 (ln + n) g.cap)), [⟨[.gs 2 nl 1 0 ln lc, .xr A [.u8] X n cap], 22⟩, ⟨[.row nl' [.u8] Lx lc'], 5⟩, ⟨[.row g.nl [.u8] (Lx ++ X) g.cap], 5⟩])))
  | [.v (.one (.os 1 0 2 2))], [⟨[.nos, .gs 2 bn 1 off n cap], 22⟩, ⟨[.row bn' [.u8] X bc], 5⟩] => some (.chk (bn' = bn ∧ off + n ≤ X.length ∧ n ≤ cap ∧ n ≤ 1000000) (.all fun g : RowR n =>
      .leaf (.v (.one (.gs 3 g.nl 1 0 n g.cap)), [⟨[.nos, .gs 2 bn 1 off n cap], 22⟩, ⟨[.row bn' [.u8] X bc], 5⟩, ⟨[.row g.nl [.u8] (cutL X off (off + n) 1) g.cap], 5⟩])))
  | [.v (.one (.os 1 0 2 2))], [⟨[.gs 2 nl 1 0 ln lc, .gs 3 bn 1 off n cap], 22⟩, ⟨[.row nl' [.u8] Lx lc'], 5⟩, ⟨[.row bn' [.u8] X bc], 5⟩] => some (.chk (bn' = bn ∧ off + n ≤ X.length ∧ n ≤ cap ∧ nl' = nl ∧ lc' = lc ∧ Lx.length = ln ∧ ln ≤ lc ∧ ln ≤ 1000000 ∧ n ≤ 1000000) (.all fun g : RowR (ln + n) =>
      .leaf (.v (.one (.gs 4 g.nl 1 0 (ln + n) g.cap)), [⟨[.gs 2 nl 1 0 ln lc, .gs 3 bn 1 off n cap], 22⟩, ⟨[.row nl' [.u8] Lx lc'], 5⟩, ⟨[.row bn' [.u8] X bc], 5⟩, ⟨[.row g.nl [.u8] (Lx ++ cutL X off (off + n) 1) g.cap], 5⟩])))
  | _, _ => none⟩
theorem cat1_tree (w : World) (L : Nat → Option Obj) (O : Nat → Bool) (nl : Bool) (Lx : List Int) (ln lc : Nat) (A : Option Addr) (X : List Int) (n cap : Nat) :
    callT Try.prog w (flatT Try.prog) (noCtr) (noPre) (noLoop) 20 22 [.v (.one (.os 1 0 2 2))] [⟨[.keep L O], 0⟩, ⟨[.gs 2 nl 1 0 ln lc, .xr A [.u8] X n cap], 22⟩, ⟨[.row nl [.u8] Lx lc], 5⟩] =
(.br (decide (IntKind.i64.wrap ((0 : Int) + (↑ln : Int)) < (0 : Int)))
 (.fail "slices.go:496")
 (.br (decide (IntKind.i64.wrap (IntKind.i64.wrap ((0 : Int) + (↑ln : Int)) + (↑n : Int)) < (0 : Int)))
  (.fail "slices.go:496")
  (.br (decide (IntKind.i64.wrap (IntKind.i64.wrap ((0 : Int) + (↑ln : Int)) + (↑n : Int)) < (0 : Int)))
   (.fail "slices.go:424")
   (.br (decide
  (IntKind.i64.wrap
      (IntKind.i64.wrap (IntKind.i64.wrap ((0 : Int) + (↑ln : Int)) + (↑n : Int)) -
        IntKind.i64.wrap ((0 : Int) - (0 : Int))) >
    (0 : Int)))
    (.chk ((0 : Int) ≤ (↑(0 : Nat) : Int) ∧ (↑(0 : Nat) : Int) ≤ (0 : Int) ∧ (0 : Int) ≤ (0 : Int))
    (.chk ((0 : Int) ≤
    IntKind.i64.wrap
      (IntKind.i64.wrap (IntKind.i64.wrap ((0 : Int) + (↑ln : Int)) + (↑n : Int)) -
        IntKind.i64.wrap ((0 : Int) - (0 : Int))) ∧
  (IntKind.i64.wrap
          (IntKind.i64.wrap (IntKind.i64.wrap ((0 : Int) + (↑ln : Int)) + (↑n : Int)) -
            IntKind.i64.wrap ((0 : Int) - (0 : Int)))).toNat *
      (1 : Nat) ≤
    (140737488355328 : Nat))
    (.all fun x : sym.Grown true
  (IntKind.i64.wrap
      (IntKind.i64.wrap (IntKind.i64.wrap ((0 : Int) + (↑ln : Int)) + (↑n : Int)) -
        IntKind.i64.wrap ((0 : Int) - (0 : Int)))).toNat
  (IntKind.i64.wrap
      (IntKind.i64.wrap (IntKind.i64.wrap ((0 : Int) + (↑ln : Int)) + (↑n : Int)) -
        IntKind.i64.wrap ((0 : Int) - (0 : Int)))).toNat =>
     (.chk ((0 : Int) ≤ (↑(0 : Nat) : Int) ∧ (↑(0 : Nat) : Int) ≤ (0 : Int) ∧ (0 : Int) ≤ (↑x.cap : Int))
     (.chk ((nl = nl ∧ ((0 : Nat) + ln) * (1 : Nat) ≤ Lx.length ∧ ln ≤ lc) ∧
  (x.nl' = x.nl' ∧
      sym.cutO (0 : Nat) x.cap (0 : Nat) = (0 : Nat) ∧
        x.cap - (0 : Nat) = x.cap ∧
          (0 : Nat) ≤
              (List.replicate
                  (IntKind.i64.wrap
                      (IntKind.i64.wrap (IntKind.i64.wrap ((0 : Int) + (↑ln : Int)) + (↑n : Int)) -
                        IntKind.i64.wrap ((0 : Int) - (0 : Int)))).toNat
                  (0 : Int)).length ∧
            (0 : Nat) ≤ x.cap - (0 : Nat) ∧
              x.cap - (0 : Nat) ≤ Go.maxLen ∧ (x.nl' = true → x.cap - (0 : Nat) = (0 : Nat))) ∧
    ((0 : Nat) + ln) * (1 : Nat) ≤ (140737488355328 : Nat))
     (.all fun x_1 : sym.Grown x.nl' ln ((0 : Nat) + ln) =>
      (.chk ((sym.XR w A [IntKind.u8] X n ∧ n ≤ cap) ∧
  (x_1.nl' = x_1.nl' ∧
      (0 : Nat) = (0 : Nat) ∧
        x_1.cap = x_1.cap ∧
          ((0 : Nat) + ln) * [IntKind.u8].length ≤
              (List.take (0 : Nat)
                    (List.replicate
                      (IntKind.i64.wrap
                          (IntKind.i64.wrap (IntKind.i64.wrap ((0 : Int) + (↑ln : Int)) + (↑n : Int)) -
                            IntKind.i64.wrap ((0 : Int) - (0 : Int)))).toNat
                      (0 : Int)) ++
                  sym.cutL Lx (0 : Nat) ((0 : Nat) + ln) (1 : Nat)).length ∧
            (0 : Nat) + ln ≤ x_1.cap ∧ x_1.cap ≤ Go.maxLen ∧ (x_1.nl' = true → x_1.cap = (0 : Nat))) ∧
    ((0 : Nat) + ln + n) * (1 : Nat) ≤ (140737488355328 : Nat))
      (.all fun x_2 : sym.Grown x_1.nl' n ((0 : Nat) + ln + n) =>
       (.leaf ((.v (.one (.gs 5 (x_2.nl') 1 0 ((0 : Nat) + ln + n) (x_2.cap)))), [⟨[(.keep (L) (O))], 0⟩, ⟨[(.gs 2 (nl) 1 0 (ln) (lc)), (.xr (A) ([IntKind.u8]) (X) (n) (cap))], 22⟩, ⟨[(.row (nl) ([IntKind.u8]) (Lx) (lc))], 5⟩, ⟨[.dead], 5⟩, ⟨[.dead], 5⟩, ⟨[(.row (x_2.nl') ([IntKind.u8]) (List.take (((0 : Nat) + ln) * [IntKind.u8].length)
    (List.take (0 : Nat)
        (List.replicate
          (IntKind.i64.wrap
              (IntKind.i64.wrap (IntKind.i64.wrap ((0 : Int) + (↑ln : Int)) + (↑n : Int)) -
                IntKind.i64.wrap ((0 : Int) - (0 : Int)))).toNat
          (0 : Int)) ++
      sym.cutL Lx (0 : Nat) ((0 : Nat) + ln) (1 : Nat)) ++
  X) (x_2.cap))], 5⟩]))))))))))
    (.chk ((nl = nl ∧ ((0 : Nat) + ln) * (1 : Nat) ≤ Lx.length ∧ ln ≤ lc) ∧
  True ∧ ((0 : Nat) + ln) * (1 : Nat) ≤ (140737488355328 : Nat))
    (.all fun x : sym.Grown true ln ((0 : Nat) + ln) =>
     (.chk ((sym.XR w A [IntKind.u8] X n ∧ n ≤ cap) ∧
  (x.nl' = x.nl' ∧
      (0 : Nat) = (0 : Nat) ∧
        x.cap = x.cap ∧
          ((0 : Nat) + ln) * [IntKind.u8].length ≤
              ([] ++ sym.cutL Lx (0 : Nat) ((0 : Nat) + ln) (1 : Nat)).length ∧
            (0 : Nat) + ln ≤ x.cap ∧ x.cap ≤ Go.maxLen ∧ (x.nl' = true → x.cap = (0 : Nat))) ∧
    ((0 : Nat) + ln + n) * (1 : Nat) ≤ (140737488355328 : Nat))
     (.all fun x_1 : sym.Grown x.nl' n ((0 : Nat) + ln + n) =>
      (.leaf ((.v (.one (.gs 4 (x_1.nl') 1 0 ((0 : Nat) + ln + n) (x_1.cap)))), [⟨[(.keep (L) (O))], 0⟩, ⟨[(.gs 2 (nl) 1 0 (ln) (lc)), (.xr (A) ([IntKind.u8]) (X) (n) (cap))], 22⟩, ⟨[(.row (nl) ([IntKind.u8]) (Lx) (lc))], 5⟩, ⟨[.dead], 5⟩, ⟨[(.row (x_1.nl') ([IntKind.u8]) (List.take (((0 : Nat) + ln) * [IntKind.u8].length)
    ([] ++ sym.cutL Lx (0 : Nat) ((0 : Nat) + ln) (1 : Nat)) ++
  X) (x_1.cap))], 5⟩])))))))))) := by kernel_rfl
theorem cat2_tree (w : World) (L : Nat → Option Obj) (O : Nat → Bool) (bn : Bool) (X : List Int) (off n cap bc : Nat) :
    callT Try.prog w (flatT Try.prog) (noCtr) (noPre) (noLoop) 20 22 [.v (.one (.os 1 0 2 2))] [⟨[.keep L O], 0⟩, ⟨[.nos, .gs 2 bn 1 off n cap], 22⟩, ⟨[.row bn [.u8] X bc], 5⟩] =
(.br (decide (IntKind.i64.wrap (IntKind.i64.wrap ((0 : Int) + (0 : Int)) + (↑n : Int)) < (0 : Int)))
 (.fail "slices.go:496")
 (.br (decide (IntKind.i64.wrap (IntKind.i64.wrap ((0 : Int) + (0 : Int)) + (↑n : Int)) < (0 : Int)))
  (.fail "slices.go:424")
  (.br (decide
  (IntKind.i64.wrap
      (IntKind.i64.wrap (IntKind.i64.wrap ((0 : Int) + (0 : Int)) + (↑n : Int)) -
        IntKind.i64.wrap ((0 : Int) - (0 : Int))) >
    (0 : Int)))
   (.chk ((0 : Int) ≤ (↑(0 : Nat) : Int) ∧ (↑(0 : Nat) : Int) ≤ (0 : Int) ∧ (0 : Int) ≤ (0 : Int))
   (.chk ((0 : Int) ≤
    IntKind.i64.wrap
      (IntKind.i64.wrap (IntKind.i64.wrap ((0 : Int) + (0 : Int)) + (↑n : Int)) -
        IntKind.i64.wrap ((0 : Int) - (0 : Int))) ∧
  (IntKind.i64.wrap
          (IntKind.i64.wrap (IntKind.i64.wrap ((0 : Int) + (0 : Int)) + (↑n : Int)) -
            IntKind.i64.wrap ((0 : Int) - (0 : Int)))).toNat *
      (1 : Nat) ≤
    (140737488355328 : Nat))
   (.all fun x : sym.Grown true
  (IntKind.i64.wrap
      (IntKind.i64.wrap (IntKind.i64.wrap ((0 : Int) + (0 : Int)) + (↑n : Int)) -
        IntKind.i64.wrap ((0 : Int) - (0 : Int)))).toNat
  (IntKind.i64.wrap
      (IntKind.i64.wrap (IntKind.i64.wrap ((0 : Int) + (0 : Int)) + (↑n : Int)) -
        IntKind.i64.wrap ((0 : Int) - (0 : Int)))).toNat =>
    (.chk ((0 : Int) ≤ (↑(0 : Nat) : Int) ∧ (↑(0 : Nat) : Int) ≤ (0 : Int) ∧ (0 : Int) ≤ (↑x.cap : Int))
    (.chk (True ∧
  (x.nl' = x.nl' ∧
      sym.cutO (0 : Nat) x.cap (0 : Nat) = (0 : Nat) ∧
        x.cap - (0 : Nat) = x.cap ∧
          (0 : Nat) ≤
              (List.replicate
                  (IntKind.i64.wrap
                      (IntKind.i64.wrap (IntKind.i64.wrap ((0 : Int) + (0 : Int)) + (↑n : Int)) -
                        IntKind.i64.wrap ((0 : Int) - (0 : Int)))).toNat
                  (0 : Int)).length ∧
            (0 : Nat) ≤ x.cap - (0 : Nat) ∧
              x.cap - (0 : Nat) ≤ Go.maxLen ∧ (x.nl' = true → x.cap - (0 : Nat) = (0 : Nat))) ∧
    (0 : Nat) ≤ (140737488355328 : Nat))
    (.all fun x_1 : sym.Grown x.nl' (0 : Nat) (0 : Nat) =>
     (.chk ((bn = bn ∧ (off + n) * (1 : Nat) ≤ X.length ∧ n ≤ cap) ∧
  (x_1.nl' = x_1.nl' ∧
      (0 : Nat) = (0 : Nat) ∧
        x_1.cap = x_1.cap ∧
          (0 : Nat) ≤
              (List.take (0 : Nat)
                    (List.replicate
                      (IntKind.i64.wrap
                          (IntKind.i64.wrap (IntKind.i64.wrap ((0 : Int) + (0 : Int)) + (↑n : Int)) -
                            IntKind.i64.wrap ((0 : Int) - (0 : Int)))).toNat
                      (0 : Int)) ++
                  []).length ∧
            (0 : Nat) ≤ x_1.cap ∧ x_1.cap ≤ Go.maxLen ∧ (x_1.nl' = true → x_1.cap = (0 : Nat))) ∧
    ((0 : Nat) + n) * (1 : Nat) ≤ (140737488355328 : Nat))
     (.all fun x_2 : sym.Grown x_1.nl' n ((0 : Nat) + n) =>
      (.leaf ((.v (.one (.gs 5 (x_2.nl') 1 0 ((0 : Nat) + n) (x_2.cap)))), [⟨[(.keep (L) (O))], 0⟩, ⟨[.nos, (.gs 2 (bn) 1 (off) (n) (cap))], 22⟩, ⟨[(.row (bn) ([IntKind.u8]) (X) (bc))], 5⟩, ⟨[.dead], 5⟩, ⟨[.dead], 5⟩, ⟨[(.row (x_2.nl') ([IntKind.u8]) (List.take (0 : Nat)
    (List.take (0 : Nat)
        (List.replicate
          (IntKind.i64.wrap
              (IntKind.i64.wrap (IntKind.i64.wrap ((0 : Int) + (0 : Int)) + (↑n : Int)) -
                IntKind.i64.wrap ((0 : Int) - (0 : Int)))).toNat
          (0 : Int)) ++
      []) ++
  sym.cutL X off (off + n) (1 : Nat)) (x_2.cap))], 5⟩]))))))))))
   (.chk (True ∧ True ∧ (0 : Nat) ≤ (140737488355328 : Nat))
   (.all fun x : sym.Grown true (0 : Nat) (0 : Nat) =>
    (.chk ((bn = bn ∧ (off + n) * (1 : Nat) ≤ X.length ∧ n ≤ cap) ∧
  (x.nl' = x.nl' ∧
      (0 : Nat) = (0 : Nat) ∧
        x.cap = x.cap ∧
          (0 : Nat) ≤ (([] : List Int) ++ []).length ∧
            (0 : Nat) ≤ x.cap ∧ x.cap ≤ Go.maxLen ∧ (x.nl' = true → x.cap = (0 : Nat))) ∧
    ((0 : Nat) + n) * (1 : Nat) ≤ (140737488355328 : Nat))
    (.all fun x_1 : sym.Grown x.nl' n ((0 : Nat) + n) =>
     (.leaf ((.v (.one (.gs 4 (x_1.nl') 1 0 ((0 : Nat) + n) (x_1.cap)))), [⟨[(.keep (L) (O))], 0⟩, ⟨[.nos, (.gs 2 (bn) 1 (off) (n) (cap))], 22⟩, ⟨[(.row (bn) ([IntKind.u8]) (X) (bc))], 5⟩, ⟨[.dead], 5⟩, ⟨[(.row (x_1.nl') ([IntKind.u8]) (List.take (0 : Nat) ([] ++ []) ++ sym.cutL X off (off + n) (1 : Nat)) (x_1.cap))], 5⟩]))))))))) := by kernel_rfl
theorem cat3_tree (w : World) (L : Nat → Option Obj) (O : Nat → Bool) (nl : Bool) (Lx : List Int) (ln lc : Nat) (bn : Bool) (X : List Int) (off n cap bc : Nat) :
    callT Try.prog w (flatT Try.prog) (noCtr) (noPre) (noLoop) 20 22 [.v (.one (.os 1 0 2 2))] [⟨[.keep L O], 0⟩, ⟨[.gs 2 nl 1 0 ln lc, .gs 3 bn 1 off n cap], 22⟩, ⟨[.row nl [.u8] Lx lc], 5⟩, ⟨[.row bn [.u8] X bc], 5⟩] =
(.br (decide (IntKind.i64.wrap ((0 : Int) + (↑ln : Int)) < (0 : Int)))
 (.fail "slices.go:496")
 (.br (decide (IntKind.i64.wrap (IntKind.i64.wrap ((0 : Int) + (↑ln : Int)) + (↑n : Int)) < (0 : Int)))
  (.fail "slices.go:496")
  (.br (decide (IntKind.i64.wrap (IntKind.i64.wrap ((0 : Int) + (↑ln : Int)) + (↑n : Int)) < (0 : Int)))
   (.fail "slices.go:424")
   (.br (decide
  (IntKind.i64.wrap
      (IntKind.i64.wrap (IntKind.i64.wrap ((0 : Int) + (↑ln : Int)) + (↑n : Int)) -
        IntKind.i64.wrap ((0 : Int) - (0 : Int))) >
    (0 : Int)))
    (.chk ((0 : Int) ≤ (↑(0 : Nat) : Int) ∧ (↑(0 : Nat) : Int) ≤ (0 : Int) ∧ (0 : Int) ≤ (0 : Int))
    (.chk ((0 : Int) ≤
    IntKind.i64.wrap
      (IntKind.i64.wrap (IntKind.i64.wrap ((0 : Int) + (↑ln : Int)) + (↑n : Int)) -
        IntKind.i64.wrap ((0 : Int) - (0 : Int))) ∧
  (IntKind.i64.wrap
          (IntKind.i64.wrap (IntKind.i64.wrap ((0 : Int) + (↑ln : Int)) + (↑n : Int)) -
            IntKind.i64.wrap ((0 : Int) - (0 : Int)))).toNat *
      (1 : Nat) ≤
    (140737488355328 : Nat))
    (.all fun x : sym.Grown true
  (IntKind.i64.wrap
      (IntKind.i64.wrap (IntKind.i64.wrap ((0 : Int) + (↑ln : Int)) + (↑n : Int)) -
        IntKind.i64.wrap ((0 : Int) - (0 : Int)))).toNat
  (IntKind.i64.wrap
      (IntKind.i64.wrap (IntKind.i64.wrap ((0 : Int) + (↑ln : Int)) + (↑n : Int)) -
        IntKind.i64.wrap ((0 : Int) - (0 : Int)))).toNat =>
     (.chk ((0 : Int) ≤ (↑(0 : Nat) : Int) ∧ (↑(0 : Nat) : Int) ≤ (0 : Int) ∧ (0 : Int) ≤ (↑x.cap : Int))
     (.chk ((nl = nl ∧ ((0 : Nat) + ln) * (1 : Nat) ≤ Lx.length ∧ ln ≤ lc) ∧
  (x.nl' = x.nl' ∧
      sym.cutO (0 : Nat) x.cap (0 : Nat) = (0 : Nat) ∧
        x.cap - (0 : Nat) = x.cap ∧
          (0 : Nat) ≤
              (List.replicate
                  (IntKind.i64.wrap
                      (IntKind.i64.wrap (IntKind.i64.wrap ((0 : Int) + (↑ln : Int)) + (↑n : Int)) -
                        IntKind.i64.wrap ((0 : Int) - (0 : Int)))).toNat
                  (0 : Int)).length ∧
            (0 : Nat) ≤ x.cap - (0 : Nat) ∧
              x.cap - (0 : Nat) ≤ Go.maxLen ∧ (x.nl' = true → x.cap - (0 : Nat) = (0 : Nat))) ∧
    ((0 : Nat) + ln) * (1 : Nat) ≤ (140737488355328 : Nat))
     (.all fun x_1 : sym.Grown x.nl' ln ((0 : Nat) + ln) =>
      (.chk ((bn = bn ∧ (off + n) * (1 : Nat) ≤ X.length ∧ n ≤ cap) ∧
  (x_1.nl' = x_1.nl' ∧
      (0 : Nat) = (0 : Nat) ∧
        x_1.cap = x_1.cap ∧
          ((0 : Nat) + ln) * [IntKind.u8].length ≤
              (List.take (0 : Nat)
                    (List.replicate
                      (IntKind.i64.wrap
                          (IntKind.i64.wrap (IntKind.i64.wrap ((0 : Int) + (↑ln : Int)) + (↑n : Int)) -
                            IntKind.i64.wrap ((0 : Int) - (0 : Int)))).toNat
                      (0 : Int)) ++
                  sym.cutL Lx (0 : Nat) ((0 : Nat) + ln) (1 : Nat)).length ∧
            (0 : Nat) + ln ≤ x_1.cap ∧ x_1.cap ≤ Go.maxLen ∧ (x_1.nl' = true → x_1.cap = (0 : Nat))) ∧
    ((0 : Nat) + ln + n) * (1 : Nat) ≤ (140737488355328 : Nat))
      (.all fun x_2 : sym.Grown x_1.nl' n ((0 : Nat) + ln + n) =>
       (.leaf ((.v (.one (.gs 6 (x_2.nl') 1 0 ((0 : Nat) + ln + n) (x_2.cap)))), [⟨[(.keep (L) (O))], 0⟩, ⟨[(.gs 2 (nl) 1 0 (ln) (lc)), (.gs 3 (bn) 1 (off) (n) (cap))], 22⟩, ⟨[(.row (nl) ([IntKind.u8]) (Lx) (lc))], 5⟩, ⟨[(.row (bn) ([IntKind.u8]) (X) (bc))], 5⟩, ⟨[.dead], 5⟩, ⟨[.dead], 5⟩, ⟨[(.row (x_2.nl') ([IntKind.u8]) (List.take (((0 : Nat) + ln) * [IntKind.u8].length)
    (List.take (0 : Nat)
        (List.replicate
          (IntKind.i64.wrap
              (IntKind.i64.wrap (IntKind.i64.wrap ((0 : Int) + (↑ln : Int)) + (↑n : Int)) -
                IntKind.i64.wrap ((0 : Int) - (0 : Int)))).toNat
          (0 : Int)) ++
      sym.cutL Lx (0 : Nat) ((0 : Nat) + ln) (1 : Nat)) ++
  sym.cutL X off (off + n) (1 : Nat)) (x_2.cap))], 5⟩]))))))))))
    (.chk ((nl = nl ∧ ((0 : Nat) + ln) * (1 : Nat) ≤ Lx.length ∧ ln ≤ lc) ∧
  True ∧ ((0 : Nat) + ln) * (1 : Nat) ≤ (140737488355328 : Nat))
    (.all fun x : sym.Grown true ln ((0 : Nat) + ln) =>
     (.chk ((bn = bn ∧ (off + n) * (1 : Nat) ≤ X.length ∧ n ≤ cap) ∧
  (x.nl' = x.nl' ∧
      (0 : Nat) = (0 : Nat) ∧
        x.cap = x.cap ∧
          ((0 : Nat) + ln) * [IntKind.u8].length ≤
              ([] ++ sym.cutL Lx (0 : Nat) ((0 : Nat) + ln) (1 : Nat)).length ∧
            (0 : Nat) + ln ≤ x.cap ∧ x.cap ≤ Go.maxLen ∧ (x.nl' = true → x.cap = (0 : Nat))) ∧
    ((0 : Nat) + ln + n) * (1 : Nat) ≤ (140737488355328 : Nat))
     (.all fun x_1 : sym.Grown x.nl' n ((0 : Nat) + ln + n) =>
      (.leaf ((.v (.one (.gs 5 (x_1.nl') 1 0 ((0 : Nat) + ln + n) (x_1.cap)))), [⟨[(.keep (L) (O))], 0⟩, ⟨[(.gs 2 (nl) 1 0 (ln) (lc)), (.gs 3 (bn) 1 (off) (n) (cap))], 22⟩, ⟨[(.row (nl) ([IntKind.u8]) (Lx) (lc))], 5⟩, ⟨[(.row (bn) ([IntKind.u8]) (X) (bc))], 5⟩, ⟨[.dead], 5⟩, ⟨[(.row (x_1.nl') ([IntKind.u8]) (List.take (((0 : Nat) + ln) * [IntKind.u8].length)
    ([] ++ sym.cutL Lx (0 : Nat) ((0 : Nat) + ln) (1 : Nat)) ++
  sym.cutL X off (off + n) (1 : Nat)) (x_1.cap))], 5⟩])))))))))) := by kernel_rfl
theorem cut0 (X : List Int) (n : Nat) : sym.cutL X 0 n 1 = X.take n := by rw [cut1, List.drop_zero, Nat.sub_zero]
theorem w01 {x : Int} (h0 : 0 ≤ x) (h1 : x ≤ 4000000) : IntKind.i64.wrap x = x := wi64 x (by omega) (by omega)
theorem as_end {n : Nat} {x y : AV} {h h2 : List Blk} (ro : List (Option Nat)) (hl : (leqT n ro ⟨[x], h⟩ ⟨[y], h2⟩ (.leaf ())).holds (fun _ => True)) (hf : ASt.fine ⟨[y], h2⟩ h2.length = true) (hy : y ≠ .any) : AsF n x h y h2 := ⟨ro, hl, hf, hy⟩
theorem concatC_ok (w0 : World) : (concatC w0).Ok Try.prog w0 := by
  refine fctr_ok base2 (ctrs_none _ _) (pre_none _ _) (n := 20) fun args h t h0 => ?_
  unfold concatC at h0
  simp only at h0
  split at h0
  · rename_i nl ln lc A X n cap nl' Lx lc'
    cases h0
    intro L O K hK
    obtain ⟨⟨hX, hc, rfl, rfl, hl, hlc, h1, h2⟩, hK⟩ := hK
    refine ⟨noLoop, loops_none _ _, ?_⟩
    show T.holds (callT Try.prog w0 (flatT Try.prog) (noCtr) (noPre) (noLoop) 20 22 [.v (.one (.os 1 0 2 2))] [⟨[.keep L O], 0⟩, ⟨[.gs 2 nl' 1 0 ln lc', .xr A [.u8] X n cap], 22⟩, ⟨[.row nl' [.u8] Lx lc'], 5⟩]) _
    rw [cat1_tree]
    have hXl : X.length = n := by simpa using hX.1
    have e1 : IntKind.i64.wrap ((0 : Int) + (ln : Int)) = ln := by rw [Int.zero_add]; exact w01 (by first | trivial | omega) (by first | trivial | omega)
    have e2 : IntKind.i64.wrap ((ln : Int) + (n : Int)) = ((ln + n : Nat) : Int) := by rw [w01 (by first | trivial | omega) (by first | trivial | omega)]; omega
    have e3 : IntKind.i64.wrap ((0 : Int) - 0) = 0 := rfl
    have e4 : IntKind.i64.wrap (((ln + n : Nat) : Int) - 0) = ((ln + n : Nat) : Int) := by rw [Int.sub_zero, w01 (by first | trivial | omega) (by first | trivial | omega)]
    simp only [e1, e2, e3, e4, Int.toNat_natCast]
    have tk : Lx.take ln = Lx := List.take_of_length_le (by first | trivial | omega)
    have ec : sym.cutL Lx 0 ln 1 = Lx := by rw [cut0, tk]
    simp only [ec, Nat.zero_add, List.length_singleton, Nat.mul_one, Nat.sub_zero, List.take_zero, List.nil_append, tk]
    refine ⟨fun h => by have := of_decide_eq_true h; omega, fun _ => ⟨fun h => by have := of_decide_eq_true h; omega, fun _ => ⟨fun h => by have := of_decide_eq_true h; omega, fun _ => ⟨fun _ => ?_, fun _ => ?_⟩⟩⟩⟩
    · refine ⟨⟨by decide, by decide, by decide⟩, ⟨by first | trivial | omega, by first | trivial | omega⟩, fun g1 => ⟨⟨by decide, by decide, by first | trivial | omega⟩, ⟨⟨trivial, by first | trivial | omega, hlc⟩, ⟨trivial, by simp [sym.cutO], by first | trivial | omega, by first | trivial | omega, by first | trivial | omega, g1.max, fun h => g1.none h⟩, by first | trivial | omega⟩, fun g2 => ⟨⟨⟨hX, hc⟩, ⟨trivial, trivial, trivial, by first | trivial | omega, by have := g2.le; omega, g2.max, fun h => g2.none h⟩, by first | trivial | omega⟩, fun g3 => ?_⟩⟩⟩
      have g3n : g3.nl' = true → ln + n = 0 ∧ g3.cap = 0 := fun h => by
        have := (rowR g3).nil h
        exact ⟨by first | trivial | omega, this.2⟩
      refine ⟨_, _, hK ⟨g3.nl', g3.cap, g3n, by have := g3.le; omega, g3.max⟩, as_end [some 5] ?_ (by kernel_rfl) (fun h => by cases h)⟩
      repeat' (first | exact trivial | exact rfl | (refine And.intro ?_ ?_))
      all_goals first | (simp only [Nat.zero_add]; done) | (show _ = _; simp [Nat.zero_add, cut0, tk]; done) | (show _ = _; simp [Nat.zero_add]; done)
    · refine ⟨⟨⟨trivial, by first | trivial | omega, hlc⟩, trivial, by first | trivial | omega⟩, fun g2 => ⟨⟨⟨hX, hc⟩, ⟨trivial, trivial, trivial, by first | trivial | omega, by have := g2.le; omega, g2.max, fun h => g2.none h⟩, by first | trivial | omega⟩, fun g3 => ?_⟩⟩
      have g3n : g3.nl' = true → ln + n = 0 ∧ g3.cap = 0 := fun h => by
        have := (rowR g3).nil h
        exact ⟨by first | trivial | omega, this.2⟩
      refine ⟨_, _, hK ⟨g3.nl', g3.cap, g3n, by have := g3.le; omega, g3.max⟩, as_end [some 4] ?_ (by kernel_rfl) (fun h => by cases h)⟩
      repeat' (first | exact trivial | exact rfl | (refine And.intro ?_ ?_))
      all_goals first | (simp only [Nat.zero_add]; done) | (show _ = _; simp [Nat.zero_add, cut0, tk]; done) | (show _ = _; simp [Nat.zero_add]; done)
  · rename_i bn off n cap bn' X bc
    cases h0
    intro L O K hK
    obtain ⟨⟨rfl, ho, hc, h2⟩, hK⟩ := hK
    refine ⟨noLoop, loops_none _ _, ?_⟩
    show T.holds (callT Try.prog w0 (flatT Try.prog) (noCtr) (noPre) (noLoop) 20 22 [.v (.one (.os 1 0 2 2))] [⟨[.keep L O], 0⟩, ⟨[.nos, .gs 2 bn' 1 off n cap], 22⟩, ⟨[.row bn' [.u8] X bc], 5⟩]) _
    rw [cat2_tree]
    have e1 : IntKind.i64.wrap ((0 : Int) + (0 : Int)) = 0 := rfl
    have e2 : IntKind.i64.wrap ((0 : Int) + (n : Int)) = (n : Int) := by rw [Int.zero_add]; exact w01 (by first | trivial | omega) (by first | trivial | omega)
    have e3 : IntKind.i64.wrap ((0 : Int) - 0) = 0 := rfl
    have e4 : IntKind.i64.wrap ((n : Int) - 0) = (n : Int) := by rw [Int.sub_zero]; exact w01 (by first | trivial | omega) (by first | trivial | omega)
    have el : (sym.cutL X off (off + n) 1).length = n := by rw [cutL_length (by first | trivial | omega)]; omega
    simp only [e1, e2, e3, e4, Int.toNat_natCast]
    simp only [Nat.zero_add, List.length_singleton, Nat.mul_one, Nat.sub_zero, List.take_zero, List.nil_append]
    refine ⟨fun h => by have := of_decide_eq_true h; omega, fun _ => ⟨fun h => by have := of_decide_eq_true h; omega, fun _ => ⟨fun _ => ?_, fun _ => ?_⟩⟩⟩
    · refine ⟨⟨by decide, by decide, by decide⟩, ⟨by first | trivial | omega, by first | trivial | omega⟩, fun g1 => ⟨⟨by decide, by decide, by first | trivial | omega⟩, ⟨trivial, ⟨trivial, by simp [sym.cutO], by first | trivial | omega, by first | trivial | omega, by first | trivial | omega, g1.max, fun h => g1.none h⟩, by first | trivial | omega⟩, fun g2 => ⟨⟨⟨trivial, ho, hc⟩, ⟨trivial, trivial, trivial, by first | trivial | omega, by first | trivial | omega, g2.max, fun h => g2.none h⟩, by first | trivial | omega⟩, fun g3 => ?_⟩⟩⟩
      have g3n : g3.nl' = true → n = 0 ∧ g3.cap = 0 := fun h => by
        have := (rowR g3).nil h
        exact ⟨by first | trivial | omega, this.2⟩
      refine ⟨_, _, hK ⟨g3.nl', g3.cap, g3n, by have := g3.le; omega, g3.max⟩, as_end [some 5] ?_ (by kernel_rfl) (fun h => by cases h)⟩
      repeat' (first | exact trivial | exact rfl | (refine And.intro ?_ ?_))
      all_goals first | (simp only [Nat.zero_add]; done) | (show _ = _; simp [Nat.zero_add, cut0, tk]; done) | (show _ = _; simp [Nat.zero_add]; done)
    · refine ⟨⟨trivial, trivial, by first | trivial | omega⟩, fun g2 => ⟨⟨⟨trivial, ho, hc⟩, ⟨trivial, trivial, trivial, by simp, by first | trivial | omega, g2.max, fun h => g2.none h⟩, by first | trivial | omega⟩, fun g3 => ?_⟩⟩
      have g3n : g3.nl' = true → n = 0 ∧ g3.cap = 0 := fun h => by
        have := (rowR g3).nil h
        exact ⟨by first | trivial | omega, this.2⟩
      refine ⟨_, _, hK ⟨g3.nl', g3.cap, g3n, by have := g3.le; omega, g3.max⟩, as_end [some 4] ?_ (by kernel_rfl) (fun h => by cases h)⟩
      repeat' (first | exact trivial | exact rfl | (refine And.intro ?_ ?_))
      all_goals first | (simp only [Nat.zero_add]; done) | (show _ = _; simp [Nat.zero_add, cut0, tk]; done) | (show _ = _; simp [Nat.zero_add]; done)
  · rename_i nl ln lc bn off n cap nl' Lx lc' bn' X bc
    cases h0
    intro L O K hK
    obtain ⟨⟨rfl, ho, hc, rfl, rfl, hl, hlc, h1, h2⟩, hK⟩ := hK
    refine ⟨noLoop, loops_none _ _, ?_⟩
    show T.holds (callT Try.prog w0 (flatT Try.prog) (noCtr) (noPre) (noLoop) 20 22 [.v (.one (.os 1 0 2 2))] [⟨[.keep L O], 0⟩, ⟨[.gs 2 nl' 1 0 ln lc', .gs 3 bn' 1 off n cap], 22⟩, ⟨[.row nl' [.u8] Lx lc'], 5⟩, ⟨[.row bn' [.u8] X bc], 5⟩]) _
    rw [cat3_tree]
    have e1 : IntKind.i64.wrap ((0 : Int) + (ln : Int)) = ln := by rw [Int.zero_add]; exact w01 (by first | trivial | omega) (by first | trivial | omega)
    have e2 : IntKind.i64.wrap ((ln : Int) + (n : Int)) = ((ln + n : Nat) : Int) := by rw [w01 (by first | trivial | omega) (by first | trivial | omega)]; omega
    have e3 : IntKind.i64.wrap ((0 : Int) - 0) = 0 := rfl
    have e4 : IntKind.i64.wrap (((ln + n : Nat) : Int) - 0) = ((ln + n : Nat) : Int) := by rw [Int.sub_zero, w01 (by first | trivial | omega) (by first | trivial | omega)]
    have el : (sym.cutL X off (off + n) 1).length = n := by rw [cutL_length (by first | trivial | omega)]; omega
    simp only [e1, e2, e3, e4, Int.toNat_natCast]
    have tk : Lx.take ln = Lx := List.take_of_length_le (by first | trivial | omega)
    have ec : sym.cutL Lx 0 ln 1 = Lx := by rw [cut0, tk]
    simp only [ec, Nat.zero_add, List.length_singleton, Nat.mul_one, Nat.sub_zero, List.take_zero, List.nil_append, tk]
    refine ⟨fun h => by have := of_decide_eq_true h; omega, fun _ => ⟨fun h => by have := of_decide_eq_true h; omega, fun _ => ⟨fun h => by have := of_decide_eq_true h; omega, fun _ => ⟨fun _ => ?_, fun _ => ?_⟩⟩⟩⟩
    · refine ⟨⟨by decide, by decide, by decide⟩, ⟨by first | trivial | omega, by first | trivial | omega⟩, fun g1 => ⟨⟨by decide, by decide, by first | trivial | omega⟩, ⟨⟨trivial, by first | trivial | omega, hlc⟩, ⟨trivial, by simp [sym.cutO], by first | trivial | omega, by first | trivial | omega, by first | trivial | omega, g1.max, fun h => g1.none h⟩, by first | trivial | omega⟩, fun g2 => ⟨⟨⟨trivial, ho, hc⟩, ⟨trivial, trivial, trivial, by first | trivial | omega, by have := g2.le; omega, g2.max, fun h => g2.none h⟩, by first | trivial | omega⟩, fun g3 => ?_⟩⟩⟩
      have g3n : g3.nl' = true → ln + n = 0 ∧ g3.cap = 0 := fun h => by
        have := (rowR g3).nil h
        exact ⟨by first | trivial | omega, this.2⟩
      refine ⟨_, _, hK ⟨g3.nl', g3.cap, g3n, by have := g3.le; omega, g3.max⟩, as_end [some 6] ?_ (by kernel_rfl) (fun h => by cases h)⟩
      repeat' (first | exact trivial | exact rfl | (refine And.intro ?_ ?_))
      all_goals first | (simp only [Nat.zero_add]; done) | (show _ = _; simp [Nat.zero_add, cut0, tk]; done) | (show _ = _; simp [Nat.zero_add]; done)
    · refine ⟨⟨⟨trivial, by first | trivial | omega, hlc⟩, trivial, by first | trivial | omega⟩, fun g2 => ⟨⟨⟨trivial, ho, hc⟩, ⟨trivial, trivial, trivial, by first | trivial | omega, by have := g2.le; omega, g2.max, fun h => g2.none h⟩, by first | trivial | omega⟩, fun g3 => ?_⟩⟩
      have g3n : g3.nl' = true → ln + n = 0 ∧ g3.cap = 0 := fun h => by
        have := (rowR g3).nil h
        exact ⟨by first | trivial | omega, this.2⟩
      refine ⟨_, _, hK ⟨g3.nl', g3.cap, g3n, by have := g3.le; omega, g3.max⟩, as_end [some 5] ?_ (by kernel_rfl) (fun h => by cases h)⟩
      repeat' (first | exact trivial | exact rfl | (refine And.intro ?_ ?_))
      all_goals first | (simp only [Nat.zero_add]; done) | (show _ = _; simp [Nat.zero_add, cut0, tk]; done) | (show _ = _; simp [Nat.zero_add]; done)
  · cases h0
end Go.Proofs.Ytmenafkmkcodlaa
