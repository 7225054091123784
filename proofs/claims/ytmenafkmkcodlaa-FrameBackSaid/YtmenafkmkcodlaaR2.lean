/-
  Contracts of what stands at a place, and of a whole frame. Bytes are below 256, rows have at most 1000000000; no other condition.
-/
import Derived.Test.YtmenafkmkcodlaaR1
namespace Go.Proofs.Ytmenafkmkcodlaa
open Go.RowKit sym
set_option linter.unusedVariables false
set_option linter.unusedSimpArgs false
set_option maxRecDepth 100000
def tab1 : List RCtr := [checkC, rcheckC, cloneC]
theorem tab1_ok (w : World) : ∀ c ∈ tab1, c.Ok Try.prog w := fun c hc => by
  simp only [tab1, List.mem_cons, List.not_mem_nil, or_false] at hc
  rcases hc with rfl | rfl | rfl
  · exact checkC_ok w
  · exact rcheckC_ok w
  · exact cloneC_ok w
def atC : RCtr := ⟨25, [some [.u8], none], fun | [.row [.u8] n xs, .av (.v (.one (.int _ .i64 i)))] => some (.chk (n ≤ 1000000000 ∧ Bs xs ∧ 0 ≤ i ∧ i < n) (.leaf [.av (.one (.int false .i64 (atL (xs.drop i.toNat) : Nat)))])) | _ => none⟩
def wholeC : RCtr := ⟨23, [some [.u8]], fun | [.row [.u8] n xs] => some (.chk (n ≤ 1000000000 ∧ Bs xs) (.br (decide (n < 3 ∨ 64 < whN xs ∨ n < whN xs + 5))
  (.leaf [.row (some [.int true .u8 0]) true 5 [.u8] [] 0 0, .av (.one (.bool true false)), .av (.one (.bool false (decide (whL xs ≠ 2))))])
  (.all fun g : RowR (whN xs) => .leaf [.row (some [.int false .u8 (xs.getD 1 0)]) g.nl 5 [.u8] ((xs.drop 3).take (whN xs)) (whN xs) g.cap, .av (.one (.bool false (okF xs))), .av (.one (.bool true true))]))) | _ => none⟩
def hw (X : List Int) : Int := IntKind.i64.wrap ((3 : Int) + IntKind.i64.wrap (X.getD (2 : Nat) (0 : Int)))
def tl (X : List Int) (n : Nat) : List Int := sym.cutL X (hw X).toNat n [IntKind.u8].length
def tlA (A : Option Addr) (cap : Nat) (X : List Int) : Option Addr := sym.cutA A cap (hw X).toNat [IntKind.u8].length
def TC (w : World) (A : Option Addr) (X : List Int) (n cap k : Nat) : Prop := sym.XC w (tlA A cap X) [IntKind.u8] (tl X n) ∧ (0 : Nat) < (1 : Nat) ∧ k ≤ (tl X n).length
def bd (X : List Int) : List Int := sym.cutL X (1 : Nat) (hw X).toNat [IntKind.u8].length
def okW (X : List Int) (n : Nat) : Bool := crcL (bd X) == bits BinOp.or IntKind.u16 (IntKind.u16.wrap (IntKind.u16.wrap ((tl X n).getD (0 : Nat) (0 : Int)) * (2 : Int) ^ (8 : Nat))) (IntKind.u16.wrap ((tl X n).getD (1 : Nat) (0 : Int)))
def LEAFX (X : List Int) (n : Nat) (g : RowR ((hw X).toNat - 3)) : T (AV × List Blk) := (.leaf ((.tuple [(.agg [(.int false .u8 (X.getD (1 : Nat) (0 : Int))), (.gs 1 (g.nl) 1 0 ((hw X).toNat - (3 : Nat)) (g.cap))]), (.one (.bool false (okW X n))), (.one (.bool true true))]), [⟨[(.int false .u8 (X.getD (1 : Nat) (0 : Int))), (.gs 1 (g.nl) 1 0 ((hw X).toNat - (3 : Nat)) (g.cap))], 29⟩, ⟨[(.row (g.nl) ([IntKind.u8]) (sym.cutL X (3 : Nat) (hw X).toNat [IntKind.u8].length) (g.cap))], 5⟩]))
theorem whole_tree (w : World) (A : Option Addr) (X : List Int) (n cap : Nat) :
    callT Try.prog w (flatT Try.prog) (noCtr) (preOf w tab1) (lpOf Try.prog [mixLp 23 8, mixLp 23 9]) 20 23 [.v (.one (.xr A [.u8] X n cap))] [] =
(.br (decide ((↑n : Int) < (3 : Int))) (.leaf ((.tuple [(.agg [(.int true .u8 (0)), .nos]), (.one (.bool true false)), (.one (.bool true false))]), [⟨[(.int true .u8 (0)), .nos], 29⟩])) (.chk (sym.XR w A [IntKind.u8] X n ∧ (0 : Int) ≤ (2 : Int) ∧ (2 : Int) < (↑n : Int) ∧ (0 : Nat) < [IntKind.u8].length) (.chk (sym.XC w A [IntKind.u8] X ∧ (0 : Nat) < (1 : Nat) ∧ (3 : Nat) ≤ X.length) (.br (decide (IntKind.i64.wrap (X.getD (2 : Nat) (0 : Int)) > (64 : Int))) (.leaf ((.tuple [(.agg [(.int true .u8 (0)), .nos]), (.one (.bool true false)), (.one (.bool true true))]), [⟨[(.int true .u8 (0)), .nos], 29⟩])) (.br (decide ((↑n : Int) < IntKind.i64.wrap ((hw X) + (2 : Int)))) (.leaf ((.tuple [(.agg [(.int true .u8 (0)), .nos]), (.one (.bool true false)), (.one (.bool true false))]), [⟨[(.int true .u8 (0)), .nos], 29⟩])) (.chk ((0 : Int) ≤ (3 : Int) ∧ (3 : Int) ≤ (hw X) ∧ (hw X) ≤ (↑n : Int) ∧ n ≤ cap) (.chk ((0 : Int) ≤ (hw X) ∧ (hw X) ≤ (↑n : Int) ∧ (↑n : Int) ≤ (↑n : Int) ∧ n ≤ cap) (.chk (sym.XR w A [IntKind.u8] X n ∧ (0 : Int) ≤ (1 : Int) ∧ (1 : Int) < (↑n : Int) ∧ (0 : Nat) < [IntKind.u8].length) (.chk ((0 : Int) ≤ (1 : Int) ∧ (1 : Int) ≤ (hw X) ∧ (hw X) ≤ (↑n : Int) ∧ n ≤ cap) (.chk (sym.XR w (tlA A cap X) [IntKind.u8] (tl X n) (n - (hw X).toNat) ∧ (0 : Int) ≤ (0 : Int) ∧ (0 : Int) < (↑(n - (hw X).toNat) : Int) ∧ (0 : Nat) < [IntKind.u8].length) (.chk (sym.XR w (tlA A cap X) [IntKind.u8] (tl X n) (n - (hw X).toNat) ∧ (0 : Int) ≤ (1 : Int) ∧ (1 : Int) < (↑(n - (hw X).toNat) : Int) ∧ (0 : Nat) < [IntKind.u8].length) (.all fun x : Bool => (.br (x) (.chk (sym.XC w A [IntKind.u8] X ∧ (0 : Nat) < (1 : Nat) ∧ (2 : Nat) ≤ X.length) (.all fun x_1 : Bool => (.br (x_1) (.chk ((sym.XR w (sym.cutA A cap (3 : Nat) [IntKind.u8].length) [IntKind.u8] (sym.cutL X (3 : Nat) (hw X).toNat [IntKind.u8].length) ((hw X).toNat - (3 : Nat)) ∧ (hw X).toNat - (3 : Nat) ≤ cap - (3 : Nat)) ∧ True) (.chk ((hw X).toNat - (3 : Nat) ≤ (1000000000 : Nat)) (.all fun x_2 : RowR ((hw X).toNat - (3 : Nat)) => (.all fun x_3 : Bool => (.br (x_3) (.chk ((sym.XR w (sym.cutA A cap (1 : Nat) [IntKind.u8].length) [IntKind.u8] (bd X) ((hw X).toNat - (1 : Nat)) ∧ (hw X).toNat - (1 : Nat) ≤ cap - (1 : Nat)) ∧ True) (.chk ((hw X).toNat - (1 : Nat) ≤ (1000000000 : Nat) ∧ Bs (bd X)) (.all fun x_4 : Bool => (.br (x_4) (.chk (TC w A X n cap 1) (.all fun x_5 : Bool => (.br (x_5) (.chk (TC w A X n cap 2) (LEAFX X n x_2)) (.chk (TC w A X n cap 2) (LEAFX X n x_2))))) (.all fun x_5 : Bool => (.br (x_5) (.chk (TC w A X n cap 2) (.all fun x_6 : Bool => (.br (x_6) (.chk (TC w A X n cap 1) (LEAFX X n x_2)) (.chk (TC w A X n cap 1) (LEAFX X n x_2))))) (.all fun x_6 : Bool => (.br (x_6) (.chk (TC w A X n cap 1) (.chk (TC w A X n cap 2) (LEAFX X n x_2))) (.chk (TC w A X n cap 2) (.chk (TC w A X n cap 1) (LEAFX X n x_2))))))))))) (.all fun x_4 : Bool => (.br (x_4) (.chk (TC w A X n cap 1) (.all fun x_5 : Bool => (.br (x_5) (.chk ((sym.XR w (sym.cutA A cap (1 : Nat) [IntKind.u8].length) [IntKind.u8] (bd X) ((hw X).toNat - (1 : Nat)) ∧ (hw X).toNat - (1 : Nat) ≤ cap - (1 : Nat)) ∧ True) (.chk ((hw X).toNat - (1 : Nat) ≤ (1000000000 : Nat) ∧ Bs (bd X)) (.all fun x_6 : Bool => (.br (x_6) (.chk (TC w A X n cap 2) (LEAFX X n x_2)) (.chk (TC w A X n cap 2) (LEAFX X n x_2)))))) (.chk (TC w A X n cap 2) (.chk ((sym.XR w (sym.cutA A cap (1 : Nat) [IntKind.u8].length) [IntKind.u8] (bd X) ((hw X).toNat - (1 : Nat)) ∧ (hw X).toNat - (1 : Nat) ≤ cap - (1 : Nat)) ∧ True) (.chk ((hw X).toNat - (1 : Nat) ≤ (1000000000 : Nat) ∧ Bs (bd X)) (LEAFX X n x_2))))))) (.chk (TC w A X n cap 2) (.all fun x_5 : Bool => (.br (x_5) (.chk ((sym.XR w (sym.cutA A cap (1 : Nat) [IntKind.u8].length) [IntKind.u8] (bd X) ((hw X).toNat - (1 : Nat)) ∧ (hw X).toNat - (1 : Nat) ≤ cap - (1 : Nat)) ∧ True) (.chk ((hw X).toNat - (1 : Nat) ≤ (1000000000 : Nat) ∧ Bs (bd X)) (.all fun x_6 : Bool => (.br (x_6) (.chk (TC w A X n cap 1) (LEAFX X n x_2)) (.chk (TC w A X n cap 1) (LEAFX X n x_2)))))) (.chk (TC w A X n cap 1) (.chk ((sym.XR w (sym.cutA A cap (1 : Nat) [IntKind.u8].length) [IntKind.u8] (bd X) ((hw X).toNat - (1 : Nat)) ∧ (hw X).toNat - (1 : Nat) ≤ cap - (1 : Nat)) ∧ True) (.chk ((hw X).toNat - (1 : Nat) ≤ (1000000000 : Nat) ∧ Bs (bd X)) (LEAFX X n x_2)))))))))))))) (.all fun x_2 : Bool => (.br (x_2) (.chk (TC w A X n cap 1) (.all fun x_3 : Bool => (.br (x_3) (.chk ((sym.XR w (sym.cutA A cap (3 : Nat) [IntKind.u8].length) [IntKind.u8] (sym.cutL X (3 : Nat) (hw X).toNat [IntKind.u8].length) ((hw X).toNat - (3 : Nat)) ∧ (hw X).toNat - (3 : Nat) ≤ cap - (3 : Nat)) ∧ True) (.chk ((hw X).toNat - (3 : Nat) ≤ (1000000000 : Nat)) (.all fun x_4 : RowR ((hw X).toNat - (3 : Nat)) => (.all fun x_5 : Bool => (.br (x_5) (.chk ((sym.XR w (sym.cutA A cap (1 : Nat) [IntKind.u8].length) [IntKind.u8] (bd X) ((hw X).toNat - (1 : Nat)) ∧ (hw X).toNat - (1 : Nat) ≤ cap - (1 : Nat)) ∧ True) (.chk ((hw X).toNat - (1 : Nat) ≤ (1000000000 : Nat) ∧ Bs (bd X)) (.all fun x_6 : Bool => (.br (x_6) (.chk (TC w A X n cap 2) (LEAFX X n x_4)) (.chk (TC w A X n cap 2) (LEAFX X n x_4)))))) (.chk (TC w A X n cap 2) (.chk ((sym.XR w (sym.cutA A cap (1 : Nat) [IntKind.u8].length) [IntKind.u8] (bd X) ((hw X).toNat - (1 : Nat)) ∧ (hw X).toNat - (1 : Nat) ≤ cap - (1 : Nat)) ∧ True) (.chk ((hw X).toNat - (1 : Nat) ≤ (1000000000 : Nat) ∧ Bs (bd X)) (LEAFX X n x_4))))))))) (.chk (TC w A X n cap 2) (.chk ((sym.XR w (sym.cutA A cap (3 : Nat) [IntKind.u8].length) [IntKind.u8] (sym.cutL X (3 : Nat) (hw X).toNat [IntKind.u8].length) ((hw X).toNat - (3 : Nat)) ∧ (hw X).toNat - (3 : Nat) ≤ cap - (3 : Nat)) ∧ True) (.chk ((hw X).toNat - (3 : Nat) ≤ (1000000000 : Nat)) (.all fun x_4 : RowR ((hw X).toNat - (3 : Nat)) => (.chk ((sym.XR w (sym.cutA A cap (1 : Nat) [IntKind.u8].length) [IntKind.u8] (bd X) ((hw X).toNat - (1 : Nat)) ∧ (hw X).toNat - (1 : Nat) ≤ cap - (1 : Nat)) ∧ True) (.chk ((hw X).toNat - (1 : Nat) ≤ (1000000000 : Nat) ∧ Bs (bd X)) (LEAFX X n x_4)))))))))) (.chk (TC w A X n cap 2) (.all fun x_3 : Bool => (.br (x_3) (.chk ((sym.XR w (sym.cutA A cap (3 : Nat) [IntKind.u8].length) [IntKind.u8] (sym.cutL X (3 : Nat) (hw X).toNat [IntKind.u8].length) ((hw X).toNat - (3 : Nat)) ∧ (hw X).toNat - (3 : Nat) ≤ cap - (3 : Nat)) ∧ True) (.chk ((hw X).toNat - (3 : Nat) ≤ (1000000000 : Nat)) (.all fun x_4 : RowR ((hw X).toNat - (3 : Nat)) => (.all fun x_5 : Bool => (.br (x_5) (.chk ((sym.XR w (sym.cutA A cap (1 : Nat) [IntKind.u8].length) [IntKind.u8] (bd X) ((hw X).toNat - (1 : Nat)) ∧ (hw X).toNat - (1 : Nat) ≤ cap - (1 : Nat)) ∧ True) (.chk ((hw X).toNat - (1 : Nat) ≤ (1000000000 : Nat) ∧ Bs (bd X)) (.all fun x_6 : Bool => (.br (x_6) (.chk (TC w A X n cap 1) (LEAFX X n x_4)) (.chk (TC w A X n cap 1) (LEAFX X n x_4)))))) (.chk (TC w A X n cap 1) (.chk ((sym.XR w (sym.cutA A cap (1 : Nat) [IntKind.u8].length) [IntKind.u8] (bd X) ((hw X).toNat - (1 : Nat)) ∧ (hw X).toNat - (1 : Nat) ≤ cap - (1 : Nat)) ∧ True) (.chk ((hw X).toNat - (1 : Nat) ≤ (1000000000 : Nat) ∧ Bs (bd X)) (LEAFX X n x_4))))))))) (.chk (TC w A X n cap 1) (.chk ((sym.XR w (sym.cutA A cap (3 : Nat) [IntKind.u8].length) [IntKind.u8] (sym.cutL X (3 : Nat) (hw X).toNat [IntKind.u8].length) ((hw X).toNat - (3 : Nat)) ∧ (hw X).toNat - (3 : Nat) ≤ cap - (3 : Nat)) ∧ True) (.chk ((hw X).toNat - (3 : Nat) ≤ (1000000000 : Nat)) (.all fun x_4 : RowR ((hw X).toNat - (3 : Nat)) => (.chk ((sym.XR w (sym.cutA A cap (1 : Nat) [IntKind.u8].length) [IntKind.u8] (bd X) ((hw X).toNat - (1 : Nat)) ∧ (hw X).toNat - (1 : Nat) ≤ cap - (1 : Nat)) ∧ True) (.chk ((hw X).toNat - (1 : Nat) ≤ (1000000000 : Nat) ∧ Bs (bd X)) (LEAFX X n x_4))))))))))))))) (.all fun x_1 : Bool => (.br (x_1) (.chk ((sym.XR w (sym.cutA A cap (3 : Nat) [IntKind.u8].length) [IntKind.u8] (sym.cutL X (3 : Nat) (hw X).toNat [IntKind.u8].length) ((hw X).toNat - (3 : Nat)) ∧ (hw X).toNat - (3 : Nat) ≤ cap - (3 : Nat)) ∧ True) (.chk ((hw X).toNat - (3 : Nat) ≤ (1000000000 : Nat)) (.all fun x_2 : RowR ((hw X).toNat - (3 : Nat)) => (.all fun x_3 : Bool => (.br (x_3) (.chk (sym.XC w A [IntKind.u8] X ∧ (0 : Nat) < (1 : Nat) ∧ (2 : Nat) ≤ X.length) (.all fun x_4 : Bool => (.br (x_4) (.chk ((sym.XR w (sym.cutA A cap (1 : Nat) [IntKind.u8].length) [IntKind.u8] (bd X) ((hw X).toNat - (1 : Nat)) ∧ (hw X).toNat - (1 : Nat) ≤ cap - (1 : Nat)) ∧ True) (.chk ((hw X).toNat - (1 : Nat) ≤ (1000000000 : Nat) ∧ Bs (bd X)) (.all fun x_5 : Bool => (.br (x_5) (.chk (TC w A X n cap 1) (.all fun x_6 : Bool => (.br (x_6) (.chk (TC w A X n cap 2) (LEAFX X n x_2)) (.chk (TC w A X n cap 2) (LEAFX X n x_2))))) (.all fun x_6 : Bool => (.br (x_6) (.chk (TC w A X n cap 2) (.all fun x_7 : Bool => (.br (x_7) (.chk (TC w A X n cap 1) (LEAFX X n x_2)) (.chk (TC w A X n cap 1) (LEAFX X n x_2))))) (.all fun x_7 : Bool => (.br (x_7) (.chk (TC w A X n cap 1) (.chk (TC w A X n cap 2) (LEAFX X n x_2))) (.chk (TC w A X n cap 2) (.chk (TC w A X n cap 1) (LEAFX X n x_2))))))))))) (.all fun x_5 : Bool => (.br (x_5) (.chk (TC w A X n cap 1) (.all fun x_6 : Bool => (.br (x_6) (.chk ((sym.XR w (sym.cutA A cap (1 : Nat) [IntKind.u8].length) [IntKind.u8] (bd X) ((hw X).toNat - (1 : Nat)) ∧ (hw X).toNat - (1 : Nat) ≤ cap - (1 : Nat)) ∧ True) (.chk ((hw X).toNat - (1 : Nat) ≤ (1000000000 : Nat) ∧ Bs (bd X)) (.all fun x_7 : Bool => (.br (x_7) (.chk (TC w A X n cap 2) (LEAFX X n x_2)) (.chk (TC w A X n cap 2) (LEAFX X n x_2)))))) (.chk (TC w A X n cap 2) (.chk ((sym.XR w (sym.cutA A cap (1 : Nat) [IntKind.u8].length) [IntKind.u8] (bd X) ((hw X).toNat - (1 : Nat)) ∧ (hw X).toNat - (1 : Nat) ≤ cap - (1 : Nat)) ∧ True) (.chk ((hw X).toNat - (1 : Nat) ≤ (1000000000 : Nat) ∧ Bs (bd X)) (LEAFX X n x_2))))))) (.chk (TC w A X n cap 2) (.all fun x_6 : Bool => (.br (x_6) (.chk ((sym.XR w (sym.cutA A cap (1 : Nat) [IntKind.u8].length) [IntKind.u8] (bd X) ((hw X).toNat - (1 : Nat)) ∧ (hw X).toNat - (1 : Nat) ≤ cap - (1 : Nat)) ∧ True) (.chk ((hw X).toNat - (1 : Nat) ≤ (1000000000 : Nat) ∧ Bs (bd X)) (.all fun x_7 : Bool => (.br (x_7) (.chk (TC w A X n cap 1) (LEAFX X n x_2)) (.chk (TC w A X n cap 1) (LEAFX X n x_2)))))) (.chk (TC w A X n cap 1) (.chk ((sym.XR w (sym.cutA A cap (1 : Nat) [IntKind.u8].length) [IntKind.u8] (bd X) ((hw X).toNat - (1 : Nat)) ∧ (hw X).toNat - (1 : Nat) ≤ cap - (1 : Nat)) ∧ True) (.chk ((hw X).toNat - (1 : Nat) ≤ (1000000000 : Nat) ∧ Bs (bd X)) (LEAFX X n x_2)))))))))))) (.all fun x_4 : Bool => (.br (x_4) (.chk ((sym.XR w (sym.cutA A cap (1 : Nat) [IntKind.u8].length) [IntKind.u8] (bd X) ((hw X).toNat - (1 : Nat)) ∧ (hw X).toNat - (1 : Nat) ≤ cap - (1 : Nat)) ∧ True) (.chk ((hw X).toNat - (1 : Nat) ≤ (1000000000 : Nat) ∧ Bs (bd X)) (.all fun x_5 : Bool => (.br (x_5) (.chk (sym.XC w A [IntKind.u8] X ∧ (0 : Nat) < (1 : Nat) ∧ (2 : Nat) ≤ X.length) (.all fun x_6 : Bool => (.br (x_6) (.chk (TC w A X n cap 1) (.all fun x_7 : Bool => (.br (x_7) (.chk (TC w A X n cap 2) (LEAFX X n x_2)) (.chk (TC w A X n cap 2) (LEAFX X n x_2))))) (.all fun x_7 : Bool => (.br (x_7) (.chk (TC w A X n cap 2) (.all fun x_8 : Bool => (.br (x_8) (.chk (TC w A X n cap 1) (LEAFX X n x_2)) (.chk (TC w A X n cap 1) (LEAFX X n x_2))))) (.all fun x_8 : Bool => (.br (x_8) (.chk (TC w A X n cap 1) (.chk (TC w A X n cap 2) (LEAFX X n x_2))) (.chk (TC w A X n cap 2) (.chk (TC w A X n cap 1) (LEAFX X n x_2)))))))))) (.all fun x_6 : Bool => (.br (x_6) (.chk (TC w A X n cap 1) (.all fun x_7 : Bool => (.br (x_7) (.chk (sym.XC w A [IntKind.u8] X ∧ (0 : Nat) < (1 : Nat) ∧ (2 : Nat) ≤ X.length) (.all fun x_8 : Bool => (.br (x_8) (.chk (TC w A X n cap 2) (LEAFX X n x_2)) (.chk (TC w A X n cap 2) (LEAFX X n x_2))))) (.chk (TC w A X n cap 2) (.chk (sym.XC w A [IntKind.u8] X ∧ (0 : Nat) < (1 : Nat) ∧ (2 : Nat) ≤ X.length) (LEAFX X n x_2)))))) (.chk (TC w A X n cap 2) (.all fun x_7 : Bool => (.br (x_7) (.chk (sym.XC w A [IntKind.u8] X ∧ (0 : Nat) < (1 : Nat) ∧ (2 : Nat) ≤ X.length) (.all fun x_8 : Bool => (.br (x_8) (.chk (TC w A X n cap 1) (LEAFX X n x_2)) (.chk (TC w A X n cap 1) (LEAFX X n x_2))))) (.chk (TC w A X n cap 1) (.chk (sym.XC w A [IntKind.u8] X ∧ (0 : Nat) < (1 : Nat) ∧ (2 : Nat) ≤ X.length) (LEAFX X n x_2)))))))))))) (.all fun x_5 : Bool => (.br (x_5) (.chk (TC w A X n cap 1) (.all fun x_6 : Bool => (.br (x_6) (.chk (sym.XC w A [IntKind.u8] X ∧ (0 : Nat) < (1 : Nat) ∧ (2 : Nat) ≤ X.length) (.all fun x_7 : Bool => (.br (x_7) (.chk ((sym.XR w (sym.cutA A cap (1 : Nat) [IntKind.u8].length) [IntKind.u8] (bd X) ((hw X).toNat - (1 : Nat)) ∧ (hw X).toNat - (1 : Nat) ≤ cap - (1 : Nat)) ∧ True) (.chk ((hw X).toNat - (1 : Nat) ≤ (1000000000 : Nat) ∧ Bs (bd X)) (.all fun x_8 : Bool => (.br (x_8) (.chk (TC w A X n cap 2) (LEAFX X n x_2)) (.chk (TC w A X n cap 2) (LEAFX X n x_2)))))) (.chk (TC w A X n cap 2) (.chk ((sym.XR w (sym.cutA A cap (1 : Nat) [IntKind.u8].length) [IntKind.u8] (bd X) ((hw X).toNat - (1 : Nat)) ∧ (hw X).toNat - (1 : Nat) ≤ cap - (1 : Nat)) ∧ True) (.chk ((hw X).toNat - (1 : Nat) ≤ (1000000000 : Nat) ∧ Bs (bd X)) (LEAFX X n x_2))))))) (.all fun x_7 : Bool => (.br (x_7) (.chk ((sym.XR w (sym.cutA A cap (1 : Nat) [IntKind.u8].length) [IntKind.u8] (bd X) ((hw X).toNat - (1 : Nat)) ∧ (hw X).toNat - (1 : Nat) ≤ cap - (1 : Nat)) ∧ True) (.chk ((hw X).toNat - (1 : Nat) ≤ (1000000000 : Nat) ∧ Bs (bd X)) (.all fun x_8 : Bool => (.br (x_8) (.chk (sym.XC w A [IntKind.u8] X ∧ (0 : Nat) < (1 : Nat) ∧ (2 : Nat) ≤ X.length) (.all fun x_9 : Bool => (.br (x_9) (.chk (TC w A X n cap 2) (LEAFX X n x_2)) (.chk (TC w A X n cap 2) (LEAFX X n x_2))))) (.chk (TC w A X n cap 2) (.chk (sym.XC w A [IntKind.u8] X ∧ (0 : Nat) < (1 : Nat) ∧ (2 : Nat) ≤ X.length) (LEAFX X n x_2))))))) (.chk (TC w A X n cap 2) (.all fun x_8 : Bool => (.br (x_8) (.chk (sym.XC w A [IntKind.u8] X ∧ (0 : Nat) < (1 : Nat) ∧ (2 : Nat) ≤ X.length) (.chk ((sym.XR w (sym.cutA A cap (1 : Nat) [IntKind.u8].length) [IntKind.u8] (bd X) ((hw X).toNat - (1 : Nat)) ∧ (hw X).toNat - (1 : Nat) ≤ cap - (1 : Nat)) ∧ True) (.chk ((hw X).toNat - (1 : Nat) ≤ (1000000000 : Nat) ∧ Bs (bd X)) (LEAFX X n x_2)))) (.chk ((sym.XR w (sym.cutA A cap (1 : Nat) [IntKind.u8].length) [IntKind.u8] (bd X) ((hw X).toNat - (1 : Nat)) ∧ (hw X).toNat - (1 : Nat) ≤ cap - (1 : Nat)) ∧ True) (.chk ((hw X).toNat - (1 : Nat) ≤ (1000000000 : Nat) ∧ Bs (bd X)) (.chk (sym.XC w A [IntKind.u8] X ∧ (0 : Nat) < (1 : Nat) ∧ (2 : Nat) ≤ X.length) (LEAFX X n x_2)))))))))))) (.chk (TC w A X n cap 2) (.all fun x_6 : Bool => (.br (x_6) (.chk (sym.XC w A [IntKind.u8] X ∧ (0 : Nat) < (1 : Nat) ∧ (2 : Nat) ≤ X.length) (.all fun x_7 : Bool => (.br (x_7) (.chk ((sym.XR w (sym.cutA A cap (1 : Nat) [IntKind.u8].length) [IntKind.u8] (bd X) ((hw X).toNat - (1 : Nat)) ∧ (hw X).toNat - (1 : Nat) ≤ cap - (1 : Nat)) ∧ True) (.chk ((hw X).toNat - (1 : Nat) ≤ (1000000000 : Nat) ∧ Bs (bd X)) (.all fun x_8 : Bool => (.br (x_8) (.chk (TC w A X n cap 1) (LEAFX X n x_2)) (.chk (TC w A X n cap 1) (LEAFX X n x_2)))))) (.chk (TC w A X n cap 1) (.chk ((sym.XR w (sym.cutA A cap (1 : Nat) [IntKind.u8].length) [IntKind.u8] (bd X) ((hw X).toNat - (1 : Nat)) ∧ (hw X).toNat - (1 : Nat) ≤ cap - (1 : Nat)) ∧ True) (.chk ((hw X).toNat - (1 : Nat) ≤ (1000000000 : Nat) ∧ Bs (bd X)) (LEAFX X n x_2))))))) (.all fun x_7 : Bool => (.br (x_7) (.chk ((sym.XR w (sym.cutA A cap (1 : Nat) [IntKind.u8].length) [IntKind.u8] (bd X) ((hw X).toNat - (1 : Nat)) ∧ (hw X).toNat - (1 : Nat) ≤ cap - (1 : Nat)) ∧ True) (.chk ((hw X).toNat - (1 : Nat) ≤ (1000000000 : Nat) ∧ Bs (bd X)) (.all fun x_8 : Bool => (.br (x_8) (.chk (sym.XC w A [IntKind.u8] X ∧ (0 : Nat) < (1 : Nat) ∧ (2 : Nat) ≤ X.length) (.all fun x_9 : Bool => (.br (x_9) (.chk (TC w A X n cap 1) (LEAFX X n x_2)) (.chk (TC w A X n cap 1) (LEAFX X n x_2))))) (.chk (TC w A X n cap 1) (.chk (sym.XC w A [IntKind.u8] X ∧ (0 : Nat) < (1 : Nat) ∧ (2 : Nat) ≤ X.length) (LEAFX X n x_2))))))) (.chk (TC w A X n cap 1) (.all fun x_8 : Bool => (.br (x_8) (.chk (sym.XC w A [IntKind.u8] X ∧ (0 : Nat) < (1 : Nat) ∧ (2 : Nat) ≤ X.length) (.chk ((sym.XR w (sym.cutA A cap (1 : Nat) [IntKind.u8].length) [IntKind.u8] (bd X) ((hw X).toNat - (1 : Nat)) ∧ (hw X).toNat - (1 : Nat) ≤ cap - (1 : Nat)) ∧ True) (.chk ((hw X).toNat - (1 : Nat) ≤ (1000000000 : Nat) ∧ Bs (bd X)) (LEAFX X n x_2)))) (.chk ((sym.XR w (sym.cutA A cap (1 : Nat) [IntKind.u8].length) [IntKind.u8] (bd X) ((hw X).toNat - (1 : Nat)) ∧ (hw X).toNat - (1 : Nat) ≤ cap - (1 : Nat)) ∧ True) (.chk ((hw X).toNat - (1 : Nat) ≤ (1000000000 : Nat) ∧ Bs (bd X)) (.chk (sym.XC w A [IntKind.u8] X ∧ (0 : Nat) < (1 : Nat) ∧ (2 : Nat) ≤ X.length) (LEAFX X n x_2))))))))))))))))))))) (.all fun x_2 : Bool => (.br (x_2) (.chk (TC w A X n cap 1) (.all fun x_3 : Bool => (.br (x_3) (.chk (sym.XC w A [IntKind.u8] X ∧ (0 : Nat) < (1 : Nat) ∧ (2 : Nat) ≤ X.length) (.all fun x_4 : Bool => (.br (x_4) (.chk ((sym.XR w (sym.cutA A cap (3 : Nat) [IntKind.u8].length) [IntKind.u8] (sym.cutL X (3 : Nat) (hw X).toNat [IntKind.u8].length) ((hw X).toNat - (3 : Nat)) ∧ (hw X).toNat - (3 : Nat) ≤ cap - (3 : Nat)) ∧ True) (.chk ((hw X).toNat - (3 : Nat) ≤ (1000000000 : Nat)) (.all fun x_5 : RowR ((hw X).toNat - (3 : Nat)) => (.all fun x_6 : Bool => (.br (x_6) (.chk ((sym.XR w (sym.cutA A cap (1 : Nat) [IntKind.u8].length) [IntKind.u8] (bd X) ((hw X).toNat - (1 : Nat)) ∧ (hw X).toNat - (1 : Nat) ≤ cap - (1 : Nat)) ∧ True) (.chk ((hw X).toNat - (1 : Nat) ≤ (1000000000 : Nat) ∧ Bs (bd X)) (.all fun x_7 : Bool => (.br (x_7) (.chk (TC w A X n cap 2) (LEAFX X n x_5)) (.chk (TC w A X n cap 2) (LEAFX X n x_5)))))) (.chk (TC w A X n cap 2) (.chk ((sym.XR w (sym.cutA A cap (1 : Nat) [IntKind.u8].length) [IntKind.u8] (bd X) ((hw X).toNat - (1 : Nat)) ∧ (hw X).toNat - (1 : Nat) ≤ cap - (1 : Nat)) ∧ True) (.chk ((hw X).toNat - (1 : Nat) ≤ (1000000000 : Nat) ∧ Bs (bd X)) (LEAFX X n x_5))))))))) (.chk (TC w A X n cap 2) (.chk ((sym.XR w (sym.cutA A cap (3 : Nat) [IntKind.u8].length) [IntKind.u8] (sym.cutL X (3 : Nat) (hw X).toNat [IntKind.u8].length) ((hw X).toNat - (3 : Nat)) ∧ (hw X).toNat - (3 : Nat) ≤ cap - (3 : Nat)) ∧ True) (.chk ((hw X).toNat - (3 : Nat) ≤ (1000000000 : Nat)) (.all fun x_5 : RowR ((hw X).toNat - (3 : Nat)) => (.chk ((sym.XR w (sym.cutA A cap (1 : Nat) [IntKind.u8].length) [IntKind.u8] (bd X) ((hw X).toNat - (1 : Nat)) ∧ (hw X).toNat - (1 : Nat) ≤ cap - (1 : Nat)) ∧ True) (.chk ((hw X).toNat - (1 : Nat) ≤ (1000000000 : Nat) ∧ Bs (bd X)) (LEAFX X n x_5)))))))))) (.all fun x_4 : Bool => (.br (x_4) (.chk ((sym.XR w (sym.cutA A cap (3 : Nat) [IntKind.u8].length) [IntKind.u8] (sym.cutL X (3 : Nat) (hw X).toNat [IntKind.u8].length) ((hw X).toNat - (3 : Nat)) ∧ (hw X).toNat - (3 : Nat) ≤ cap - (3 : Nat)) ∧ True) (.chk ((hw X).toNat - (3 : Nat) ≤ (1000000000 : Nat)) (.all fun x_5 : RowR ((hw X).toNat - (3 : Nat)) => (.all fun x_6 : Bool => (.br (x_6) (.chk (sym.XC w A [IntKind.u8] X ∧ (0 : Nat) < (1 : Nat) ∧ (2 : Nat) ≤ X.length) (.all fun x_7 : Bool => (.br (x_7) (.chk ((sym.XR w (sym.cutA A cap (1 : Nat) [IntKind.u8].length) [IntKind.u8] (bd X) ((hw X).toNat - (1 : Nat)) ∧ (hw X).toNat - (1 : Nat) ≤ cap - (1 : Nat)) ∧ True) (.chk ((hw X).toNat - (1 : Nat) ≤ (1000000000 : Nat) ∧ Bs (bd X)) (.all fun x_8 : Bool => (.br (x_8) (.chk (TC w A X n cap 2) (LEAFX X n x_5)) (.chk (TC w A X n cap 2) (LEAFX X n x_5)))))) (.chk (TC w A X n cap 2) (.chk ((sym.XR w (sym.cutA A cap (1 : Nat) [IntKind.u8].length) [IntKind.u8] (bd X) ((hw X).toNat - (1 : Nat)) ∧ (hw X).toNat - (1 : Nat) ≤ cap - (1 : Nat)) ∧ True) (.chk ((hw X).toNat - (1 : Nat) ≤ (1000000000 : Nat) ∧ Bs (bd X)) (LEAFX X n x_5))))))) (.all fun x_7 : Bool => (.br (x_7) (.chk ((sym.XR w (sym.cutA A cap (1 : Nat) [IntKind.u8].length) [IntKind.u8] (bd X) ((hw X).toNat - (1 : Nat)) ∧ (hw X).toNat - (1 : Nat) ≤ cap - (1 : Nat)) ∧ True) (.chk ((hw X).toNat - (1 : Nat) ≤ (1000000000 : Nat) ∧ Bs (bd X)) (.all fun x_8 : Bool => (.br (x_8) (.chk (sym.XC w A [IntKind.u8] X ∧ (0 : Nat) < (1 : Nat) ∧ (2 : Nat) ≤ X.length) (.all fun x_9 : Bool => (.br (x_9) (.chk (TC w A X n cap 2) (LEAFX X n x_5)) (.chk (TC w A X n cap 2) (LEAFX X n x_5))))) (.chk (TC w A X n cap 2) (.chk (sym.XC w A [IntKind.u8] X ∧ (0 : Nat) < (1 : Nat) ∧ (2 : Nat) ≤ X.length) (LEAFX X n x_5))))))) (.chk (TC w A X n cap 2) (.all fun x_8 : Bool => (.br (x_8) (.chk (sym.XC w A [IntKind.u8] X ∧ (0 : Nat) < (1 : Nat) ∧ (2 : Nat) ≤ X.length) (.chk ((sym.XR w (sym.cutA A cap (1 : Nat) [IntKind.u8].length) [IntKind.u8] (bd X) ((hw X).toNat - (1 : Nat)) ∧ (hw X).toNat - (1 : Nat) ≤ cap - (1 : Nat)) ∧ True) (.chk ((hw X).toNat - (1 : Nat) ≤ (1000000000 : Nat) ∧ Bs (bd X)) (LEAFX X n x_5)))) (.chk ((sym.XR w (sym.cutA A cap (1 : Nat) [IntKind.u8].length) [IntKind.u8] (bd X) ((hw X).toNat - (1 : Nat)) ∧ (hw X).toNat - (1 : Nat) ≤ cap - (1 : Nat)) ∧ True) (.chk ((hw X).toNat - (1 : Nat) ≤ (1000000000 : Nat) ∧ Bs (bd X)) (.chk (sym.XC w A [IntKind.u8] X ∧ (0 : Nat) < (1 : Nat) ∧ (2 : Nat) ≤ X.length) (LEAFX X n x_5)))))))))))))) (.chk (TC w A X n cap 2) (.all fun x_5 : Bool => (.br (x_5) (.chk (sym.XC w A [IntKind.u8] X ∧ (0 : Nat) < (1 : Nat) ∧ (2 : Nat) ≤ X.length) (.chk ((sym.XR w (sym.cutA A cap (3 : Nat) [IntKind.u8].length) [IntKind.u8] (sym.cutL X (3 : Nat) (hw X).toNat [IntKind.u8].length) ((hw X).toNat - (3 : Nat)) ∧ (hw X).toNat - (3 : Nat) ≤ cap - (3 : Nat)) ∧ True) (.chk ((hw X).toNat - (3 : Nat) ≤ (1000000000 : Nat)) (.all fun x_6 : RowR ((hw X).toNat - (3 : Nat)) => (.chk ((sym.XR w (sym.cutA A cap (1 : Nat) [IntKind.u8].length) [IntKind.u8] (bd X) ((hw X).toNat - (1 : Nat)) ∧ (hw X).toNat - (1 : Nat) ≤ cap - (1 : Nat)) ∧ True) (.chk ((hw X).toNat - (1 : Nat) ≤ (1000000000 : Nat) ∧ Bs (bd X)) (LEAFX X n x_6))))))) (.chk ((sym.XR w (sym.cutA A cap (3 : Nat) [IntKind.u8].length) [IntKind.u8] (sym.cutL X (3 : Nat) (hw X).toNat [IntKind.u8].length) ((hw X).toNat - (3 : Nat)) ∧ (hw X).toNat - (3 : Nat) ≤ cap - (3 : Nat)) ∧ True) (.chk ((hw X).toNat - (3 : Nat) ≤ (1000000000 : Nat)) (.all fun x_6 : RowR ((hw X).toNat - (3 : Nat)) => (.all fun x_7 : Bool => (.br (x_7) (.chk (sym.XC w A [IntKind.u8] X ∧ (0 : Nat) < (1 : Nat) ∧ (2 : Nat) ≤ X.length) (.chk ((sym.XR w (sym.cutA A cap (1 : Nat) [IntKind.u8].length) [IntKind.u8] (bd X) ((hw X).toNat - (1 : Nat)) ∧ (hw X).toNat - (1 : Nat) ≤ cap - (1 : Nat)) ∧ True) (.chk ((hw X).toNat - (1 : Nat) ≤ (1000000000 : Nat) ∧ Bs (bd X)) (LEAFX X n x_6)))) (.chk ((sym.XR w (sym.cutA A cap (1 : Nat) [IntKind.u8].length) [IntKind.u8] (bd X) ((hw X).toNat - (1 : Nat)) ∧ (hw X).toNat - (1 : Nat) ≤ cap - (1 : Nat)) ∧ True) (.chk ((hw X).toNat - (1 : Nat) ≤ (1000000000 : Nat) ∧ Bs (bd X)) (.chk (sym.XC w A [IntKind.u8] X ∧ (0 : Nat) < (1 : Nat) ∧ (2 : Nat) ≤ X.length) (LEAFX X n x_6))))))))))))))))) (.chk (TC w A X n cap 2) (.all fun x_3 : Bool => (.br (x_3) (.chk (sym.XC w A [IntKind.u8] X ∧ (0 : Nat) < (1 : Nat) ∧ (2 : Nat) ≤ X.length) (.all fun x_4 : Bool => (.br (x_4) (.chk ((sym.XR w (sym.cutA A cap (3 : Nat) [IntKind.u8].length) [IntKind.u8] (sym.cutL X (3 : Nat) (hw X).toNat [IntKind.u8].length) ((hw X).toNat - (3 : Nat)) ∧ (hw X).toNat - (3 : Nat) ≤ cap - (3 : Nat)) ∧ True) (.chk ((hw X).toNat - (3 : Nat) ≤ (1000000000 : Nat)) (.all fun x_5 : RowR ((hw X).toNat - (3 : Nat)) => (.all fun x_6 : Bool => (.br (x_6) (.chk ((sym.XR w (sym.cutA A cap (1 : Nat) [IntKind.u8].length) [IntKind.u8] (bd X) ((hw X).toNat - (1 : Nat)) ∧ (hw X).toNat - (1 : Nat) ≤ cap - (1 : Nat)) ∧ True) (.chk ((hw X).toNat - (1 : Nat) ≤ (1000000000 : Nat) ∧ Bs (bd X)) (.all fun x_7 : Bool => (.br (x_7) (.chk (TC w A X n cap 1) (LEAFX X n x_5)) (.chk (TC w A X n cap 1) (LEAFX X n x_5)))))) (.chk (TC w A X n cap 1) (.chk ((sym.XR w (sym.cutA A cap (1 : Nat) [IntKind.u8].length) [IntKind.u8] (bd X) ((hw X).toNat - (1 : Nat)) ∧ (hw X).toNat - (1 : Nat) ≤ cap - (1 : Nat)) ∧ True) (.chk ((hw X).toNat - (1 : Nat) ≤ (1000000000 : Nat) ∧ Bs (bd X)) (LEAFX X n x_5))))))))) (.chk (TC w A X n cap 1) (.chk ((sym.XR w (sym.cutA A cap (3 : Nat) [IntKind.u8].length) [IntKind.u8] (sym.cutL X (3 : Nat) (hw X).toNat [IntKind.u8].length) ((hw X).toNat - (3 : Nat)) ∧ (hw X).toNat - (3 : Nat) ≤ cap - (3 : Nat)) ∧ True) (.chk ((hw X).toNat - (3 : Nat) ≤ (1000000000 : Nat)) (.all fun x_5 : RowR ((hw X).toNat - (3 : Nat)) => (.chk ((sym.XR w (sym.cutA A cap (1 : Nat) [IntKind.u8].length) [IntKind.u8] (bd X) ((hw X).toNat - (1 : Nat)) ∧ (hw X).toNat - (1 : Nat) ≤ cap - (1 : Nat)) ∧ True) (.chk ((hw X).toNat - (1 : Nat) ≤ (1000000000 : Nat) ∧ Bs (bd X)) (LEAFX X n x_5)))))))))) (.all fun x_4 : Bool => (.br (x_4) (.chk ((sym.XR w (sym.cutA A cap (3 : Nat) [IntKind.u8].length) [IntKind.u8] (sym.cutL X (3 : Nat) (hw X).toNat [IntKind.u8].length) ((hw X).toNat - (3 : Nat)) ∧ (hw X).toNat - (3 : Nat) ≤ cap - (3 : Nat)) ∧ True) (.chk ((hw X).toNat - (3 : Nat) ≤ (1000000000 : Nat)) (.all fun x_5 : RowR ((hw X).toNat - (3 : Nat)) => (.all fun x_6 : Bool => (.br (x_6) (.chk (sym.XC w A [IntKind.u8] X ∧ (0 : Nat) < (1 : Nat) ∧ (2 : Nat) ≤ X.length) (.all fun x_7 : Bool => (.br (x_7) (.chk ((sym.XR w (sym.cutA A cap (1 : Nat) [IntKind.u8].length) [IntKind.u8] (bd X) ((hw X).toNat - (1 : Nat)) ∧ (hw X).toNat - (1 : Nat) ≤ cap - (1 : Nat)) ∧ True) (.chk ((hw X).toNat - (1 : Nat) ≤ (1000000000 : Nat) ∧ Bs (bd X)) (.all fun x_8 : Bool => (.br (x_8) (.chk (TC w A X n cap 1) (LEAFX X n x_5)) (.chk (TC w A X n cap 1) (LEAFX X n x_5)))))) (.chk (TC w A X n cap 1) (.chk ((sym.XR w (sym.cutA A cap (1 : Nat) [IntKind.u8].length) [IntKind.u8] (bd X) ((hw X).toNat - (1 : Nat)) ∧ (hw X).toNat - (1 : Nat) ≤ cap - (1 : Nat)) ∧ True) (.chk ((hw X).toNat - (1 : Nat) ≤ (1000000000 : Nat) ∧ Bs (bd X)) (LEAFX X n x_5))))))) (.all fun x_7 : Bool => (.br (x_7) (.chk ((sym.XR w (sym.cutA A cap (1 : Nat) [IntKind.u8].length) [IntKind.u8] (bd X) ((hw X).toNat - (1 : Nat)) ∧ (hw X).toNat - (1 : Nat) ≤ cap - (1 : Nat)) ∧ True) (.chk ((hw X).toNat - (1 : Nat) ≤ (1000000000 : Nat) ∧ Bs (bd X)) (.all fun x_8 : Bool => (.br (x_8) (.chk (sym.XC w A [IntKind.u8] X ∧ (0 : Nat) < (1 : Nat) ∧ (2 : Nat) ≤ X.length) (.all fun x_9 : Bool => (.br (x_9) (.chk (TC w A X n cap 1) (LEAFX X n x_5)) (.chk (TC w A X n cap 1) (LEAFX X n x_5))))) (.chk (TC w A X n cap 1) (.chk (sym.XC w A [IntKind.u8] X ∧ (0 : Nat) < (1 : Nat) ∧ (2 : Nat) ≤ X.length) (LEAFX X n x_5))))))) (.chk (TC w A X n cap 1) (.all fun x_8 : Bool => (.br (x_8) (.chk (sym.XC w A [IntKind.u8] X ∧ (0 : Nat) < (1 : Nat) ∧ (2 : Nat) ≤ X.length) (.chk ((sym.XR w (sym.cutA A cap (1 : Nat) [IntKind.u8].length) [IntKind.u8] (bd X) ((hw X).toNat - (1 : Nat)) ∧ (hw X).toNat - (1 : Nat) ≤ cap - (1 : Nat)) ∧ True) (.chk ((hw X).toNat - (1 : Nat) ≤ (1000000000 : Nat) ∧ Bs (bd X)) (LEAFX X n x_5)))) (.chk ((sym.XR w (sym.cutA A cap (1 : Nat) [IntKind.u8].length) [IntKind.u8] (bd X) ((hw X).toNat - (1 : Nat)) ∧ (hw X).toNat - (1 : Nat) ≤ cap - (1 : Nat)) ∧ True) (.chk ((hw X).toNat - (1 : Nat) ≤ (1000000000 : Nat) ∧ Bs (bd X)) (.chk (sym.XC w A [IntKind.u8] X ∧ (0 : Nat) < (1 : Nat) ∧ (2 : Nat) ≤ X.length) (LEAFX X n x_5)))))))))))))) (.chk (TC w A X n cap 1) (.all fun x_5 : Bool => (.br (x_5) (.chk (sym.XC w A [IntKind.u8] X ∧ (0 : Nat) < (1 : Nat) ∧ (2 : Nat) ≤ X.length) (.chk ((sym.XR w (sym.cutA A cap (3 : Nat) [IntKind.u8].length) [IntKind.u8] (sym.cutL X (3 : Nat) (hw X).toNat [IntKind.u8].length) ((hw X).toNat - (3 : Nat)) ∧ (hw X).toNat - (3 : Nat) ≤ cap - (3 : Nat)) ∧ True) (.chk ((hw X).toNat - (3 : Nat) ≤ (1000000000 : Nat)) (.all fun x_6 : RowR ((hw X).toNat - (3 : Nat)) => (.chk ((sym.XR w (sym.cutA A cap (1 : Nat) [IntKind.u8].length) [IntKind.u8] (bd X) ((hw X).toNat - (1 : Nat)) ∧ (hw X).toNat - (1 : Nat) ≤ cap - (1 : Nat)) ∧ True) (.chk ((hw X).toNat - (1 : Nat) ≤ (1000000000 : Nat) ∧ Bs (bd X)) (LEAFX X n x_6))))))) (.chk ((sym.XR w (sym.cutA A cap (3 : Nat) [IntKind.u8].length) [IntKind.u8] (sym.cutL X (3 : Nat) (hw X).toNat [IntKind.u8].length) ((hw X).toNat - (3 : Nat)) ∧ (hw X).toNat - (3 : Nat) ≤ cap - (3 : Nat)) ∧ True) (.chk ((hw X).toNat - (3 : Nat) ≤ (1000000000 : Nat)) (.all fun x_6 : RowR ((hw X).toNat - (3 : Nat)) => (.all fun x_7 : Bool => (.br (x_7) (.chk (sym.XC w A [IntKind.u8] X ∧ (0 : Nat) < (1 : Nat) ∧ (2 : Nat) ≤ X.length) (.chk ((sym.XR w (sym.cutA A cap (1 : Nat) [IntKind.u8].length) [IntKind.u8] (bd X) ((hw X).toNat - (1 : Nat)) ∧ (hw X).toNat - (1 : Nat) ≤ cap - (1 : Nat)) ∧ True) (.chk ((hw X).toNat - (1 : Nat) ≤ (1000000000 : Nat) ∧ Bs (bd X)) (LEAFX X n x_6)))) (.chk ((sym.XR w (sym.cutA A cap (1 : Nat) [IntKind.u8].length) [IntKind.u8] (bd X) ((hw X).toNat - (1 : Nat)) ∧ (hw X).toNat - (1 : Nat) ≤ cap - (1 : Nat)) ∧ True) (.chk ((hw X).toNat - (1 : Nat) ≤ (1000000000 : Nat) ∧ Bs (bd X)) (.chk (sym.XC w A [IntKind.u8] X ∧ (0 : Nat) < (1 : Nat) ∧ (2 : Nat) ≤ X.length) (LEAFX X n x_6)))))))))))))))))))))))))))))))))) := by kernel_rfl
theorem at_tree (w : World) (A : Option Addr) (X : List Int) (n cap : Nat) (i : Nat) :
    callT Try.prog w (flatT Try.prog) (noCtr) (preOf w tab1) (noLoop) 20 25 [.v (.one (.xr A [.u8] X n cap)), .v (.one (.int false .i64 (i : Int)))] [] =
(.chk (sym.XR w A [IntKind.u8] X n ∧
  (0 : Int) ≤ (↑i : Int) ∧ (↑i : Int) < (↑n : Int) ∧ (0 : Nat) < [IntKind.u8].length)
(.chk (sym.XC w A [IntKind.u8] X ∧
  (0 : Nat) < (1 : Nat) ∧ (↑i : Int).toNat * [IntKind.u8].length + (1 : Nat) ≤ X.length)
(.br (X.getD ((↑i : Int).toNat * [IntKind.u8].length + (0 : Nat)) (0 : Int) != (165 : Int))
 (.leaf ((.v (.one (.int true .i64 (0)))), []))
 (.br (decide (IntKind.i64.wrap ((↑i : Int) + (2 : Int)) ≥ (↑n : Int)))
  (.leaf ((.v (.one (.int true .i64 (2)))), []))
  (.chk (sym.XR w A [IntKind.u8] X n ∧
  (0 : Int) ≤ IntKind.i64.wrap ((↑i : Int) + (2 : Int)) ∧
    IntKind.i64.wrap ((↑i : Int) + (2 : Int)) < (↑n : Int) ∧ (0 : Nat) < [IntKind.u8].length)
  (.chk (sym.XC w A [IntKind.u8] X ∧
  (0 : Nat) < (1 : Nat) ∧
    (IntKind.i64.wrap ((↑i : Int) + (2 : Int))).toNat * [IntKind.u8].length + (1 : Nat) ≤ X.length)
  (.br (decide
  (IntKind.i64.wrap
      (X.getD ((IntKind.i64.wrap ((↑i : Int) + (2 : Int))).toNat * [IntKind.u8].length + (0 : Nat)) (0 : Int)) >
    (64 : Int)))
   (.leaf ((.v (.one (.int true .i64 (0)))), []))
   (.br (decide
  (IntKind.i64.wrap
      (IntKind.i64.wrap ((↑i : Int) + (5 : Int)) +
        IntKind.i64.wrap
          (X.getD ((IntKind.i64.wrap ((↑i : Int) + (2 : Int))).toNat * [IntKind.u8].length + (0 : Nat))
            (0 : Int))) >
    (↑n : Int)))
    (.leaf ((.v (.one (.int true .i64 (2)))), []))
    (.chk ((0 : Int) ≤ IntKind.i64.wrap ((↑i : Int) + (1 : Int)) ∧
  IntKind.i64.wrap ((↑i : Int) + (1 : Int)) ≤
      IntKind.i64.wrap
        (IntKind.i64.wrap ((↑i : Int) + (3 : Int)) +
          IntKind.i64.wrap
            (X.getD ((IntKind.i64.wrap ((↑i : Int) + (2 : Int))).toNat * [IntKind.u8].length + (0 : Nat))
              (0 : Int))) ∧
    IntKind.i64.wrap
          (IntKind.i64.wrap ((↑i : Int) + (3 : Int)) +
            IntKind.i64.wrap
              (X.getD ((IntKind.i64.wrap ((↑i : Int) + (2 : Int))).toNat * [IntKind.u8].length + (0 : Nat))
                (0 : Int))) ≤
        (↑n : Int) ∧
      n ≤ cap)
    (.chk ((sym.XR w
      (sym.cutA A cap (IntKind.i64.wrap ((↑i : Int) + (1 : Int))).toNat
        [IntKind.u8].length)
      [IntKind.u8]
      (sym.cutL X (IntKind.i64.wrap ((↑i : Int) + (1 : Int))).toNat
        (IntKind.i64.wrap
            (IntKind.i64.wrap ((↑i : Int) + (3 : Int)) +
              IntKind.i64.wrap
                (X.getD ((IntKind.i64.wrap ((↑i : Int) + (2 : Int))).toNat * [IntKind.u8].length + (0 : Nat))
                  (0 : Int)))).toNat
        [IntKind.u8].length)
      ((IntKind.i64.wrap
            (IntKind.i64.wrap ((↑i : Int) + (3 : Int)) +
              IntKind.i64.wrap
                (X.getD ((IntKind.i64.wrap ((↑i : Int) + (2 : Int))).toNat * [IntKind.u8].length + (0 : Nat))
                  (0 : Int)))).toNat -
        (IntKind.i64.wrap ((↑i : Int) + (1 : Int))).toNat) ∧
    (IntKind.i64.wrap
            (IntKind.i64.wrap ((↑i : Int) + (3 : Int)) +
              IntKind.i64.wrap
                (X.getD ((IntKind.i64.wrap ((↑i : Int) + (2 : Int))).toNat * [IntKind.u8].length + (0 : Nat))
                  (0 : Int)))).toNat -
        (IntKind.i64.wrap ((↑i : Int) + (1 : Int))).toNat ≤
      cap - (IntKind.i64.wrap ((↑i : Int) + (1 : Int))).toNat) ∧
  True)
    (.chk ((IntKind.i64.wrap
          (IntKind.i64.wrap ((↑i : Int) + (3 : Int)) +
            IntKind.i64.wrap
              (X.getD ((IntKind.i64.wrap ((↑i : Int) + (2 : Int))).toNat * [IntKind.u8].length + (0 : Nat))
                (0 : Int)))).toNat -
      (IntKind.i64.wrap ((↑i : Int) + (1 : Int))).toNat ≤
    (1000000000 : Nat) ∧
  Bs
    (sym.cutL X (IntKind.i64.wrap ((↑i : Int) + (1 : Int))).toNat
      (IntKind.i64.wrap
          (IntKind.i64.wrap ((↑i : Int) + (3 : Int)) +
            IntKind.i64.wrap
              (X.getD ((IntKind.i64.wrap ((↑i : Int) + (2 : Int))).toNat * [IntKind.u8].length + (0 : Nat))
                (0 : Int)))).toNat
      [IntKind.u8].length))
    (.chk (sym.XR w A [IntKind.u8] X n ∧
  (0 : Int) ≤
      IntKind.i64.wrap
        (IntKind.i64.wrap ((↑i : Int) + (3 : Int)) +
          IntKind.i64.wrap
            (X.getD ((IntKind.i64.wrap ((↑i : Int) + (2 : Int))).toNat * [IntKind.u8].length + (0 : Nat))
              (0 : Int))) ∧
    IntKind.i64.wrap
          (IntKind.i64.wrap ((↑i : Int) + (3 : Int)) +
            IntKind.i64.wrap
              (X.getD ((IntKind.i64.wrap ((↑i : Int) + (2 : Int))).toNat * [IntKind.u8].length + (0 : Nat))
                (0 : Int))) <
        (↑n : Int) ∧
      (0 : Nat) < [IntKind.u8].length)
    (.chk (sym.XC w A [IntKind.u8] X ∧
  (0 : Nat) < (1 : Nat) ∧
    (IntKind.i64.wrap
              (IntKind.i64.wrap ((↑i : Int) + (3 : Int)) +
                IntKind.i64.wrap
                  (X.getD ((IntKind.i64.wrap ((↑i : Int) + (2 : Int))).toNat * [IntKind.u8].length + (0 : Nat))
                    (0 : Int)))).toNat *
          [IntKind.u8].length +
        (1 : Nat) ≤
      X.length)
    (.chk (sym.XR w A [IntKind.u8] X n ∧
  (0 : Int) ≤
      IntKind.i64.wrap
        (IntKind.i64.wrap ((↑i : Int) + (4 : Int)) +
          IntKind.i64.wrap
            (X.getD ((IntKind.i64.wrap ((↑i : Int) + (2 : Int))).toNat * [IntKind.u8].length + (0 : Nat))
              (0 : Int))) ∧
    IntKind.i64.wrap
          (IntKind.i64.wrap ((↑i : Int) + (4 : Int)) +
            IntKind.i64.wrap
              (X.getD ((IntKind.i64.wrap ((↑i : Int) + (2 : Int))).toNat * [IntKind.u8].length + (0 : Nat))
                (0 : Int))) <
        (↑n : Int) ∧
      (0 : Nat) < [IntKind.u8].length)
    (.chk (sym.XC w A [IntKind.u8] X ∧
  (0 : Nat) < (1 : Nat) ∧
    (IntKind.i64.wrap
              (IntKind.i64.wrap ((↑i : Int) + (4 : Int)) +
                IntKind.i64.wrap
                  (X.getD ((IntKind.i64.wrap ((↑i : Int) + (2 : Int))).toNat * [IntKind.u8].length + (0 : Nat))
                    (0 : Int)))).toNat *
          [IntKind.u8].length +
        (1 : Nat) ≤
      X.length)
    (.br (IntKind.i64.wrap
    (IntKind.i64.wrap
        (IntKind.i64.wrap
            (X.getD
              ((IntKind.i64.wrap
                      (IntKind.i64.wrap ((↑i : Int) + (3 : Int)) +
                        IntKind.i64.wrap
                          (X.getD
                            ((IntKind.i64.wrap ((↑i : Int) + (2 : Int))).toNat * [IntKind.u8].length + (0 : Nat))
                            (0 : Int)))).toNat *
                  [IntKind.u8].length +
                (0 : Nat))
              (0 : Int)) *
          (256 : Int)) +
      IntKind.i64.wrap
        (X.getD
          ((IntKind.i64.wrap
                  (IntKind.i64.wrap ((↑i : Int) + (4 : Int)) +
                    IntKind.i64.wrap
                      (X.getD
                        ((IntKind.i64.wrap ((↑i : Int) + (2 : Int))).toNat * [IntKind.u8].length + (0 : Nat))
                        (0 : Int)))).toNat *
              [IntKind.u8].length +
            (0 : Nat))
          (0 : Int))) !=
  IntKind.i64.wrap
    (crcL
      (sym.cutL X (IntKind.i64.wrap ((↑i : Int) + (1 : Int))).toNat
        (IntKind.i64.wrap
            (IntKind.i64.wrap ((↑i : Int) + (3 : Int)) +
              IntKind.i64.wrap
                (X.getD ((IntKind.i64.wrap ((↑i : Int) + (2 : Int))).toNat * [IntKind.u8].length + (0 : Nat))
                  (0 : Int)))).toNat
        [IntKind.u8].length)))
     (.leaf ((.v (.one (.int true .i64 (0)))), []))
     (.leaf ((.v (.one (.int true .i64 (1)))), [])))))))))))))))))) := by kernel_rfl
theorem getD_drop (X : List Int) (k j : Nat) : (X.drop k).getD j 0 = X.getD (k + j) 0 := by
  rw [List.getD_eq_getElem?_getD, List.getD_eq_getElem?_getD, List.getElem?_drop]
theorem or16 {a b : Int} (ha : B a) (hb : B b) : bits .or .u16 (IntKind.u16.wrap (IntKind.u16.wrap a * (2 : Int) ^ (8 : Nat))) (IntKind.u16.wrap b) = a * 256 + b := by
  obtain ⟨a0, a1⟩ := ha
  obtain ⟨b0, b1⟩ := hb
  have e2 : (2 : Int) ^ (8 : Nat) = 256 := rfl
  rw [e2, wu16 a, wu16 b, wu16 (a % 65536 * 256), show a % 65536 * 256 % 65536 = 256 * a by omega, show b % 65536 = b by omega]
  rw [bits_join .u16 16 (by decide) (fun n h0 h1 => by rw [wu16]; have h1 : n < 65536 := h1; omega) 8 (256 * a) b (by omega) (by show 256 * a % 256 = 0; omega) (by show 256 * a < 65536; omega) b0 (by show b < 256; omega) (by show b < 65536; omega)]
  omega
theorem whN_B {X : List Int} (h : Bs X) : (X.getD 2 0 : Int) = (whN X : Int) ∧ whN X < 256 := by
  have := h 2
  unfold whN
  omega
theorem aggOut {args : List AV} {h' : List Blk} {l l' : List Sc} {r sz : Nat} {nl : Bool} {e : TypeId} {ks : List IntKind} {xs xs' : List Int} {len len' cap : Nat} (hp : ∀ bs, l'.map (Sc.γ bs) = l.map (Sc.γ [])) (hr : h'[r]? = some ⟨[.row nl ks xs' cap], e⟩) (h0 : nl = true → len' = 0 ∧ cap = 0) (ex : xs = xs') (el : len = len') : OutIs args h' (.row (some l) nl e ks xs len cap) (.agg (l' ++ [.gs r nl sz 0 len' cap])) := by
  subst ex el
  exact .agg hp hr h0
set_option maxHeartbeats 1000000 in
theorem atC_ok (w0 : World) : atC.Ok Try.prog w0 := by
  refine rctr_ok base2 ⟨_, Try.func25, rfl⟩ (ctr := fun w => noCtr) w0 (fun w _ => ctrs_none _ w) (pre := fun w => preOf w tab1) (fun w _ => preOf_ok (tab1_ok w)) (n := 20) fun w hw0 cas args t h ha K hK => ?_
  unfold atC at h
  simp only at h
  split at h
  · cases h
    obtain ⟨y0, y1, rfl, q0, q1⟩ := all2_2 ha
    obtain ⟨a, c, rfl, hX, hc⟩ := argRow q0
    obtain ⟨rfl, o1⟩ := argAv q1
    rename_i n xs lit i
    obtain ⟨⟨big, hB, i0, i1⟩, hK⟩ := hK
    refine ⟨noLoop, loops_none _ _, ?_⟩
    rw [show atC.f = 25 from rfl]
    obtain ⟨i, rfl⟩ := Int.eq_ofNat_of_zero_le i0
    simp only [AV.norm, Sc.norm, Int.toNat_natCast] at hK ⊢
    rw [at_tree]
    have hn : xs.length = n := by simpa using hX.1
    have hBd : Bs (xs.drop i) := hB.drop i
    obtain ⟨e2, l2⟩ := whN_B hBd
    rw [getD_drop] at e2
    have fin : ∀ k : Nat, atL (xs.drop i) = k → ∃ rs ys, K rs ∧ AV.v (.one (.int true .i64 (k : Int))) = packA ys ∧ All2 (OutIs [.v (.one (.xr a [.u8] xs n c)), .v (.one (.int false .i64 (i : Int)))] []) rs ys := fun k hk => ⟨_, [_], hK, rfl, .cons (.av rfl fun _ => by rw [hk]; rfl) .nil⟩
    have w2 : IntKind.i64.wrap ((i : Int) + 2) = ((i + 2 : Nat) : Int) := by rw [wi64 _ (by omega) (by omega)]; omega
    have w1 : IntKind.i64.wrap ((i : Int) + 1) = ((i + 1 : Nat) : Int) := by rw [wi64 _ (by omega) (by omega)]; omega
    have w3 : IntKind.i64.wrap ((i : Int) + 3) = ((i + 3 : Nat) : Int) := by rw [wi64 _ (by omega) (by omega)]; omega
    have w4 : IntKind.i64.wrap ((i : Int) + 4) = ((i + 4 : Nat) : Int) := by rw [wi64 _ (by omega) (by omega)]; omega
    have w5 : IntKind.i64.wrap ((i : Int) + 5) = ((i + 5 : Nat) : Int) := by rw [wi64 _ (by omega) (by omega)]; omega
    simp only [w1, w2, w3, w4, w5, Int.toNat_natCast, List.length_singleton, Nat.mul_one, Nat.add_zero]
    generalize hN : whN (xs.drop i) = N at *
    have wN : IntKind.i64.wrap (N : Int) = (N : Int) := wi64 _ (by omega) (by omega)
    have a3 : IntKind.i64.wrap (((i + 3 : Nat) : Int) + (N : Int)) = ((i + 3 + N : Nat) : Int) := by rw [wi64 _ (by omega) (by omega)]; omega
    have a4 : IntKind.i64.wrap (((i + 4 : Nat) : Int) + (N : Int)) = ((i + 4 + N : Nat) : Int) := by rw [wi64 _ (by omega) (by omega)]; omega
    have a5 : IntKind.i64.wrap (((i + 5 : Nat) : Int) + (N : Int)) = ((i + 5 + N : Nat) : Int) := by rw [wi64 _ (by omega) (by omega)]; omega
    simp only [e2, wN, a3, a4, a5, Int.toNat_natCast]
    have hlen : (xs.drop i).length = n - i := by simp; omega
    have h0 : (xs.drop i).getD 0 0 = xs.getD i 0 := by rw [getD_drop, Nat.add_zero]
    refine ⟨⟨hX, by omega, by omega, by decide⟩, ⟨hX.2, by decide, by omega⟩, fun h1 => fin 0 ?_, fun h1 => ⟨fun h2 => fin 2 ?_, fun h2 => ?_⟩⟩
    · unfold atL
      rw [h0, if_neg (by simpa using h1)]
    · have h2 := of_decide_eq_true h2
      unfold atL whL
      rw [h0, if_pos (by simpa using h1), hlen, if_pos (by omega)]
    · have h2 := of_decide_eq_false h2
      have h1 : xs.getD i 0 = 165 := by simpa using h1
      refine ⟨⟨hX, by omega, by omega, by decide⟩, ⟨hX.2, by decide, by omega⟩, fun h3 => fin 0 ?_, fun h3 => ⟨fun h4 => fin 2 ?_, fun h4 => ?_⟩⟩
      · have h3 := of_decide_eq_true h3
        unfold atL whL
        rw [h0, if_pos h1, hlen, if_neg (by omega), hN, if_pos (by omega)]
      · have h3 := of_decide_eq_false h3
        have h4 := of_decide_eq_true h4
        unfold atL whL
        rw [h0, if_pos h1, hlen, if_neg (by omega), hN, if_neg (by omega), if_pos (by omega)]
      · have h3 := of_decide_eq_false h3
        have h4 := of_decide_eq_false h4
        have hcut := xr_cut (l := i + 1) (h := i + 3 + N) hX hc (by omega) (by omega)
        have hcl : sym.cutL xs (i + 1) (i + 3 + N) 1 = ((xs.drop i).drop 1).take (N + 2) := by
          rw [cut1, List.drop_drop, show i + 3 + N - (i + 1) = N + 2 by omega]
        have hat : atL (xs.drop i) = if okF (xs.drop i) = true then 1 else 0 := by
          unfold atL whL
          rw [h0, if_pos h1, hlen, if_neg (by omega), hN, if_neg (by omega), if_neg (by omega)]
        have hok : okF (xs.drop i) = (crcL (sym.cutL xs (i + 1) (i + 3 + N) 1) == xs.getD (i + 3 + N) 0 * 256 + xs.getD (i + 4 + N) 0) := by
          unfold okF
          rw [hcl, hN, getD_drop, getD_drop, show i + (N + 3) = i + 3 + N by omega, show i + (N + 4) = i + 4 + N by omega]
        have g1 := hB (i + 3 + N)
        have g2 := hB (i + 4 + N)
        have gc := crcL_W (sym.cutL xs (i + 1) (i + 3 + N) 1)
        obtain ⟨g1a, g1b⟩ := g1
        obtain ⟨g2a, g2b⟩ := g2
        obtain ⟨gca, gcb⟩ := gc
        generalize hCr : crcL (sym.cutL xs (i + 1) (i + 3 + N) 1) = CR at *
        generalize hHi : xs.getD (i + 3 + N) 0 = HI at *
        generalize hLo : xs.getD (i + 4 + N) 0 = LO at *
        have q1 : IntKind.i64.wrap HI = HI := wi64 _ (by omega) (by omega)
        have q2 : IntKind.i64.wrap LO = LO := wi64 _ (by omega) (by omega)
        have q3 : IntKind.i64.wrap (HI * 256) = HI * 256 := wi64 _ (by omega) (by omega)
        have q4 : IntKind.i64.wrap (HI * 256 + LO) = HI * 256 + LO := wi64 _ (by omega) (by omega)
        have q5 : IntKind.i64.wrap CR = CR := wi64 _ (by omega) (by omega)
        rw [q1, q2, q3, q4, q5]
        refine ⟨⟨by omega, by omega, by omega, hc⟩, ⟨⟨hcut, by omega⟩, trivial⟩, ⟨by omega, (hB.drop _).take _⟩, ⟨hX, by omega, by omega, by decide⟩, ⟨hX.2, by decide, by omega⟩, ⟨hX, by omega, by omega, by decide⟩, ⟨hX.2, by decide, by omega⟩, fun h5 => fin 0 ?_, fun h5 => fin 1 ?_⟩
        · rw [hat, hok, if_neg]
          intro e
          have e := eq_of_beq e
          rw [e] at h5
          simp at h5
        · rw [hat, hok, if_pos]
          have h5 : HI * 256 + LO = CR := by simpa using h5
          rw [h5]
          simp
  · cases h
set_option maxHeartbeats 1000000 in
theorem wholeC_ok (w0 : World) : wholeC.Ok Try.prog w0 := by
  refine rctr_ok base2 ⟨_, Try.func23, rfl⟩ (ctr := fun w => noCtr) w0 (fun w _ => ctrs_none _ w) (pre := fun w => preOf w tab1) (fun w _ => preOf_ok (tab1_ok w)) (n := 20) fun w hw0 cas args t h ha K hK => ?_
  unfold wholeC at h
  simp only at h
  split at h
  · cases h
    obtain ⟨y0, rfl, q0⟩ := all2_1 ha
    obtain ⟨a, c, rfl, hX, hc⟩ := argRow q0
    rename_i n xs
    obtain ⟨⟨big, hB⟩, hK⟩ := hK
    refine ⟨lpOf Try.prog [mixLp 23 8, mixLp 23 9], lps_ok fun l hl => ?_, ?_⟩
    · simp only [List.mem_cons, List.not_mem_nil, or_false] at hl
      rcases hl with rfl | rfl <;> exact mixLp_ok _ _ _ _
    rw [show wholeC.f = 23 from rfl, whole_tree]
    have hn : xs.length = n := by simpa using hX.1
    obtain ⟨e2, l2⟩ := whN_B hB
    generalize hN : whN xs = N at *
    have wN : IntKind.i64.wrap (N : Int) = (N : Int) := wi64 _ (by omega) (by omega)
    have hhw : hw xs = ((N + 3 : Nat) : Int) := by
      unfold hw
      rw [e2, wN, wi64 _ (by omega) (by omega)]
      omega
    have w5 : IntKind.i64.wrap (((N + 3 : Nat) : Int) + 2) = ((N + 5 : Nat) : Int) := by rw [wi64 _ (by omega) (by omega)]; omega
    have bad : ∀ b : Bool, (n < 3 ∨ 64 < N ∨ n < N + 5) → b = decide (whL xs ≠ 2) → ∃ rs ys, K rs ∧ AV.tuple [.agg [.int true .u8 0, .nos], .one (.bool true false), .one (.bool true b)] = packA ys ∧ All2 (OutIs [.v (.one (.xr a [.u8] xs n c))] [⟨[.int true .u8 0, .nos], 29⟩]) rs ys := fun b h hb =>
      ⟨_, [_, _, _], hK.1 (by simpa using h), rfl, .cons (.aggNil (l' := [.int true .u8 0]) fun _ => rfl) (.cons (.av rfl fun _ => rfl) (.cons (.av rfl fun _ => by rw [← hb]; rfl) .nil))⟩
    have t1 : (tl xs n) = xs.drop (N + 3) := by
      unfold tl
      rw [hhw, Int.toNat_natCast, ← hn]
      exact cut_all xs (N + 3)
    have t2 : (bd xs) = (xs.drop 1).take (N + 2) := by
      unfold bd
      rw [hhw, Int.toNat_natCast]
      exact cut1 xs 1 (N + 3)
    have good : n ≥ 3 → N ≤ 64 → N + 5 ≤ n → ∀ g : RowR ((hw xs).toNat - 3), (LEAFX xs n g).holds fun r => ∃ rs ys, K rs ∧ r.1 = packA ys ∧ All2 (OutIs [.v (.one (.xr a [.u8] xs n c))] r.2) rs ys := by
      intro h1 h2 h3 g
      have hg : (hw xs).toNat - 3 = N := by rw [hhw]; omega
      have hleft := hK.2 (by simp; omega) ⟨g.nl, g.cap, fun h => by have := g.nil h; omega, by have := g.le; omega, g.max⟩
      refine ⟨_, [_, _, _], hleft, rfl, .cons ?_ (.cons (.av rfl fun _ => ?_) (.cons (.av rfl fun _ => rfl) .nil))⟩
      · have hbody : (xs.drop 3).take N = sym.cutL xs 3 (hw xs).toNat [IntKind.u8].length := by
          rw [hhw, Int.toNat_natCast]
          show _ = sym.cutL xs 3 (N + 3) 1
          rw [cut1, show N + 3 - 3 = N by omega]
        exact aggOut (l' := [.int false .u8 (xs.getD 1 0)]) (r := 1) (fun _ => rfl) rfl (fun h => g.nil h) hbody hg.symm
      · show Value.bool _ = Value.bool _
        congr 1
        unfold okW okF
        rw [t1, t2, hN, getD_drop, getD_drop, or16 (hB _) (hB _)]
    simp only [hhw, w5]
    have d3 : (xs.getD 2 0 : Int) = N := e2
    have hcutA := xr_cut (l := N + 3) (h := n) hX hc
    have hcutB := xr_cut (l := 3) (h := N + 3) hX hc
    have hcutC := xr_cut (l := 1) (h := N + 3) hX hc
    refine ⟨fun h1 => bad false (.inl (by have := of_decide_eq_true h1; omega)) ?_, fun h1 => ?_⟩
    · have h1 := of_decide_eq_true h1
      have : whL xs = 2 := by unfold whL; rw [if_pos (by omega)]
      rw [this]; rfl
    have h1 := of_decide_eq_false h1
    refine ⟨⟨hX, by omega, by omega, by decide⟩, ⟨hX.2, by decide, by omega⟩, fun h2 => bad true (.inr (.inl ?_)) ?_, fun h2 => ?_⟩
    · have h2 := of_decide_eq_true h2
      rw [e2, wN] at h2
      omega
    · have h2 := of_decide_eq_true h2
      rw [e2, wN] at h2
      have : whL xs = 0 := by unfold whL; rw [if_neg (by omega), hN, if_pos (by omega)]
      rw [this]; rfl
    have h2 := of_decide_eq_false h2
    rw [e2, wN] at h2
    refine ⟨fun h3 => bad false (.inr (.inr ?_)) ?_, fun h3 => ?_⟩
    · have h3 := of_decide_eq_true h3
      omega
    · have h3 := of_decide_eq_true h3
      have : whL xs = 2 := by unfold whL; rw [if_neg (by omega), hN, if_neg (by omega), if_pos (by omega)]
      rw [this]; rfl
    have h3 := of_decide_eq_false h3
    have good := good (by omega) (by omega) (by omega)
    have c0 : sym.XR w (tlA a c xs) [.u8] (tl xs n) (n - (N + 3)) := by
      unfold tlA tl
      rw [hhw, Int.toNat_natCast]
      exact hcutA (by omega) (Nat.le_refl _)
    have cl : (tl xs n).length = n - (N + 3) := by rw [t1, List.length_drop]; omega
    have T1 : TC w a xs n c 1 := ⟨c0.2, by decide, by omega⟩
    have T2 : TC w a xs n c 2 := ⟨c0.2, by decide, by omega⟩
    have B1 := hcutB (by omega) (by omega)
    have C1 : sym.XR w (sym.cutA a c 1 [IntKind.u8].length) [.u8] (bd xs) (N + 3 - 1) := by
      have := hcutC (by omega) (by omega)
      unfold bd
      rw [hhw, Int.toNat_natCast]
      exact this
    have X2 : sym.XC w a [.u8] xs ∧ 0 < 1 ∧ 2 ≤ xs.length := ⟨hX.2, by decide, by omega⟩
    have hBb : Bs (bd xs) := by rw [t2]; exact (hB.drop 1).take _
    simp only [Int.toNat_natCast]
    refine ⟨⟨by omega, by omega, by omega, hc⟩, ⟨by omega, by omega, by omega, hc⟩, ⟨hX, by omega, by omega, by decide⟩, ⟨by omega, by omega, by omega, hc⟩, ⟨c0, by omega, by omega, by decide⟩, ⟨c0, by omega, by omega, by decide⟩, ?_⟩
    have p1 : ((sym.XR w (sym.cutA a c 3 [IntKind.u8].length) [.u8] (sym.cutL xs 3 (N + 3) [IntKind.u8].length) (N + 3 - 3) ∧ N + 3 - 3 ≤ c - 3) ∧ True) := ⟨⟨B1, by omega⟩, trivial⟩
    have p2 : N + 3 - 3 ≤ 1000000000 := by omega
    have p3 : ((sym.XR w (sym.cutA a c 1 [IntKind.u8].length) [.u8] (bd xs) (N + 3 - 1) ∧ N + 3 - 1 ≤ c - 1) ∧ True) := ⟨⟨C1, by omega⟩, trivial⟩
    have p4 : N + 3 - 1 ≤ 1000000000 ∧ Bs (bd xs) := ⟨by omega, hBb⟩
    repeat' (first | exact good _ | exact T1 | exact T2 | exact X2 | exact p1 | exact p2 | exact p3 | exact p4 | (intro _) | (refine And.intro ?_ ?_))
  · cases h
end Go.Proofs.Ytmenafkmkcodlaa
