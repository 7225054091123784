/-
  Contracts of the bytes of a set of registers, and of a set of bytes. Bytes are below 256, words below 65536; at most 1000000000 bytes; no other condition.
-/
import Derived.Test.YtmpkhjimemdhhaaR1
namespace Go.Proofs.Ytmpkhjimemdhhaa
open Go.RowKit sym
set_option linter.unusedVariables false
set_option linter.unusedSimpArgs false
set_option maxRecDepth 100000
def Bs2 (xs : List Int) : Prop := Bs xs ∧ 2 ≤ xs.length
def wordC (w0 : World) : Ctr := ⟨26, fun | [.v (.one (.xr a [.u8] xs n cap))] => some (.chk (XR w0 a [.u8] xs n ∧ Bs2 xs) (.leaf (.v (.one (.int false .u16 (xs.getD 1 0 * 256 + xs.getD 0 0)))))) | _ => none⟩
def WordC : Ctr := ⟨27, fun | [.v (.one (.int _ .u8 h)), .v (.one (.int _ .u8 l))] => some (.chk (B h ∧ B l) (.leaf (.v (.one (.int false .u16 (h * 256 + l)))))) | _ => none⟩
def tab (w0 : World) : List Ctr := [wordC w0, WordC]
theorem or_word {h l : Int} (hh : B h) (hl : B l) : bits .or .u16 (IntKind.u16.wrap l) (IntKind.u16.wrap (IntKind.u16.wrap h * 2 ^ 8)) = h * 256 + l := by
  obtain ⟨n, rfl⟩ := Int.eq_ofNat_of_zero_le hh.1
  obtain ⟨m, rfl⟩ := Int.eq_ofNat_of_zero_le hl.1
  have h1 := hh.2
  have h2 := hl.2
  have e1 : IntKind.u16.wrap (m : Int) = (m : Int) := by rw [wu16]; omega
  have e2 : IntKind.u16.wrap (IntKind.u16.wrap (n : Int) * 2 ^ 8) = ((2 ^ 8 * n : Nat) : Int) := by rw [wu16, wu16]; omega
  rw [e1, e2, u16_or_nat m (2 ^ 8 * n) (by omega) (by omega), Nat.or_comm, ← Nat.two_pow_add_eq_or_of_lt (show m < 2 ^ 8 by omega) n]
  omega
theorem word_tree (w : World) (A : Option Addr) (X : List Int) (n cap : Nat) :
    callV Try.prog w (flatT Try.prog) (noCtr) (noPre) (noLoop) 20 26 [.v (.one (.xr A [.u8] X n cap))] =
(.chk (sym.XR w A [IntKind.u8] X n ∧
  (0 : Int) ≤ (0 : Int) ∧ (0 : Int) < (↑n : Int) ∧ (0 : Nat) < [IntKind.u8].length)
(.chk (sym.XC w A [IntKind.u8] X ∧ (0 : Nat) < (1 : Nat) ∧ (1 : Nat) ≤ X.length)
(.chk (sym.XR w A [IntKind.u8] X n ∧
  (0 : Int) ≤ (1 : Int) ∧ (1 : Int) < (↑n : Int) ∧ (0 : Nat) < [IntKind.u8].length)
(.chk (sym.XC w A [IntKind.u8] X ∧ (0 : Nat) < (1 : Nat) ∧ (2 : Nat) ≤ X.length)
(.leaf (.v (.one (.int false .u16 (bits BinOp.or IntKind.u16 (IntKind.u16.wrap (X.getD (0 : Nat) (0 : Int)))
  (IntKind.u16.wrap (IntKind.u16.wrap (X.getD (1 : Nat) (0 : Int)) * (2 : Int) ^ (8 : Nat)))))))))))) := by kernel_rfl
theorem Word_tree (w : World) (h l : Int) :
    callV Try.prog w (flatT Try.prog) (noCtr) (noPre) (noLoop) 20 27 [.v (.one (.int false .u8 h)), .v (.one (.int false .u8 l))] =
(.leaf (.v (.one (.int false .u16 (IntKind.u16.wrap
  (IntKind.i64.wrap (IntKind.i64.wrap (IntKind.i64.wrap h * (256 : Int)) + IntKind.i64.wrap l))))))) := by kernel_rfl
theorem enc_tree (w : World) (a f b c d e h l sp pc : Int) :
    callT Try.prog w (flatT Try.prog) (noCtr) (noPre) (noLoop) 20 13 [.v (.agg [.int false .u8 a, .int false .u8 f, .int false .u8 b, .int false .u8 c, .int false .u8 d, .int false .u8 e, .int false .u8 h, .int false .u8 l, .int false .u16 sp, .int false .u16 pc])] [] =
(.leaf ((.v (.one (.os 1 0 12 12))), [⟨[(.int false .u8 (a)), (.int false .u8 (f)), (.int false .u8 (b)), (.int false .u8 (c)), (.int false .u8 (d)), (.int false .u8 (e)), (.int false .u8 (h)), (.int false .u8 (l)), (.int false .u16 (sp)), (.int false .u16 (pc))], 25⟩, ⟨[(.int false .u8 (a)), (.int false .u8 (bits BinOp.and IntKind.u8 f (240 : Int))), (.int false .u8 (b)), (.int false .u8 (c)), (.int false .u8 (d)), (.int false .u8 (e)), (.int false .u8 (h)), (.int false .u8 (l)), (.int false .u8 (IntKind.u8.wrap sp)), (.int false .u8 (IntKind.u8.wrap (sp.fdiv ((2 : Int) ^ (8 : Nat))))), (.int false .u8 (IntKind.u8.wrap pc)), (.int false .u8 (IntKind.u8.wrap (pc.fdiv ((2 : Int) ^ (8 : Nat)))))], 5⟩])) := by kernel_rfl
theorem renc_tree (w : World) (a f b c d e h l sp pc : Int) :
    callT Try.prog w (flatT Try.prog) (noCtr) (noPre) (noLoop) 20 17 [.v (.agg [.int false .u8 a, .int false .u8 f, .int false .u8 b, .int false .u8 c, .int false .u8 d, .int false .u8 e, .int false .u8 h, .int false .u8 l, .int false .u16 sp, .int false .u16 pc])] [] =
(.leaf ((.v (.one (.os 1 0 12 12))), [⟨[(.int false .u8 (a)), (.int false .u8 (f)), (.int false .u8 (b)), (.int false .u8 (c)), (.int false .u8 (d)), (.int false .u8 (e)), (.int false .u8 (h)), (.int false .u8 (l)), (.int false .u16 (sp)), (.int false .u16 (pc))], 28⟩, ⟨[(.int false .u8 (a)), (.int false .u8 (IntKind.u8.wrap (IntKind.u8.wrap (f.tdiv (16 : Int)) * (16 : Int)))), (.int false .u8 (b)), (.int false .u8 (c)), (.int false .u8 (d)), (.int false .u8 (e)), (.int false .u8 (h)), (.int false .u8 (l)), (.int false .u8 (IntKind.u8.wrap (sp.tmod (256 : Int)))), (.int false .u8 (IntKind.u8.wrap (IntKind.u16.wrap (sp.tdiv (256 : Int))))), (.int false .u8 (IntKind.u8.wrap (pc.tmod (256 : Int)))), (.int false .u8 (IntKind.u8.wrap (IntKind.u16.wrap (pc.tdiv (256 : Int)))))], 5⟩])) := by kernel_rfl
theorem dec_tree (w : World) (A : Option Addr) (X : List Int) (n cap : Nat) :
    callT Try.prog w (flatT Try.prog) (ctrOf (tab w)) (noPre) (noLoop) 20 14 [.v (.one (.xr A [.u8] X n cap))] [] =
(.br ((↑n : Int) != (12 : Int))
 (.leaf ((.tuple [(.agg [(.int true .u8 (0)), (.int true .u8 (0)), (.int true .u8 (0)), (.int true .u8 (0)), (.int true .u8 (0)), (.int true .u8 (0)), (.int true .u8 (0)), (.int true .u8 (0)), (.int true .u16 (0)), (.int true .u16 (0))]), (.one (.int true .i64 (6)))]), [⟨[(.int true .u8 (0)), (.int true .u8 (0)), (.int true .u8 (0)), (.int true .u8 (0)), (.int true .u8 (0)), (.int true .u8 (0)), (.int true .u8 (0)), (.int true .u8 (0)), (.int true .u16 (0)), (.int true .u16 (0))], 25⟩]))
 (.chk (sym.XR w A [IntKind.u8] X n ∧
  (0 : Int) ≤ (1 : Int) ∧ (1 : Int) < (↑n : Int) ∧ (0 : Nat) < [IntKind.u8].length)
 (.chk (sym.XC w A [IntKind.u8] X ∧ (0 : Nat) < (1 : Nat) ∧ (2 : Nat) ≤ X.length)
 (.br (bits BinOp.andNot ([IntKind.u8].getD (0 : Nat) IntKind.u8) (X.getD (1 : Nat) (0 : Int)) (240 : Int) !=
  (0 : Int))
  (.leaf ((.tuple [(.agg [(.int true .u8 (0)), (.int true .u8 (0)), (.int true .u8 (0)), (.int true .u8 (0)), (.int true .u8 (0)), (.int true .u8 (0)), (.int true .u8 (0)), (.int true .u8 (0)), (.int true .u16 (0)), (.int true .u16 (0))]), (.one (.int true .i64 (5)))]), [⟨[(.int true .u8 (0)), (.int true .u8 (0)), (.int true .u8 (0)), (.int true .u8 (0)), (.int true .u8 (0)), (.int true .u8 (0)), (.int true .u8 (0)), (.int true .u8 (0)), (.int true .u16 (0)), (.int true .u16 (0))], 25⟩]))
  (.chk (sym.XR w A [IntKind.u8] X n ∧
  (0 : Int) ≤ (0 : Int) ∧ (0 : Int) < (↑n : Int) ∧ (0 : Nat) < [IntKind.u8].length)
  (.chk (sym.XC w A [IntKind.u8] X ∧ (0 : Nat) < (1 : Nat) ∧ (1 : Nat) ≤ X.length)
  (.chk (sym.XR w A [IntKind.u8] X n ∧
  (0 : Int) ≤ (1 : Int) ∧ (1 : Int) < (↑n : Int) ∧ (0 : Nat) < [IntKind.u8].length)
  (.chk (sym.XC w A [IntKind.u8] X ∧ (0 : Nat) < (1 : Nat) ∧ (2 : Nat) ≤ X.length)
  (.chk (sym.XR w A [IntKind.u8] X n ∧
  (0 : Int) ≤ (2 : Int) ∧ (2 : Int) < (↑n : Int) ∧ (0 : Nat) < [IntKind.u8].length)
  (.chk (sym.XC w A [IntKind.u8] X ∧ (0 : Nat) < (1 : Nat) ∧ (3 : Nat) ≤ X.length)
  (.chk (sym.XR w A [IntKind.u8] X n ∧
  (0 : Int) ≤ (3 : Int) ∧ (3 : Int) < (↑n : Int) ∧ (0 : Nat) < [IntKind.u8].length)
  (.chk (sym.XC w A [IntKind.u8] X ∧ (0 : Nat) < (1 : Nat) ∧ (4 : Nat) ≤ X.length)
  (.chk (sym.XR w A [IntKind.u8] X n ∧
  (0 : Int) ≤ (4 : Int) ∧ (4 : Int) < (↑n : Int) ∧ (0 : Nat) < [IntKind.u8].length)
  (.chk (sym.XC w A [IntKind.u8] X ∧ (0 : Nat) < (1 : Nat) ∧ (5 : Nat) ≤ X.length)
  (.chk (sym.XR w A [IntKind.u8] X n ∧
  (0 : Int) ≤ (5 : Int) ∧ (5 : Int) < (↑n : Int) ∧ (0 : Nat) < [IntKind.u8].length)
  (.chk (sym.XC w A [IntKind.u8] X ∧ (0 : Nat) < (1 : Nat) ∧ (6 : Nat) ≤ X.length)
  (.chk (sym.XR w A [IntKind.u8] X n ∧
  (0 : Int) ≤ (6 : Int) ∧ (6 : Int) < (↑n : Int) ∧ (0 : Nat) < [IntKind.u8].length)
  (.chk (sym.XC w A [IntKind.u8] X ∧ (0 : Nat) < (1 : Nat) ∧ (7 : Nat) ≤ X.length)
  (.chk (sym.XR w A [IntKind.u8] X n ∧
  (0 : Int) ≤ (7 : Int) ∧ (7 : Int) < (↑n : Int) ∧ (0 : Nat) < [IntKind.u8].length)
  (.chk (sym.XC w A [IntKind.u8] X ∧ (0 : Nat) < (1 : Nat) ∧ (8 : Nat) ≤ X.length)
  (.chk ((0 : Int) ≤ (8 : Int) ∧ (8 : Int) ≤ (↑n : Int) ∧ (↑n : Int) ≤ (↑n : Int) ∧ n ≤ cap)
  (.chk (sym.XR w (sym.cutA A cap (8 : Nat) [IntKind.u8].length)
    [IntKind.u8] (sym.cutL X (8 : Nat) n [IntKind.u8].length) (n - (8 : Nat)) ∧
  Bs2 (sym.cutL X (8 : Nat) n [IntKind.u8].length))
  (.chk ((0 : Int) ≤ (10 : Int) ∧ (10 : Int) ≤ (↑n : Int) ∧ (↑n : Int) ≤ (↑n : Int) ∧ n ≤ cap)
  (.chk (sym.XR w (sym.cutA A cap (10 : Nat) [IntKind.u8].length)
    [IntKind.u8] (sym.cutL X (10 : Nat) n [IntKind.u8].length) (n - (10 : Nat)) ∧
  Bs2 (sym.cutL X (10 : Nat) n [IntKind.u8].length))
  (.leaf ((.tuple [(.agg [(.int false .u8 (X.getD (0 : Nat) (0 : Int))), (.int false .u8 (X.getD (1 : Nat) (0 : Int))), (.int false .u8 (X.getD (2 : Nat) (0 : Int))), (.int false .u8 (X.getD (3 : Nat) (0 : Int))), (.int false .u8 (X.getD (4 : Nat) (0 : Int))), (.int false .u8 (X.getD (5 : Nat) (0 : Int))), (.int false .u8 (X.getD (6 : Nat) (0 : Int))), (.int false .u8 (X.getD (7 : Nat) (0 : Int))), (.int false .u16 ((sym.cutL X (8 : Nat) n [IntKind.u8].length).getD (1 : Nat) (0 : Int) * (256 : Int) +
  (sym.cutL X (8 : Nat) n [IntKind.u8].length).getD (0 : Nat) (0 : Int))), (.int false .u16 ((sym.cutL X (10 : Nat) n [IntKind.u8].length).getD (1 : Nat) (0 : Int) * (256 : Int) +
  (sym.cutL X (10 : Nat) n [IntKind.u8].length).getD (0 : Nat) (0 : Int)))]), (.one (.int true .i64 (0)))]), [⟨[(.int false .u8 (X.getD (0 : Nat) (0 : Int))), (.int false .u8 (X.getD (1 : Nat) (0 : Int))), (.int false .u8 (X.getD (2 : Nat) (0 : Int))), (.int false .u8 (X.getD (3 : Nat) (0 : Int))), (.int false .u8 (X.getD (4 : Nat) (0 : Int))), (.int false .u8 (X.getD (5 : Nat) (0 : Int))), (.int false .u8 (X.getD (6 : Nat) (0 : Int))), (.int false .u8 (X.getD (7 : Nat) (0 : Int))), (.int false .u16 ((sym.cutL X (8 : Nat) n [IntKind.u8].length).getD (1 : Nat) (0 : Int) * (256 : Int) +
  (sym.cutL X (8 : Nat) n [IntKind.u8].length).getD (0 : Nat) (0 : Int))), (.int false .u16 ((sym.cutL X (10 : Nat) n [IntKind.u8].length).getD (1 : Nat) (0 : Int) * (256 : Int) +
  (sym.cutL X (10 : Nat) n [IntKind.u8].length).getD (0 : Nat) (0 : Int)))], 25⟩])))))))))))))))))))))))))) := by kernel_rfl
theorem rdec_tree (w : World) (A : Option Addr) (X : List Int) (n cap : Nat) :
    callT Try.prog w (flatT Try.prog) (ctrOf (tab w)) (noPre) (noLoop) 20 15 [.v (.one (.xr A [.u8] X n cap))] [] =
(.br ((↑n : Int) != (12 : Int))
 (.leaf ((.tuple [(.agg [(.int true .u8 (0)), (.int true .u8 (0)), (.int true .u8 (0)), (.int true .u8 (0)), (.int true .u8 (0)), (.int true .u8 (0)), (.int true .u8 (0)), (.int true .u8 (0)), (.int true .u16 (0)), (.int true .u16 (0))]), (.one (.int true .i64 (6)))]), [⟨[(.int true .u8 (0)), (.int true .u8 (0)), (.int true .u8 (0)), (.int true .u8 (0)), (.int true .u8 (0)), (.int true .u8 (0)), (.int true .u8 (0)), (.int true .u8 (0)), (.int true .u16 (0)), (.int true .u16 (0))], 28⟩]))
 (.chk (sym.XR w A [IntKind.u8] X n ∧
  (0 : Int) ≤ (1 : Int) ∧ (1 : Int) < (↑n : Int) ∧ (0 : Nat) < [IntKind.u8].length)
 (.chk (sym.XC w A [IntKind.u8] X ∧ (0 : Nat) < (1 : Nat) ∧ (2 : Nat) ≤ X.length)
 (.br ((X.getD (1 : Nat) (0 : Int)).tmod (16 : Int) != (0 : Int))
  (.leaf ((.tuple [(.agg [(.int true .u8 (0)), (.int true .u8 (0)), (.int true .u8 (0)), (.int true .u8 (0)), (.int true .u8 (0)), (.int true .u8 (0)), (.int true .u8 (0)), (.int true .u8 (0)), (.int true .u16 (0)), (.int true .u16 (0))]), (.one (.int true .i64 (5)))]), [⟨[(.int true .u8 (0)), (.int true .u8 (0)), (.int true .u8 (0)), (.int true .u8 (0)), (.int true .u8 (0)), (.int true .u8 (0)), (.int true .u8 (0)), (.int true .u8 (0)), (.int true .u16 (0)), (.int true .u16 (0))], 28⟩]))
  (.chk (sym.XR w A [IntKind.u8] X n ∧
  (0 : Int) ≤ (0 : Int) ∧ (0 : Int) < (↑n : Int) ∧ (0 : Nat) < [IntKind.u8].length)
  (.chk (sym.XC w A [IntKind.u8] X ∧ (0 : Nat) < (1 : Nat) ∧ (1 : Nat) ≤ X.length)
  (.chk (sym.XR w A [IntKind.u8] X n ∧
  (0 : Int) ≤ (1 : Int) ∧ (1 : Int) < (↑n : Int) ∧ (0 : Nat) < [IntKind.u8].length)
  (.chk (sym.XC w A [IntKind.u8] X ∧ (0 : Nat) < (1 : Nat) ∧ (2 : Nat) ≤ X.length)
  (.chk (sym.XR w A [IntKind.u8] X n ∧
  (0 : Int) ≤ (2 : Int) ∧ (2 : Int) < (↑n : Int) ∧ (0 : Nat) < [IntKind.u8].length)
  (.chk (sym.XC w A [IntKind.u8] X ∧ (0 : Nat) < (1 : Nat) ∧ (3 : Nat) ≤ X.length)
  (.chk (sym.XR w A [IntKind.u8] X n ∧
  (0 : Int) ≤ (3 : Int) ∧ (3 : Int) < (↑n : Int) ∧ (0 : Nat) < [IntKind.u8].length)
  (.chk (sym.XC w A [IntKind.u8] X ∧ (0 : Nat) < (1 : Nat) ∧ (4 : Nat) ≤ X.length)
  (.chk (sym.XR w A [IntKind.u8] X n ∧
  (0 : Int) ≤ (4 : Int) ∧ (4 : Int) < (↑n : Int) ∧ (0 : Nat) < [IntKind.u8].length)
  (.chk (sym.XC w A [IntKind.u8] X ∧ (0 : Nat) < (1 : Nat) ∧ (5 : Nat) ≤ X.length)
  (.chk (sym.XR w A [IntKind.u8] X n ∧
  (0 : Int) ≤ (5 : Int) ∧ (5 : Int) < (↑n : Int) ∧ (0 : Nat) < [IntKind.u8].length)
  (.chk (sym.XC w A [IntKind.u8] X ∧ (0 : Nat) < (1 : Nat) ∧ (6 : Nat) ≤ X.length)
  (.chk (sym.XR w A [IntKind.u8] X n ∧
  (0 : Int) ≤ (6 : Int) ∧ (6 : Int) < (↑n : Int) ∧ (0 : Nat) < [IntKind.u8].length)
  (.chk (sym.XC w A [IntKind.u8] X ∧ (0 : Nat) < (1 : Nat) ∧ (7 : Nat) ≤ X.length)
  (.chk (sym.XR w A [IntKind.u8] X n ∧
  (0 : Int) ≤ (7 : Int) ∧ (7 : Int) < (↑n : Int) ∧ (0 : Nat) < [IntKind.u8].length)
  (.chk (sym.XC w A [IntKind.u8] X ∧ (0 : Nat) < (1 : Nat) ∧ (8 : Nat) ≤ X.length)
  (.chk (sym.XR w A [IntKind.u8] X n ∧
  (0 : Int) ≤ (9 : Int) ∧ (9 : Int) < (↑n : Int) ∧ (0 : Nat) < [IntKind.u8].length)
  (.chk (sym.XC w A [IntKind.u8] X ∧ (0 : Nat) < (1 : Nat) ∧ (10 : Nat) ≤ X.length)
  (.chk (sym.XR w A [IntKind.u8] X n ∧
  (0 : Int) ≤ (8 : Int) ∧ (8 : Int) < (↑n : Int) ∧ (0 : Nat) < [IntKind.u8].length)
  (.chk (sym.XC w A [IntKind.u8] X ∧ (0 : Nat) < (1 : Nat) ∧ (9 : Nat) ≤ X.length)
  (.chk (B (X.getD (9 : Nat) (0 : Int)) ∧ B (X.getD (8 : Nat) (0 : Int)))
  (.chk (sym.XR w A [IntKind.u8] X n ∧
  (0 : Int) ≤ (11 : Int) ∧ (11 : Int) < (↑n : Int) ∧ (0 : Nat) < [IntKind.u8].length)
  (.chk (sym.XC w A [IntKind.u8] X ∧ (0 : Nat) < (1 : Nat) ∧ (12 : Nat) ≤ X.length)
  (.chk (sym.XR w A [IntKind.u8] X n ∧
  (0 : Int) ≤ (10 : Int) ∧ (10 : Int) < (↑n : Int) ∧ (0 : Nat) < [IntKind.u8].length)
  (.chk (sym.XC w A [IntKind.u8] X ∧ (0 : Nat) < (1 : Nat) ∧ (11 : Nat) ≤ X.length)
  (.chk (B (X.getD (11 : Nat) (0 : Int)) ∧ B (X.getD (10 : Nat) (0 : Int)))
  (.leaf ((.tuple [(.agg [(.int false .u8 (X.getD (0 : Nat) (0 : Int))), (.int false .u8 (X.getD (1 : Nat) (0 : Int))), (.int false .u8 (X.getD (2 : Nat) (0 : Int))), (.int false .u8 (X.getD (3 : Nat) (0 : Int))), (.int false .u8 (X.getD (4 : Nat) (0 : Int))), (.int false .u8 (X.getD (5 : Nat) (0 : Int))), (.int false .u8 (X.getD (6 : Nat) (0 : Int))), (.int false .u8 (X.getD (7 : Nat) (0 : Int))), (.int false .u16 (X.getD (9 : Nat) (0 : Int) * (256 : Int) + X.getD (8 : Nat) (0 : Int))), (.int false .u16 (X.getD (11 : Nat) (0 : Int) * (256 : Int) + X.getD (10 : Nat) (0 : Int)))]), (.one (.int true .i64 (0)))]), [⟨[(.int false .u8 (X.getD (0 : Nat) (0 : Int))), (.int false .u8 (X.getD (1 : Nat) (0 : Int))), (.int false .u8 (X.getD (2 : Nat) (0 : Int))), (.int false .u8 (X.getD (3 : Nat) (0 : Int))), (.int false .u8 (X.getD (4 : Nat) (0 : Int))), (.int false .u8 (X.getD (5 : Nat) (0 : Int))), (.int false .u8 (X.getD (6 : Nat) (0 : Int))), (.int false .u8 (X.getD (7 : Nat) (0 : Int))), (.int false .u16 (X.getD (9 : Nat) (0 : Int) * (256 : Int) + X.getD (8 : Nat) (0 : Int))), (.int false .u16 (X.getD (11 : Nat) (0 : Int) * (256 : Int) + X.getD (10 : Nat) (0 : Int)))], 28⟩])))))))))))))))))))))))))))))))) := by kernel_rfl
theorem below_xc {w0 w : World} {a : Option Addr} {ks : List IntKind} {xs : List Int} (h : XC w0 a ks xs) (hb : Below w0.heap.size w0 w) : XC w a ks xs := fun j hj => by
  obtain ⟨b, off, rfl, hlt, hc⟩ := h j hj
  exact ⟨b, off, rfl, Nat.lt_of_lt_of_le hlt hb.size, by rw [hb.cell (p := ⟨b, off + j, none⟩) hlt]; exact hc⟩
theorem wordC_ok (w0 : World) : (wordC w0).ok Try.prog w0 := by
  refine ⟨⟨_, Try.func26, rfl⟩, fun args t ht => ?_⟩
  unfold wordC at ht
  simp only at ht
  split at ht
  · rename_i A X n cap
    cases ht
    refine ⟨rfl, fun K hK => ⟨_, hK.2, rfl, fun w hb => ?_⟩⟩
    obtain ⟨⟨hX, hb2, hl⟩, _⟩ := hK
    have hX' : XR w A [.u8] X n := ⟨hX.1, below_xc hX.2 hb⟩
    have hn : X.length = n := by simpa using hX.1
    refine val_eq base2 (ctrs_none _ _) (pre_none _ _) (loops_none _ _) (word_tree w A X n cap) rfl ?_
    simp only [T.holds]
    refine ⟨⟨hX', by omega, by omega, by decide⟩, ⟨hX'.2, by omega, by omega⟩, ⟨hX', by omega, by omega, by decide⟩, ⟨hX'.2, by omega, by omega⟩, rfl, ?_⟩
    rw [or_word (hb2 1) (hb2 0)]
  · cases ht
theorem WordC_ok (w0 : World) : WordC.ok Try.prog w0 := by
  refine ⟨⟨_, Try.func27, rfl⟩, fun args t ht => ?_⟩
  unfold WordC at ht
  simp only at ht
  split at ht
  · rename_i q1 hh q2 ll
    cases ht
    refine ⟨rfl, fun K hK => ⟨_, hK.2, rfl, fun w hb => ?_⟩⟩
    obtain ⟨⟨⟨h1, h2⟩, h3, h4⟩, _⟩ := hK
    refine val_eq base2 (ctrs_none _ _) (pre_none _ _) (loops_none _ _) (Word_tree w _ _) rfl ⟨rfl, ?_⟩
    rw [wi64 hh (by omega) (by omega), wi64 (hh * 256) (by omega) (by omega), wi64 ll (by omega) (by omega), wi64 (hh * 256 + ll) (by omega) (by omega), wu16, Int.emod_eq_of_lt (by omega) (by omega)]
  · cases ht
theorem tab_ok (w0 : World) : Ctrs Try.prog w0 (ctrOf (tab w0)) := ctrs_of fun c hc => by
  simp only [tab, List.mem_cons, List.not_mem_nil, or_false] at hc
  rcases hc with rfl | rfl
  · exact wordC_ok w0
  · exact WordC_ok w0
structure RB (a f b c d e h l sp pc : Int) : Prop where
  a : B a
  f : B f
  b : B b
  c : B c
  d : B d
  e : B e
  h : B h
  l : B l
  sp : W sp
  pc : W pc
def encV (a f b c d e h l sp pc : Int) : List Int := [a, f / 16 * 16, b, c, d, e, h, l, sp % 256, sp / 256, pc % 256, pc / 256]
def dE (xs : List Int) : Int := if xs.length ≠ 12 then 6 else if xs.getD 1 0 % 16 ≠ 0 then 5 else 0
def dv (xs : List Int) (i : Nat) : Int := if dE xs = 0 then xs.getD i 0 else 0
def dw (xs : List Int) (i : Nat) : Int := if dE xs = 0 then xs.getD (i + 1) 0 * 256 + xs.getD i 0 else 0
theorem and240 : ∀ a : Nat, a < 256 → bits .and .u8 (a : Int) 240 = ((a / 16 * 16 : Nat) : Int) ∧ bits .andNot .u8 (a : Int) 240 = ((a % 16 : Nat) : Int) := by decide +kernel
theorem b240 {f : Int} (h : B f) : bits .and .u8 f 240 = f / 16 * 16 ∧ bits .andNot .u8 f 240 = f % 16 := by
  obtain ⟨n, rfl⟩ := Int.eq_ofNat_of_zero_le h.1
  have := and240 n (by have := h.2; omega)
  rw [this.1, this.2]
  exact ⟨by omega, by omega⟩
def encC : RCtr := ⟨13, [none], fun | [.av (.v (.agg [.int _ .u8 a, .int _ .u8 f, .int _ .u8 b, .int _ .u8 c, .int _ .u8 d, .int _ .u8 e, .int _ .u8 h, .int _ .u8 l, .int _ .u16 sp, .int _ .u16 pc]))] => some (.chk (RB a f b c d e h l sp pc) (.leaf [.row false 5 [.u8] (encV a f b c d e h l sp pc) 12 12])) | _ => none⟩
theorem encC_ok : encC.Ok Try.prog := by
  refine rctr_ok base2 ⟨_, Try.func13, rfl⟩ (ctr := fun w => noCtr) (fun w => ctrs_none _ w) (pre := fun w => noPre) (fun w => pre_none _ w) (n := 20) fun w cas args t h ha K hK => ?_
  unfold encC at h
  simp only at h
  split at h
  · cases h
    obtain ⟨y0, rfl, q0⟩ := all2_1 ha
    obtain ⟨rfl, o0⟩ := argAv q0
    rename_i q0 a q1 f q2 b q3 c q4 d q5 e0 q6 h q7 l q8 sp q9 pc
    obtain ⟨hr, hK⟩ := hK
    refine ⟨noLoop, loops_none _ _, ?_⟩
    have e : ∀ x : Int, W x → IntKind.u8.wrap x = x % 256 ∧ IntKind.u8.wrap (x.fdiv (2 ^ 8)) = x / 256 := fun x hx => by
      rw [wu8, wu8, Int.fdiv_eq_ediv_of_nonneg _ (by decide)]
      have := hx.1; have := hx.2
      refine ⟨rfl, ?_⟩
      show x / 256 % 256 = x / 256
      omega
    have e2 : [a, bits .and .u8 f 240, b, c, d, e0, h, l, IntKind.u8.wrap sp, IntKind.u8.wrap (sp.fdiv (2 ^ 8)), IntKind.u8.wrap pc, IntKind.u8.wrap (pc.fdiv (2 ^ 8))] = encV a f b c d e0 h l sp pc := by
      unfold encV
      rw [(b240 hr.f).1, (e sp hr.sp).1, (e sp hr.sp).2, (e pc hr.pc).1, (e pc hr.pc).2]
    rw [show encC.f = 13 from rfl]
    simp only [AV.norm, Sc.norm, List.map_cons, List.map_nil]
    rw [enc_tree]
    exact ⟨_, [_], hK, rfl, .cons (.os (r := 1) rfl rfl rfl (by rw [← e2]; rfl) rfl) .nil⟩
  · cases h
def rencC : RCtr := ⟨17, [none], fun | [.av (.v (.agg [.int _ .u8 a, .int _ .u8 f, .int _ .u8 b, .int _ .u8 c, .int _ .u8 d, .int _ .u8 e, .int _ .u8 h, .int _ .u8 l, .int _ .u16 sp, .int _ .u16 pc]))] => some (.chk (RB a f b c d e h l sp pc) (.leaf [.row false 5 [.u8] (encV a f b c d e h l sp pc) 12 12])) | _ => none⟩
theorem rencC_ok : rencC.Ok Try.prog := by
  refine rctr_ok base2 ⟨_, Try.func17, rfl⟩ (ctr := fun w => noCtr) (fun w => ctrs_none _ w) (pre := fun w => noPre) (fun w => pre_none _ w) (n := 20) fun w cas args t h ha K hK => ?_
  unfold rencC at h
  simp only at h
  split at h
  · cases h
    obtain ⟨y0, rfl, q0⟩ := all2_1 ha
    obtain ⟨rfl, o0⟩ := argAv q0
    rename_i q0 a q1 f q2 b q3 c q4 d q5 e0 q6 h q7 l q8 sp q9 pc
    obtain ⟨hr, hK⟩ := hK
    refine ⟨noLoop, loops_none _ _, ?_⟩
    have e : ∀ x : Int, W x → IntKind.u8.wrap (x.tmod 256) = x % 256 ∧ IntKind.u8.wrap (IntKind.u16.wrap (x.tdiv 256)) = x / 256 := fun x hx => by
      have := hx.1; have := hx.2
      rw [wu8, wu8, wu16, Int.tmod_eq_emod_of_nonneg hx.1, Int.tdiv_eq_ediv_of_nonneg hx.1]
      refine ⟨by omega, by omega⟩
    have e3 : IntKind.u8.wrap (IntKind.u8.wrap (f.tdiv 16) * 16) = f / 16 * 16 := by
      have := hr.f.1; have := hr.f.2
      rw [wu8, wu8, Int.tdiv_eq_ediv_of_nonneg hr.f.1]
      omega
    have e2 : [a, IntKind.u8.wrap (IntKind.u8.wrap (f.tdiv 16) * 16), b, c, d, e0, h, l, IntKind.u8.wrap (sp.tmod 256), IntKind.u8.wrap (IntKind.u16.wrap (sp.tdiv 256)), IntKind.u8.wrap (pc.tmod 256), IntKind.u8.wrap (IntKind.u16.wrap (pc.tdiv 256))] = encV a f b c d e0 h l sp pc := by
      unfold encV
      rw [e3, (e sp hr.sp).1, (e sp hr.sp).2, (e pc hr.pc).1, (e pc hr.pc).2]
    rw [show rencC.f = 17 from rfl]
    simp only [AV.norm, Sc.norm, List.map_cons, List.map_nil]
    rw [renc_tree]
    exact ⟨_, [_], hK, rfl, .cons (.os (r := 1) rfl rfl rfl (by rw [← e2]; rfl) rfl) .nil⟩
  · cases h
def decC : RCtr := ⟨14, [some [.u8]], fun | [.row [.u8] n xs] => some (.chk (n ≤ 1000000000 ∧ Bs xs) (.leaf [.av (.agg [.int false .u8 (dv xs 0), .int false .u8 (dv xs 1), .int false .u8 (dv xs 2), .int false .u8 (dv xs 3), .int false .u8 (dv xs 4), .int false .u8 (dv xs 5), .int false .u8 (dv xs 6), .int false .u8 (dv xs 7), .int false .u16 (dw xs 8), .int false .u16 (dw xs 10)]), .av (.one (.int false .i64 (dE xs)))])) | _ => none⟩
theorem decC_ok : decC.Ok Try.prog := by
  refine rctr_ok base2 ⟨_, Try.func14, rfl⟩ (ctr := fun w => ctrOf (tab w)) (tab_ok) (pre := fun w => noPre) (fun w => pre_none _ w) (n := 20) fun w cas args t h ha K hK => ?_
  unfold decC at h
  simp only at h
  split at h
  · cases h
    obtain ⟨y0, rfl, q0⟩ := all2_1 ha
    obtain ⟨a, c, rfl, hX, hc⟩ := argRow q0
    rename_i n xs
    obtain ⟨⟨big, hb⟩, hK⟩ := hK
    refine ⟨noLoop, loops_none _ _, ?_⟩
    rw [show decC.f = 14 from rfl, dec_tree]
    have hn : xs.length = n := by simpa using hX.1
    simp only [T.holds, List.length_singleton]
    refine ⟨fun hne => ?_, fun he => ?_⟩
    · have h0 : dE xs = 6 := by unfold dE; rw [if_pos (by simp at hne; omega)]
      refine ⟨_, [_, _], hK, rfl, .cons (.av rfl fun _ => ?_) (.cons (.av rfl fun _ => ?_) .nil)⟩
      · simp [V.γ, Sc.γ, dv, dw, h0]
      · simp [V.γ, Sc.γ, h0]
    have he : n = 12 := by have : (n : Int) = 12 := by simpa using he
                           omega
    have hx : ∀ k : Nat, k < 12 → XR w a [.u8] xs n ∧ (0 : Int) ≤ (k : Int) ∧ (k : Int) < (n : Int) ∧ 0 < 1 := fun k hk => ⟨hX, by omega, by omega, by decide⟩
    have hy : ∀ k : Nat, k < 12 → XC w a [.u8] xs ∧ 0 < 1 ∧ k + 1 ≤ xs.length := fun k hk => ⟨hX.2, by decide, by omega⟩
    refine ⟨hx 1 (by decide), hy 1 (by decide), fun hb1 => ?_, fun hb1 => ?_⟩
    · replace hb1 := hb1
      simp only [List.getD_cons_zero] at hb1
      have h0 : dE xs = 5 := by
        unfold dE
        rw [if_neg (by omega), if_pos (by rw [← (b240 (hb 1)).2]; simpa using hb1)]
      refine ⟨_, [_, _], hK, rfl, .cons (.av rfl fun _ => ?_) (.cons (.av rfl fun _ => ?_) .nil)⟩
      · simp [V.γ, Sc.γ, dv, dw, h0]
      · simp [V.γ, Sc.γ, h0]
    · replace hb1 := hb1
      simp only [List.getD_cons_zero] at hb1
      have h0 : dE xs = 0 := by
        unfold dE
        rw [if_neg (by omega), if_neg (by rw [← (b240 (hb 1)).2]; simpa using hb1)]
      have cl : ∀ k, k + 2 ≤ 12 → XR w (cutA a c k 1) [.u8] (cutL xs k n 1) (n - k) ∧ Bs2 (cutL xs k n 1) := fun k hk => ⟨xr_cut hX hc (by omega) (Nat.le_refl _), hb.cut _ _ _, by rw [cutL_length (by omega)]; omega⟩
      have cg : ∀ k j, k + j < 12 → (cutL xs k n 1).getD j 0 = xs.getD (k + j) 0 := fun k j hk => by
        have := (cutL_get (xs := xs) (l := k) (h := n) (sz := 1) (j := j) (by rw [cutL_length (by omega)]; omega)).2
        rw [this, Nat.mul_one]
      repeat' first
        | exact hx 0 (by decide) | exact hx 1 (by decide) | exact hx 2 (by decide) | exact hx 3 (by decide) | exact hx 4 (by decide) | exact hx 5 (by decide) | exact hx 6 (by decide) | exact hx 7 (by decide) | exact hx 8 (by decide) | exact hx 9 (by decide) | exact hx 10 (by decide) | exact hx 11 (by decide)
        | exact hy 0 (by decide) | exact hy 1 (by decide) | exact hy 2 (by decide) | exact hy 3 (by decide) | exact hy 4 (by decide) | exact hy 5 (by decide) | exact hy 6 (by decide) | exact hy 7 (by decide) | exact hy 8 (by decide) | exact hy 9 (by decide) | exact hy 10 (by decide) | exact hy 11 (by decide)
        | exact ⟨hb _, hb _⟩
        | exact cl 8 (by decide) | exact cl 10 (by decide)
        | exact ⟨by omega, by omega, by omega, by omega⟩
        | refine And.intro ?_ ?_
      refine ⟨_, [_, _], hK, rfl, .cons (.av rfl fun _ => ?_) (.cons (.av rfl fun _ => ?_) .nil)⟩
      · rw [cg 8 0 (by decide), cg 8 1 (by decide), cg 10 0 (by decide), cg 10 1 (by decide)]; simp [V.γ, Sc.γ, dv, dw, h0]
      · simp [V.γ, Sc.γ, h0]
  · cases h
def rdecC : RCtr := ⟨15, [some [.u8]], fun | [.row [.u8] n xs] => some (.chk (n ≤ 1000000000 ∧ Bs xs) (.leaf [.av (.agg [.int false .u8 (dv xs 0), .int false .u8 (dv xs 1), .int false .u8 (dv xs 2), .int false .u8 (dv xs 3), .int false .u8 (dv xs 4), .int false .u8 (dv xs 5), .int false .u8 (dv xs 6), .int false .u8 (dv xs 7), .int false .u16 (dw xs 8), .int false .u16 (dw xs 10)]), .av (.one (.int false .i64 (dE xs)))])) | _ => none⟩
theorem rdecC_ok : rdecC.Ok Try.prog := by
  refine rctr_ok base2 ⟨_, Try.func15, rfl⟩ (ctr := fun w => ctrOf (tab w)) (tab_ok) (pre := fun w => noPre) (fun w => pre_none _ w) (n := 20) fun w cas args t h ha K hK => ?_
  unfold rdecC at h
  simp only at h
  split at h
  · cases h
    obtain ⟨y0, rfl, q0⟩ := all2_1 ha
    obtain ⟨a, c, rfl, hX, hc⟩ := argRow q0
    rename_i n xs
    obtain ⟨⟨big, hb⟩, hK⟩ := hK
    refine ⟨noLoop, loops_none _ _, ?_⟩
    rw [show rdecC.f = 15 from rfl, rdec_tree]
    have hn : xs.length = n := by simpa using hX.1
    simp only [T.holds, List.length_singleton]
    refine ⟨fun hne => ?_, fun he => ?_⟩
    · have h0 : dE xs = 6 := by unfold dE; rw [if_pos (by simp at hne; omega)]
      refine ⟨_, [_, _], hK, rfl, .cons (.av rfl fun _ => ?_) (.cons (.av rfl fun _ => ?_) .nil)⟩
      · simp [V.γ, Sc.γ, dv, dw, h0]
      · simp [V.γ, Sc.γ, h0]
    have he : n = 12 := by have : (n : Int) = 12 := by simpa using he
                           omega
    have hx : ∀ k : Nat, k < 12 → XR w a [.u8] xs n ∧ (0 : Int) ≤ (k : Int) ∧ (k : Int) < (n : Int) ∧ 0 < 1 := fun k hk => ⟨hX, by omega, by omega, by decide⟩
    have hy : ∀ k : Nat, k < 12 → XC w a [.u8] xs ∧ 0 < 1 ∧ k + 1 ≤ xs.length := fun k hk => ⟨hX.2, by decide, by omega⟩
    refine ⟨hx 1 (by decide), hy 1 (by decide), fun hb1 => ?_, fun hb1 => ?_⟩
    · replace hb1 := hb1
      have h0 : dE xs = 5 := by
        unfold dE
        rw [if_neg (by omega), if_pos (by rw [← Int.tmod_eq_emod_of_nonneg (hb 1).1]; simpa using hb1)]
      refine ⟨_, [_, _], hK, rfl, .cons (.av rfl fun _ => ?_) (.cons (.av rfl fun _ => ?_) .nil)⟩
      · simp [V.γ, Sc.γ, dv, dw, h0]
      · simp [V.γ, Sc.γ, h0]
    · replace hb1 := hb1
      have h0 : dE xs = 0 := by
        unfold dE
        rw [if_neg (by omega), if_neg (by rw [← Int.tmod_eq_emod_of_nonneg (hb 1).1]; simpa using hb1)]
      repeat' first
        | exact hx 0 (by decide) | exact hx 1 (by decide) | exact hx 2 (by decide) | exact hx 3 (by decide) | exact hx 4 (by decide) | exact hx 5 (by decide) | exact hx 6 (by decide) | exact hx 7 (by decide) | exact hx 8 (by decide) | exact hx 9 (by decide) | exact hx 10 (by decide) | exact hx 11 (by decide)
        | exact hy 0 (by decide) | exact hy 1 (by decide) | exact hy 2 (by decide) | exact hy 3 (by decide) | exact hy 4 (by decide) | exact hy 5 (by decide) | exact hy 6 (by decide) | exact hy 7 (by decide) | exact hy 8 (by decide) | exact hy 9 (by decide) | exact hy 10 (by decide) | exact hy 11 (by decide)
        | exact ⟨hb _, hb _⟩
        
        | exact ⟨by omega, by omega, by omega, by omega⟩
        | refine And.intro ?_ ?_
      refine ⟨_, [_, _], hK, rfl, .cons (.av rfl fun _ => ?_) (.cons (.av rfl fun _ => ?_) .nil)⟩
      · simp [V.γ, Sc.γ, dv, dw, h0]
      · simp [V.γ, Sc.γ, h0]
  · cases h
end Go.Proofs.Ytmpkhjimemdhhaa
