/-
  Contracts of what a condition asks: pairs of registers, names, one number, two. Conditions stand in each theorem.
-/
import Derived.Test.YtmbahohmiecfiaaSymQ
import Derived.Test.YtmbahohmiecfiaaR0
namespace Go.Proofs.Ytmbahohmiecfiaa
open Go.RowKit sym
set_option linter.unusedVariables false
set_option linter.unusedSimpArgs false
set_option maxRecDepth 100000
def KR : List IntKind := [.u8, .u8, .u8, .u8, .u8, .u8, .u8, .u8, .u16, .u16]
def B2 (b : Bool) : Int := if b = true then 1 else 0
/-- A pair of registers, by its number. -/
def pairL (k a f b c d e h l : Int) : Int :=
  if k = 4 then IntKind.i64.wrap (bits .or .u16 (IntKind.u16.wrap (IntKind.u16.wrap a * (2 : Int) ^ (8 : Nat))) (IntKind.u16.wrap (bits .and .u8 f 240)))
  else if k = 0 then IntKind.i64.wrap (bits .or .u16 (IntKind.u16.wrap (IntKind.u16.wrap b * (2 : Int) ^ (8 : Nat))) (IntKind.u16.wrap c))
  else if k = 1 then IntKind.i64.wrap (bits .or .u16 (IntKind.u16.wrap (IntKind.u16.wrap d * (2 : Int) ^ (8 : Nat))) (IntKind.u16.wrap e))
  else IntKind.i64.wrap (bits .or .u16 (IntKind.u16.wrap (IntKind.u16.wrap h * (2 : Int) ^ (8 : Nat))) (IntKind.u16.wrap l))
def pairC : RCtr := ⟨29, [none, some KR], fun | [.av (.v (.one (.int true .i64 k))), .ptr [.u8, .u8, .u8, .u8, .u8, .u8, .u8, .u8, .u16, .u16] [a, f, b, c, d, e, h, l, sp, pc]] => (if k = 4 ∨ k = 0 ∨ k = 1 ∨ k = 2 then some (.leaf [.av (.one (.int false .i64 (pairL k a f b c d e h l)))]) else none) | _ => none⟩
def etab : List RCtr := [pairC]
/-- How many numbers an order takes. -/
def takesL (op n : Int) : Int := if op = 1 ∨ (op = 2 ∧ 0 ≤ n ∧ n < 18) then 0 else if n ≠ 0 ∨ op < 3 ∨ 24 < op then -1 else if op < 7 then 1 else 2
def takesC : Ctr := ⟨21, fun | [.v (.agg [.int _ .i64 op, .int _ .i64 n])] => some (.leaf (.v (.one (.int false .i64 (takesL op n))))) | _ => none⟩
def cmpL (op x y : Int) : Int := if op = 12 then B2 (x == y) else if op = 13 then B2 (x != y) else if op = 14 then B2 (decide (x < y)) else if op = 15 then B2 (decide (x ≤ y)) else if op = 16 then B2 (decide (x > y)) else B2 (decide (x ≥ y))
/-- What is made of two numbers; the error's number. -/
def twoL (op x y : Int) : Int × Int :=
  if op = 7 then (B2 (bits .or .i64 x y != 0), 0)
  else if op = 8 then (B2 (x != 0 && y != 0), 0)
  else if op = 9 then (bits .or .i64 x y, 0)
  else if op = 10 then (bits .xor .i64 x y, 0)
  else if op = 11 then (bits .and .i64 x y, 0)
  else if op = 18 then (IntKind.i64.wrap (x * (2 : Int) ^ Min.min (bits .and .i64 y 63).toNat 64), 0)
  else if op = 19 then (x.fdiv ((2 : Int) ^ Min.min (bits .and .i64 y 63).toNat 64), 0)
  else if op = 20 then (IntKind.i64.wrap (x + y), 0)
  else if op = 21 then (IntKind.i64.wrap (x - y), 0)
  else if op = 22 then (IntKind.i64.wrap (x * y), 0)
  else if op = 23 then (if y = 0 then (0, 13) else (IntKind.i64.wrap (x.tdiv y), 0))
  else if op = 24 then (if y = 0 then (0, 13) else (x.tmod y, 0))
  else (cmpL op x y, 0)
def twoC : Ctr := ⟨24, fun | [.v (.one (.int _ .i64 op)), .v (.one (.int _ .i64 x)), .v (.one (.int _ .i64 y))] => some (.leaf (.tuple [.one (.int false .i64 (twoL op x y).1), .one (.int false .i64 (twoL op x y).2)])) | _ => none⟩
/-- What is peeked. -/
def peekL (F : Int → Int) (at_ : Int) : Int := IntKind.i64.wrap (F (IntKind.u16.wrap at_))
def F0 : Int → Int := fun _ => 0
/-- What is made of one number. -/
def oneL (F : Int → Int) (op x : Int) : Int := if op = 3 then peekL F x else if op = 4 then IntKind.i64.wrap (0 - x) else if op = 5 then B2 (x == 0) else bits .xor .i64 (-1) x
/-- What is asked by name. -/
def nameL (a f b c d e h l sp pc ad va ki ba n : Int) : Int :=
  if n = 0 then IntKind.i64.wrap a else if n = 1 then IntKind.i64.wrap (bits .and .u8 f 240) else if n = 2 then IntKind.i64.wrap b else if n = 3 then IntKind.i64.wrap c
  else if n = 4 then IntKind.i64.wrap d else if n = 5 then IntKind.i64.wrap e else if n = 6 then IntKind.i64.wrap h else if n = 7 then IntKind.i64.wrap l
  else if n = 8 then pairL 4 a f b c d e h l else if n = 9 then pairL 0 a f b c d e h l else if n = 10 then pairL 1 a f b c d e h l else if n = 11 then pairL 2 a f b c d e h l
  else if n = 12 then IntKind.i64.wrap sp else if n = 13 then IntKind.i64.wrap pc else if n = 14 then ad else if n = 15 then va else if n = 16 then ki else ba
def nameC : Ctr := ⟨22, fun | [.v (.agg [.int _ .u8 qa, .int _ .u8 qf, .int _ .u8 qb, .int _ .u8 qc, .int _ .u8 qd, .int _ .u8 qe, .int _ .u8 qh, .int _ .u8 ql, .int _ .u16 sp, .int _ .u16 pc, .int _ .i64 ad, .int _ .i64 va, .int _ .i64 ki, .int _ .i64 ba, .nilfn]), .v (.one (.int _ .i64 n))] => some (.chk (0 ≤ n ∧ n < 18) (.leaf (.v (.one (.int false .i64 (nameL qa qf qb qc qd qe qh ql sp pc ad va ki ba n)))))) | _ => none⟩
def oneC : Ctr := ⟨23, fun | [.v (.agg [.int _ .u8 qa, .int _ .u8 qf, .int _ .u8 qb, .int _ .u8 qc, .int _ .u8 qd, .int _ .u8 qe, .int _ .u8 qh, .int _ .u8 ql, .int _ .u16 sp, .int _ .u16 pc, .int _ .i64 ad, .int _ .i64 va, .int _ .i64 ki, .int _ .i64 ba, .nilfn]), .v (.one (.int _ .i64 op)), .v (.one (.int _ .i64 x))] => some (.leaf (.v (.one (.int false .i64 (oneL F0 op x))))) | _ => none⟩
def etab2 : List Ctr := [takesC, twoC, nameC, oneC]
/-- What orders come to, from a stack on; the error's number. -/
def evalL (nm F : Int → Int) : List Int → List Int → Int × Int
  | op :: n :: r, S =>
    if takesL op n < 0 ∨ (S.length : Int) < takesL op n then (0, 5)
    else if takesL op n = 0 then evalL nm F r (S ++ [if op = 2 then nm n else n])
    else if takesL op n = 1 then evalL nm F r (S.take (S.length - 1) ++ [oneL F op (S.getD (S.length - 1) 0)])
    else if (twoL op (S.getD (S.length - 2) 0) (S.getD (S.length - 1) 0)).2 ≠ 0 then (0, (twoL op (S.getD (S.length - 2) 0) (S.getD (S.length - 1) 0)).2)
    else evalL nm F r (S.take (S.length - 2) ++ [(twoL op (S.getD (S.length - 2) 0) (S.getD (S.length - 1) 0)).1])
  | _, S => if S.length = 1 then (S.getD 0 0, 0) else (0, 5)
theorem pair4_tree (w : World) (A : Option Addr) (qa qf qb qc qd qe qh ql sp pc : Int) :
    callT Try.prog w (flatT Try.prog) (noCtr) (noPre) (noLoop) 20 29 [.v (.one (.int true .i64 4)), .v (.one (.xq A [.u8, .u8, .u8, .u8, .u8, .u8, .u8, .u8, .u16, .u16] [qa, qf, qb, qc, qd, qe, qh, ql, sp, pc] 0 0))] [] =
(.chk (sym.XC w A
    [IntKind.u8, IntKind.u8, IntKind.u8, IntKind.u8, IntKind.u8, IntKind.u8, IntKind.u8,
      IntKind.u8, IntKind.u16, IntKind.u16]
    [qa, qf, qb, qc, qd, qe, qh, ql, sp, pc] ∧
  (0 : Nat) < (10 : Nat) ∧ (10 : Nat) ≤ [qa, qf, qb, qc, qd, qe, qh, ql, sp, pc].length)
(.leaf ((.v (.one (.int false .i64 (IntKind.i64.wrap
  (bits BinOp.or IntKind.u16
    (IntKind.u16.wrap
      (IntKind.u16.wrap ([qa, qf, qb, qc, qd, qe, qh, ql, sp, pc].getD (0 : Nat) (0 : Int)) * (2 : Int) ^ (8 : Nat)))
    (IntKind.u16.wrap
      (bits BinOp.and
        ([IntKind.u8, IntKind.u8, IntKind.u8, IntKind.u8, IntKind.u8, IntKind.u8, IntKind.u8,
              IntKind.u8, IntKind.u16, IntKind.u16].getD
          (1 : Nat) IntKind.u8)
        ([qa, qf, qb, qc, qd, qe, qh, ql, sp, pc].getD (1 : Nat) (0 : Int)) (240 : Int)))))))), [⟨[(.int false .u8 ([qa, qf, qb, qc, qd, qe, qh, ql, sp, pc].getD (0 : Nat) (0 : Int))), (.int false .u8 (bits BinOp.and
  ([IntKind.u8, IntKind.u8, IntKind.u8, IntKind.u8, IntKind.u8, IntKind.u8, IntKind.u8,
        IntKind.u8, IntKind.u16, IntKind.u16].getD
    (1 : Nat) IntKind.u8)
  ([qa, qf, qb, qc, qd, qe, qh, ql, sp, pc].getD (1 : Nat) (0 : Int)) (240 : Int))), (.int false .u8 ([qa, qf, qb, qc, qd, qe, qh, ql, sp, pc].getD (2 : Nat) (0 : Int))), (.int false .u8 ([qa, qf, qb, qc, qd, qe, qh, ql, sp, pc].getD (3 : Nat) (0 : Int))), (.int false .u8 ([qa, qf, qb, qc, qd, qe, qh, ql, sp, pc].getD (4 : Nat) (0 : Int))), (.int false .u8 ([qa, qf, qb, qc, qd, qe, qh, ql, sp, pc].getD (5 : Nat) (0 : Int))), (.int false .u8 ([qa, qf, qb, qc, qd, qe, qh, ql, sp, pc].getD (6 : Nat) (0 : Int))), (.int false .u8 ([qa, qf, qb, qc, qd, qe, qh, ql, sp, pc].getD (7 : Nat) (0 : Int))), (.int false .u16 ([qa, qf, qb, qc, qd, qe, qh, ql, sp, pc].getD (8 : Nat) (0 : Int))), (.int false .u16 ([qa, qf, qb, qc, qd, qe, qh, ql, sp, pc].getD (9 : Nat) (0 : Int)))], 35⟩]))) := by kernel_rfl
theorem pair0_tree (w : World) (A : Option Addr) (qa qf qb qc qd qe qh ql sp pc : Int) :
    callT Try.prog w (flatT Try.prog) (noCtr) (noPre) (noLoop) 20 29 [.v (.one (.int true .i64 0)), .v (.one (.xq A [.u8, .u8, .u8, .u8, .u8, .u8, .u8, .u8, .u16, .u16] [qa, qf, qb, qc, qd, qe, qh, ql, sp, pc] 0 0))] [] =
(.chk (sym.XC w A
    [IntKind.u8, IntKind.u8, IntKind.u8, IntKind.u8, IntKind.u8, IntKind.u8, IntKind.u8,
      IntKind.u8, IntKind.u16, IntKind.u16]
    [qa, qf, qb, qc, qd, qe, qh, ql, sp, pc] ∧
  (0 : Nat) < (10 : Nat) ∧ (10 : Nat) ≤ [qa, qf, qb, qc, qd, qe, qh, ql, sp, pc].length)
(.leaf ((.v (.one (.int false .i64 (IntKind.i64.wrap
  (bits BinOp.or IntKind.u16
    (IntKind.u16.wrap
      (IntKind.u16.wrap ([qa, qf, qb, qc, qd, qe, qh, ql, sp, pc].getD (2 : Nat) (0 : Int)) * (2 : Int) ^ (8 : Nat)))
    (IntKind.u16.wrap ([qa, qf, qb, qc, qd, qe, qh, ql, sp, pc].getD (3 : Nat) (0 : Int)))))))), [⟨[(.int false .u8 ([qa, qf, qb, qc, qd, qe, qh, ql, sp, pc].getD (0 : Nat) (0 : Int))), (.int false .u8 (bits BinOp.and
  ([IntKind.u8, IntKind.u8, IntKind.u8, IntKind.u8, IntKind.u8, IntKind.u8, IntKind.u8,
        IntKind.u8, IntKind.u16, IntKind.u16].getD
    (1 : Nat) IntKind.u8)
  ([qa, qf, qb, qc, qd, qe, qh, ql, sp, pc].getD (1 : Nat) (0 : Int)) (240 : Int))), (.int false .u8 ([qa, qf, qb, qc, qd, qe, qh, ql, sp, pc].getD (2 : Nat) (0 : Int))), (.int false .u8 ([qa, qf, qb, qc, qd, qe, qh, ql, sp, pc].getD (3 : Nat) (0 : Int))), (.int false .u8 ([qa, qf, qb, qc, qd, qe, qh, ql, sp, pc].getD (4 : Nat) (0 : Int))), (.int false .u8 ([qa, qf, qb, qc, qd, qe, qh, ql, sp, pc].getD (5 : Nat) (0 : Int))), (.int false .u8 ([qa, qf, qb, qc, qd, qe, qh, ql, sp, pc].getD (6 : Nat) (0 : Int))), (.int false .u8 ([qa, qf, qb, qc, qd, qe, qh, ql, sp, pc].getD (7 : Nat) (0 : Int))), (.int false .u16 ([qa, qf, qb, qc, qd, qe, qh, ql, sp, pc].getD (8 : Nat) (0 : Int))), (.int false .u16 ([qa, qf, qb, qc, qd, qe, qh, ql, sp, pc].getD (9 : Nat) (0 : Int)))], 35⟩, ⟨[(.ptr 0 2), (.ptr 0 3), (.ptr 0 4), (.ptr 0 5), (.ptr 0 6), (.ptr 0 7), .nil, (.ptr 0 0)], 86⟩, ⟨[(.ptr 0 2), (.ptr 0 3), (.ptr 0 4), (.ptr 0 5), (.ptr 0 6), (.ptr 0 7), .nil, (.ptr 0 0)], 86⟩]))) := by kernel_rfl
theorem pair1_tree (w : World) (A : Option Addr) (qa qf qb qc qd qe qh ql sp pc : Int) :
    callT Try.prog w (flatT Try.prog) (noCtr) (noPre) (noLoop) 20 29 [.v (.one (.int true .i64 1)), .v (.one (.xq A [.u8, .u8, .u8, .u8, .u8, .u8, .u8, .u8, .u16, .u16] [qa, qf, qb, qc, qd, qe, qh, ql, sp, pc] 0 0))] [] =
(.chk (sym.XC w A
    [IntKind.u8, IntKind.u8, IntKind.u8, IntKind.u8, IntKind.u8, IntKind.u8, IntKind.u8,
      IntKind.u8, IntKind.u16, IntKind.u16]
    [qa, qf, qb, qc, qd, qe, qh, ql, sp, pc] ∧
  (0 : Nat) < (10 : Nat) ∧ (10 : Nat) ≤ [qa, qf, qb, qc, qd, qe, qh, ql, sp, pc].length)
(.leaf ((.v (.one (.int false .i64 (IntKind.i64.wrap
  (bits BinOp.or IntKind.u16
    (IntKind.u16.wrap
      (IntKind.u16.wrap ([qa, qf, qb, qc, qd, qe, qh, ql, sp, pc].getD (4 : Nat) (0 : Int)) * (2 : Int) ^ (8 : Nat)))
    (IntKind.u16.wrap ([qa, qf, qb, qc, qd, qe, qh, ql, sp, pc].getD (5 : Nat) (0 : Int)))))))), [⟨[(.int false .u8 ([qa, qf, qb, qc, qd, qe, qh, ql, sp, pc].getD (0 : Nat) (0 : Int))), (.int false .u8 (bits BinOp.and
  ([IntKind.u8, IntKind.u8, IntKind.u8, IntKind.u8, IntKind.u8, IntKind.u8, IntKind.u8,
        IntKind.u8, IntKind.u16, IntKind.u16].getD
    (1 : Nat) IntKind.u8)
  ([qa, qf, qb, qc, qd, qe, qh, ql, sp, pc].getD (1 : Nat) (0 : Int)) (240 : Int))), (.int false .u8 ([qa, qf, qb, qc, qd, qe, qh, ql, sp, pc].getD (2 : Nat) (0 : Int))), (.int false .u8 ([qa, qf, qb, qc, qd, qe, qh, ql, sp, pc].getD (3 : Nat) (0 : Int))), (.int false .u8 ([qa, qf, qb, qc, qd, qe, qh, ql, sp, pc].getD (4 : Nat) (0 : Int))), (.int false .u8 ([qa, qf, qb, qc, qd, qe, qh, ql, sp, pc].getD (5 : Nat) (0 : Int))), (.int false .u8 ([qa, qf, qb, qc, qd, qe, qh, ql, sp, pc].getD (6 : Nat) (0 : Int))), (.int false .u8 ([qa, qf, qb, qc, qd, qe, qh, ql, sp, pc].getD (7 : Nat) (0 : Int))), (.int false .u16 ([qa, qf, qb, qc, qd, qe, qh, ql, sp, pc].getD (8 : Nat) (0 : Int))), (.int false .u16 ([qa, qf, qb, qc, qd, qe, qh, ql, sp, pc].getD (9 : Nat) (0 : Int)))], 35⟩, ⟨[(.ptr 0 2), (.ptr 0 3), (.ptr 0 4), (.ptr 0 5), (.ptr 0 6), (.ptr 0 7), .nil, (.ptr 0 0)], 86⟩, ⟨[(.ptr 0 2), (.ptr 0 3), (.ptr 0 4), (.ptr 0 5), (.ptr 0 6), (.ptr 0 7), .nil, (.ptr 0 0)], 86⟩]))) := by kernel_rfl
theorem pair2_tree (w : World) (A : Option Addr) (qa qf qb qc qd qe qh ql sp pc : Int) :
    callT Try.prog w (flatT Try.prog) (noCtr) (noPre) (noLoop) 20 29 [.v (.one (.int true .i64 2)), .v (.one (.xq A [.u8, .u8, .u8, .u8, .u8, .u8, .u8, .u8, .u16, .u16] [qa, qf, qb, qc, qd, qe, qh, ql, sp, pc] 0 0))] [] =
(.chk (sym.XC w A
    [IntKind.u8, IntKind.u8, IntKind.u8, IntKind.u8, IntKind.u8, IntKind.u8, IntKind.u8,
      IntKind.u8, IntKind.u16, IntKind.u16]
    [qa, qf, qb, qc, qd, qe, qh, ql, sp, pc] ∧
  (0 : Nat) < (10 : Nat) ∧ (10 : Nat) ≤ [qa, qf, qb, qc, qd, qe, qh, ql, sp, pc].length)
(.leaf ((.v (.one (.int false .i64 (IntKind.i64.wrap
  (bits BinOp.or IntKind.u16
    (IntKind.u16.wrap
      (IntKind.u16.wrap ([qa, qf, qb, qc, qd, qe, qh, ql, sp, pc].getD (6 : Nat) (0 : Int)) * (2 : Int) ^ (8 : Nat)))
    (IntKind.u16.wrap ([qa, qf, qb, qc, qd, qe, qh, ql, sp, pc].getD (7 : Nat) (0 : Int)))))))), [⟨[(.int false .u8 ([qa, qf, qb, qc, qd, qe, qh, ql, sp, pc].getD (0 : Nat) (0 : Int))), (.int false .u8 (bits BinOp.and
  ([IntKind.u8, IntKind.u8, IntKind.u8, IntKind.u8, IntKind.u8, IntKind.u8, IntKind.u8,
        IntKind.u8, IntKind.u16, IntKind.u16].getD
    (1 : Nat) IntKind.u8)
  ([qa, qf, qb, qc, qd, qe, qh, ql, sp, pc].getD (1 : Nat) (0 : Int)) (240 : Int))), (.int false .u8 ([qa, qf, qb, qc, qd, qe, qh, ql, sp, pc].getD (2 : Nat) (0 : Int))), (.int false .u8 ([qa, qf, qb, qc, qd, qe, qh, ql, sp, pc].getD (3 : Nat) (0 : Int))), (.int false .u8 ([qa, qf, qb, qc, qd, qe, qh, ql, sp, pc].getD (4 : Nat) (0 : Int))), (.int false .u8 ([qa, qf, qb, qc, qd, qe, qh, ql, sp, pc].getD (5 : Nat) (0 : Int))), (.int false .u8 ([qa, qf, qb, qc, qd, qe, qh, ql, sp, pc].getD (6 : Nat) (0 : Int))), (.int false .u8 ([qa, qf, qb, qc, qd, qe, qh, ql, sp, pc].getD (7 : Nat) (0 : Int))), (.int false .u16 ([qa, qf, qb, qc, qd, qe, qh, ql, sp, pc].getD (8 : Nat) (0 : Int))), (.int false .u16 ([qa, qf, qb, qc, qd, qe, qh, ql, sp, pc].getD (9 : Nat) (0 : Int)))], 35⟩, ⟨[(.ptr 0 2), (.ptr 0 3), (.ptr 0 4), (.ptr 0 5), (.ptr 0 6), (.ptr 0 7), .nil, (.ptr 0 0)], 86⟩, ⟨[(.ptr 0 2), (.ptr 0 3), (.ptr 0 4), (.ptr 0 5), (.ptr 0 6), (.ptr 0 7), .nil, (.ptr 0 0)], 86⟩]))) := by kernel_rfl
theorem γi {n m : Int} (lit : Bool) (h : n = m) : (AV.v (.one (.int lit .i64 n))).γ [] = .int .i64 m := by rw [h]; rfl
theorem γt {n m n' m' : Int} (l l' : Bool) (h : n = m) (h' : n' = m') : (AV.tuple [.one (.int l .i64 n), .one (.int l' .i64 n')]).γ [] = .tuple #[.int .i64 m, .int .i64 m'] := by rw [h, h']; rfl
theorem pairC_ok (w0 : World) : pairC.Ok Try.prog w0 := by
  refine rctr_raw base2 ⟨_, Try.func29, rfl⟩ (ctr := fun w => noCtr) w0 (fun w _ => ctrs_none _ w) (pre := fun w => noPre) (fun w _ => pre_none _ w) (n := 20) fun w hw0 cas args t h ha K hK => ?_
  unfold pairC at h
  simp only at h
  split at h
  · rename_i k qa qf qb qc qd qe qh ql sp pc
    split at h
    · rename_i hk
      cases h
      obtain ⟨y0, y1, rfl, q0, q1⟩ := all2_2 ha
      obtain ⟨rfl, o0⟩ := rawAv q0
      obtain ⟨A, rfl, hX⟩ := rawPtr q1
      refine ⟨noLoop, loops_none _ _, ?_⟩
      rcases hk with rfl | rfl | rfl | rfl
      · rw [show pairC.f = 29 from rfl, pair4_tree]
        exact ⟨⟨hX, by decide, by simp⟩, _, [_], hK, rfl, .cons (.av rfl fun _ => rfl) .nil⟩
      · rw [show pairC.f = 29 from rfl, pair0_tree]
        exact ⟨⟨hX, by decide, by simp⟩, _, [_], hK, rfl, .cons (.av rfl fun _ => rfl) .nil⟩
      · rw [show pairC.f = 29 from rfl, pair1_tree]
        exact ⟨⟨hX, by decide, by simp⟩, _, [_], hK, rfl, .cons (.av rfl fun _ => rfl) .nil⟩
      · rw [show pairC.f = 29 from rfl, pair2_tree]
        exact ⟨⟨hX, by decide, by simp⟩, _, [_], hK, rfl, .cons (.av rfl fun _ => rfl) .nil⟩
    · cases h
  · cases h
theorem etab_ok (w0 : World) : ∀ c ∈ etab, c.Ok Try.prog w0 := fun c hc => by
  simp only [etab, List.mem_cons, List.not_mem_nil, or_false] at hc
  subst hc
  exact pairC_ok w0
theorem takes_tree (w : World) (op n : Int) :
    callV Try.prog w (flatT Try.prog) (noCtr) (noPre) (noLoop) 20 21 [.v (.agg [.int false .i64 op, .int false .i64 n])] =
(.br (op == (1 : Int))
 (.leaf (.v (.one (.int true .i64 (0)))))
 (.br (op == (2 : Int))
  (.br (decide (n ≥ (0 : Int)))
   (.br (decide (n < (18 : Int)))
    (.leaf (.v (.one (.int true .i64 (0)))))
    (.br (n != (0 : Int))
     (.leaf (.v (.one (.int true .i64 (-1)))))
     (.br (decide (op < (3 : Int)))
      (.leaf (.v (.one (.int true .i64 (-1)))))
      (.br (decide (op > (24 : Int)))
       (.leaf (.v (.one (.int true .i64 (-1)))))
       (.br (decide (op < (7 : Int)))
        (.leaf (.v (.one (.int true .i64 (1)))))
        (.leaf (.v (.one (.int true .i64 (2))))))))))
   (.br (n != (0 : Int))
    (.leaf (.v (.one (.int true .i64 (-1)))))
    (.br (decide (op < (3 : Int)))
     (.leaf (.v (.one (.int true .i64 (-1)))))
     (.br (decide (op > (24 : Int)))
      (.leaf (.v (.one (.int true .i64 (-1)))))
      (.br (decide (op < (7 : Int)))
       (.leaf (.v (.one (.int true .i64 (1)))))
       (.leaf (.v (.one (.int true .i64 (2))))))))))
  (.br (n != (0 : Int))
   (.leaf (.v (.one (.int true .i64 (-1)))))
   (.br (decide (op < (3 : Int)))
    (.leaf (.v (.one (.int true .i64 (-1)))))
    (.br (decide (op > (24 : Int)))
     (.leaf (.v (.one (.int true .i64 (-1)))))
     (.br (decide (op < (7 : Int)))
      (.leaf (.v (.one (.int true .i64 (1)))))
      (.leaf (.v (.one (.int true .i64 (2))))))))))) := by kernel_rfl
theorem takesC_ok (w0 : World) : takesC.ok Try.prog w0 := by
  refine ⟨⟨_, Try.func21, rfl⟩, fun args t ht => ?_⟩
  unfold takesC at ht
  simp only at ht
  split at ht
  · cases ht
    refine ⟨rfl, fun K hK => ⟨_, hK, rfl, fun w _ => ?_⟩⟩
    refine val_eq base2 (ctrs_none _ _) (pre_none _ _) (loops_none _ _) (takes_tree w _ _) rfl ?_
    simp only [T.holds, beq_iff_eq, beq_eq_false_iff_ne, bne_iff_ne, bne_eq_false_iff_eq, decide_eq_true_eq, decide_eq_false_iff_not, ne_eq, ge_iff_le, gt_iff_lt, Int.not_lt, Int.not_le]
    repeat' (first | exact rfl | (intro _) | (refine And.intro ?_ ?_))
    all_goals first | omega | (refine γi _ ?_) | (refine γt _ _ ?_ ?_)
    all_goals (unfold takesL; split <;> first | omega | (split <;> first | omega | (split <;> omega)))

  · cases ht
theorem and63 (y : Int) : bits .and .i64 y 63 = y % 64 := by
  have h63 : (BitVec.ofInt 64 63).toNat = 2 ^ 6 - 1 := by decide
  have key : (BitVec.ofInt 64 y &&& BitVec.ofInt 64 63).toNat = (y % ((2 ^ 64 : Nat) : Int)).toNat % 2 ^ 6 := by
    rw [BitVec.toNat_and, BitVec.toNat_ofInt, h63, Nat.and_two_pow_sub_one_eq_mod]
  show IntKind.i64.wrap ((BitVec.ofInt 64 y &&& BitVec.ofInt 64 63).toNat : Nat) = y % 64
  rw [key, IntKind.wrap_i64]
  omega
theorem two_tree (w : World) (op x y : Int) :
    callV Try.prog w (flatT Try.prog) (noCtr) (noPre) (noLoop) 20 24 [.v (.one (.int false .i64 op)), .v (.one (.int false .i64 x)), .v (.one (.int false .i64 y))] =
(.br (op == (7 : Int))
 (.br (bits BinOp.or IntKind.i64 x y != (0 : Int))
  (.leaf (.tuple [(.one (.int true .i64 (1))), (.one (.int true .i64 (0)))]))
  (.leaf (.tuple [(.one (.int true .i64 (0))), (.one (.int true .i64 (0)))])))
 (.br (op == (8 : Int))
  (.br (x != (0 : Int))
   (.br (y != (0 : Int))
    (.leaf (.tuple [(.one (.int true .i64 (1))), (.one (.int true .i64 (0)))]))
    (.leaf (.tuple [(.one (.int true .i64 (0))), (.one (.int true .i64 (0)))])))
   (.leaf (.tuple [(.one (.int true .i64 (0))), (.one (.int true .i64 (0)))])))
  (.br (op == (9 : Int))
   (.leaf (.tuple [(.one (.int false .i64 (bits BinOp.or IntKind.i64 x y))), (.one (.int true .i64 (0)))]))
   (.br (op == (10 : Int))
    (.leaf (.tuple [(.one (.int false .i64 (bits BinOp.xor IntKind.i64 x y))), (.one (.int true .i64 (0)))]))
    (.br (op == (11 : Int))
     (.leaf (.tuple [(.one (.int false .i64 (bits BinOp.and IntKind.i64 x y))), (.one (.int true .i64 (0)))]))
     (.br (op == (18 : Int))
      (.chk ((0 : Int) ≤ bits BinOp.and IntKind.i64 y (63 : Int))
      (.leaf (.tuple [(.one (.int false .i64 (IntKind.i64.wrap
  (x * (2 : Int) ^ Min.min (bits BinOp.and IntKind.i64 y (63 : Int)).toNat IntKind.i64.bits)))), (.one (.int true .i64 (0)))])))
      (.br (op == (19 : Int))
       (.chk ((0 : Int) ≤ bits BinOp.and IntKind.i64 y (63 : Int))
       (.leaf (.tuple [(.one (.int false .i64 (x.fdiv ((2 : Int) ^ Min.min (bits BinOp.and IntKind.i64 y (63 : Int)).toNat IntKind.i64.bits)))), (.one (.int true .i64 (0)))])))
       (.br (op == (20 : Int))
        (.leaf (.tuple [(.one (.int false .i64 (IntKind.i64.wrap (x + y)))), (.one (.int true .i64 (0)))]))
        (.br (op == (21 : Int))
         (.leaf (.tuple [(.one (.int false .i64 (IntKind.i64.wrap (x - y)))), (.one (.int true .i64 (0)))]))
         (.br (op == (22 : Int))
          (.leaf (.tuple [(.one (.int false .i64 (IntKind.i64.wrap (x * y)))), (.one (.int true .i64 (0)))]))
          (.br (op == (23 : Int))
           (.br (y == (0 : Int))
            (.leaf (.tuple [(.one (.int true .i64 (0))), (.one (.int true .i64 (13)))]))
            (.br (op == (23 : Int))
             (.chk (y ≠ (0 : Int))
             (.leaf (.tuple [(.one (.int false .i64 (IntKind.i64.wrap (x.tdiv y)))), (.one (.int true .i64 (0)))])))
             (.chk (y ≠ (0 : Int))
             (.leaf (.tuple [(.one (.int false .i64 (x.tmod y))), (.one (.int true .i64 (0)))])))))
           (.br (op == (24 : Int))
            (.br (y == (0 : Int))
             (.leaf (.tuple [(.one (.int true .i64 (0))), (.one (.int true .i64 (13)))]))
             (.br (op == (23 : Int))
              (.chk (y ≠ (0 : Int))
              (.leaf (.tuple [(.one (.int false .i64 (IntKind.i64.wrap (x.tdiv y)))), (.one (.int true .i64 (0)))])))
              (.chk (y ≠ (0 : Int))
              (.leaf (.tuple [(.one (.int false .i64 (x.tmod y))), (.one (.int true .i64 (0)))])))))
            (.br (op == (12 : Int))
             (.br (x == y)
              (.leaf (.tuple [(.one (.int true .i64 (1))), (.one (.int true .i64 (0)))]))
              (.leaf (.tuple [(.one (.int true .i64 (0))), (.one (.int true .i64 (0)))])))
             (.br (op == (13 : Int))
              (.br (x != y)
               (.leaf (.tuple [(.one (.int true .i64 (1))), (.one (.int true .i64 (0)))]))
               (.leaf (.tuple [(.one (.int true .i64 (0))), (.one (.int true .i64 (0)))])))
              (.br (op == (14 : Int))
               (.br (decide (x < y))
                (.leaf (.tuple [(.one (.int true .i64 (1))), (.one (.int true .i64 (0)))]))
                (.leaf (.tuple [(.one (.int true .i64 (0))), (.one (.int true .i64 (0)))])))
               (.br (op == (15 : Int))
                (.br (decide (x ≤ y))
                 (.leaf (.tuple [(.one (.int true .i64 (1))), (.one (.int true .i64 (0)))]))
                 (.leaf (.tuple [(.one (.int true .i64 (0))), (.one (.int true .i64 (0)))])))
                (.br (op == (16 : Int))
                 (.br (decide (x > y))
                  (.leaf (.tuple [(.one (.int true .i64 (1))), (.one (.int true .i64 (0)))]))
                  (.leaf (.tuple [(.one (.int true .i64 (0))), (.one (.int true .i64 (0)))])))
                 (.br (decide (x ≥ y))
                  (.leaf (.tuple [(.one (.int true .i64 (1))), (.one (.int true .i64 (0)))]))
                  (.leaf (.tuple [(.one (.int true .i64 (0))), (.one (.int true .i64 (0)))])))))))))))))))))))) := by kernel_rfl
theorem twoC_ok (w0 : World) : twoC.ok Try.prog w0 := by
  refine ⟨⟨_, Try.func24, rfl⟩, fun args t ht => ?_⟩
  unfold twoC at ht
  simp only at ht
  split at ht
  · rename_i _ op _ x _ y
    cases ht
    refine ⟨rfl, fun K hK => ⟨_, hK, rfl, fun w _ => ?_⟩⟩
    refine val_eq base2 (ctrs_none _ _) (pre_none _ _) (loops_none _ _) (two_tree w _ _ _) rfl ?_
    simp only [T.holds, beq_iff_eq, beq_eq_false_iff_ne, bne_iff_ne, bne_eq_false_iff_eq, decide_eq_true_eq, decide_eq_false_iff_not, ne_eq, ge_iff_le, gt_iff_lt, Int.not_lt, Int.not_le]
    have h63 : 0 ≤ bits .and .i64 y 63 := by rw [and63]; omega
    repeat' (first | exact rfl | (intro _) | (refine And.intro ?_ ?_))
    all_goals first | omega | (refine γi _ ?_) | (refine γt _ _ ?_ ?_)
    all_goals simp [twoL, cmpL, B2, IntKind.bits, *]

  · cases ht
theorem name_tree (w : World) (n : Int) (qa qf qb qc qd qe qh ql sp pc : Int) (ad va ki ba : Int) :
    callV Try.prog w (flatT Try.prog) (qctr etab) (noPre) (noLoop) 20 22 [.v (.agg [.int false .u8 qa, .int false .u8 qf, .int false .u8 qb, .int false .u8 qc, .int false .u8 qd, .int false .u8 qe, .int false .u8 qh, .int false .u8 ql, .int false .u16 sp, .int false .u16 pc, .int false .i64 ad, .int false .i64 va, .int false .i64 ki, .int false .i64 ba, .nilfn]), .v (.one (.int false .i64 n))] =
(.chk ((0 : Int) ≤ n ∧ n < (18 : Int))
(.br (n == (0 : Int))
 (.leaf (.v (.one (.int false .i64 (IntKind.i64.wrap qa)))))
 (.br (n == (1 : Int))
  (.leaf (.v (.one (.int false .i64 (IntKind.i64.wrap (bits BinOp.and IntKind.u8 qf (240 : Int)))))))
  (.br (n == (2 : Int))
   (.leaf (.v (.one (.int false .i64 (IntKind.i64.wrap qb)))))
   (.br (n == (3 : Int))
    (.leaf (.v (.one (.int false .i64 (IntKind.i64.wrap qc)))))
    (.br (n == (4 : Int))
     (.leaf (.v (.one (.int false .i64 (IntKind.i64.wrap qd)))))
     (.br (n == (5 : Int))
      (.leaf (.v (.one (.int false .i64 (IntKind.i64.wrap qe)))))
      (.br (n == (6 : Int))
       (.leaf (.v (.one (.int false .i64 (IntKind.i64.wrap qh)))))
       (.br (n == (7 : Int))
        (.leaf (.v (.one (.int false .i64 (IntKind.i64.wrap ql)))))
        (.br (n == (8 : Int))
         (.leaf (.v (.one (.int false .i64 (pairL (4 : Int) qa qf qb qc qd qe qh ql)))))
         (.br (n == (9 : Int))
          (.leaf (.v (.one (.int false .i64 (pairL (0 : Int) qa qf qb qc qd qe qh ql)))))
          (.br (n == (10 : Int))
           (.leaf (.v (.one (.int false .i64 (pairL (1 : Int) qa qf qb qc qd qe qh ql)))))
           (.br (n == (11 : Int))
            (.leaf (.v (.one (.int false .i64 (pairL (2 : Int) qa qf qb qc qd qe qh ql)))))
            (.br (n == (12 : Int))
             (.leaf (.v (.one (.int false .i64 (IntKind.i64.wrap sp)))))
             (.br (n == (13 : Int))
              (.leaf (.v (.one (.int false .i64 (IntKind.i64.wrap pc)))))
              (.br (n == (14 : Int))
               (.leaf (.v (.one (.int false .i64 (ad)))))
               (.br (n == (15 : Int))
                (.leaf (.v (.one (.int false .i64 (va)))))
                (.br (n == (16 : Int))
                 (.leaf (.v (.one (.int false .i64 (ki)))))
                 (.leaf (.v (.one (.int false .i64 (ba))))))))))))))))))))))) := by kernel_rfl
theorem nameC_ok (w0 : World) : nameC.ok Try.prog w0 := by
  refine ⟨⟨_, Try.func22, rfl⟩, fun args t ht => ?_⟩
  unfold nameC at ht
  simp only at ht
  split at ht
  · cases ht
    refine ⟨rfl, fun K hK => ⟨_, hK.2, rfl, fun w _ => ?_⟩⟩
    obtain ⟨hn, _⟩ := hK
    refine val_eq base2 (qctr_ok (etab_ok w)) (pre_none _ _) (loops_none _ _) (name_tree w _ _ _ _ _ _ _ _ _ _ _ _ _ _ _) rfl ?_
    simp only [T.holds, beq_iff_eq, beq_eq_false_iff_ne, bne_iff_ne, bne_eq_false_iff_eq, decide_eq_true_eq, decide_eq_false_iff_not, ne_eq, ge_iff_le, gt_iff_lt, Int.not_lt, Int.not_le]
    refine ⟨hn, ?_⟩
    repeat' (first | exact rfl | (intro _) | (refine And.intro ?_ ?_))
    all_goals first | omega | (refine γi _ ?_) | (refine γt _ _ ?_ ?_)
    all_goals simp [nameL, *]

  · cases ht
theorem one_tree (w : World) (op x : Int) (qa qf qb qc qd qe qh ql sp pc : Int) (ad va ki ba : Int) :
    callV Try.prog w (flatT Try.prog) (noCtr) (noPre) (noLoop) 20 23 [.v (.agg [.int false .u8 qa, .int false .u8 qf, .int false .u8 qb, .int false .u8 qc, .int false .u8 qd, .int false .u8 qe, .int false .u8 qh, .int false .u8 ql, .int false .u16 sp, .int false .u16 pc, .int false .i64 ad, .int false .i64 va, .int false .i64 ki, .int false .i64 ba, .nilfn]), .v (.one (.int false .i64 op)), .v (.one (.int false .i64 x))] =
(.br (op == (3 : Int))
 (.leaf (.v (.one (.int true .i64 (0)))))
 (.br (op == (4 : Int))
  (.leaf (.v (.one (.int false .i64 (IntKind.i64.wrap ((0 : Int) - x))))))
  (.br (op == (5 : Int))
   (.br (x == (0 : Int))
    (.leaf (.v (.one (.int true .i64 (1)))))
    (.leaf (.v (.one (.int true .i64 (0))))))
   (.leaf (.v (.one (.int false .i64 (bits BinOp.xor IntKind.i64 (-1 : Int) x)))))))) := by kernel_rfl
theorem oneC_ok (w0 : World) : oneC.ok Try.prog w0 := by
  refine ⟨⟨_, Try.func23, rfl⟩, fun args t ht => ?_⟩
  unfold oneC at ht
  simp only at ht
  split at ht
  · cases ht
    refine ⟨rfl, fun K hK => ⟨_, hK, rfl, fun w _ => ?_⟩⟩
    refine val_eq base2 (ctrs_none _ _) (pre_none _ _) (loops_none _ _) (one_tree w _ _ _ _ _ _ _ _ _ _ _ _ _ _ _ _) rfl ?_
    simp only [T.holds, beq_iff_eq, beq_eq_false_iff_ne, bne_iff_ne, bne_eq_false_iff_eq, decide_eq_true_eq, decide_eq_false_iff_not, ne_eq, ge_iff_le, gt_iff_lt, Int.not_lt, Int.not_le]
    repeat' (first | exact rfl | (intro _) | (refine And.intro ?_ ?_))
    all_goals first | omega | (refine γi _ ?_) | (refine γt _ _ ?_ ?_)
    all_goals simp [oneL, B2, peekL, F0, show IntKind.i64.wrap 0 = 0 from by decide, *]

  · cases ht
theorem etab2_ok (w0 : World) : Ctrs Try.prog w0 (ctrOf etab2) := ctrs_of fun c hc => by
  simp only [etab2, List.mem_cons, List.not_mem_nil, or_false] at hc
  rcases hc with rfl | rfl | rfl | rfl
  · exact takesC_ok w0
  · exact twoC_ok w0
  · exact nameC_ok w0
  · exact oneC_ok w0
end Go.Proofs.Ytmbahohmiecfiaa
