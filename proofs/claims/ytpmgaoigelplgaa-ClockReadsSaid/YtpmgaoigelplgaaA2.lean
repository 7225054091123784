/-
  Walks of the clock's great calls and of the document's, by computing: what is held, and cycles that go by, with their rounds. Bytes are below 256, days 0 to 511, a second's cycles below 2 to the 31st; no other condition.
-/
import Derived.Test.YtpmgaoigelplgaaA1
import Derived.Test.YtpmgaoigelplgaaSymA
namespace Go.Proofs.Ytpmgaoigelplgaa
open Go.RowKit sym
set_option linter.unusedVariables false
set_option linter.unusedSimpArgs false
set_option maxRecDepth 100000
structure t10P where
  s_ : Int
  m_ : Int
  hh_ : Int
  d_ : Int
  u_ : Int
  c_ : Bool
  t : Bool
  a0 : Int
  a1 : Int
  a2 : Int
  a3 : Int
  a4 : Int
structure t10X where
  s : Int
  m : Int
  h_ : Int
  d : Int
  u : Int
  c : Bool
def t10St  : t10P → t10X → ASt := fun ⟨s_, m_, hh_, d_, u_, c_, t, a0, a1, a2, a3, a4⟩ ⟨s, m, h_, d, u, c⟩ => ⟨slots (List.replicate 27 .any) [(2, .v (.one (.ptr 0 0))), (4, .v (.one (.ptr 1 0)))], [⟨[.int false .u8 s, .int false .u8 m, .int false .u8 h_, .int false .i64 d, .int false .i64 u, .bool false t, .bool false c, .int false .u8 a0, .int false .u8 a1, .int false .u8 a2, .int false .u8 a3, .int false .u8 a4], 26⟩, ⟨[.int true .u8 0, .int true .u8 0, .int true .u8 0, .int true .i64 0, .int true .i64 0, .bool true false, .bool true false, .int true .u8 0, .int true .u8 0, .int true .u8 0, .int true .u8 0, .int true .u8 0], 26⟩]⟩
def t10Fin  : t10P → t10X → ASt := fun ⟨s_, m_, hh_, d_, u_, c_, t, a0, a1, a2, a3, a4⟩ ⟨s, m, h_, d, u, c⟩ => ⟨slots (List.replicate 27 .any) [(2, .v (.one (.ptr 0 0))), (4, .v (.one (.ptr 1 0)))], [⟨[.int false .u8 s, .int false .u8 m, .int false .u8 h_, .int false .i64 d, .int false .i64 u, .bool false t, .bool false c, .int false .u8 a0, .int false .u8 a1, .int false .u8 a2, .int false .u8 a3, .int false .u8 a4], 26⟩, ⟨[.int true .u8 0, .int true .u8 0, .int true .u8 0, .int true .i64 0, .int true .i64 0, .bool true false, .bool true false, .int true .u8 0, .int true .u8 0, .int true .u8 0, .int true .u8 0, .int true .u8 0], 26⟩]⟩
def t10NxP : ASt → Option t10P := fun st_ => match hI st_ 0 0 with | none => none | some s_ => match hI st_ 0 1 with | none => none | some m_ => match hI st_ 0 2 with | none => none | some hh_ => match hI st_ 0 3 with | none => none | some d_ => match hI st_ 0 4 with | none => none | some u_ => match hB st_ 0 6 with | none => none | some c_ => match hB st_ 0 5 with | none => none | some t => match hI st_ 0 7 with | none => none | some a0 => match hI st_ 0 8 with | none => none | some a1 => match hI st_ 0 9 with | none => none | some a2 => match hI st_ 0 10 with | none => none | some a3 => match hI st_ 0 11 with | none => none | some a4 => some ⟨s_, m_, hh_, d_, u_, c_, t, a0, a1, a2, a3, a4⟩
def t10NxX : ASt → Option t10X := fun st_ => match hI st_ 0 0 with | none => none | some s => match hI st_ 0 1 with | none => none | some m => match hI st_ 0 2 with | none => none | some h_ => match hI st_ 0 3 with | none => none | some d => match hI st_ 0 4 with | none => none | some u => match hB st_ 0 6 with | none => none | some c => some ⟨s, m, h_, d, u, c⟩
structure t10Inv  (p : t10P) (x : t10X) : Prop where
  ok : Ck.Ok (⟨p.s_, p.m_, p.hh_, p.d_, p.c_⟩ : Ck.Hd)
  ub : p.u_ < 4294967296
  j : ∃ j : Nat, (⟨x.s, x.m, x.h_, x.d, x.c⟩ : Ck.Hd) = Ck.secs j (⟨p.s_, p.m_, p.hh_, p.d_, p.c_⟩ : Ck.Hd) ∧ x.u = p.u_ - j * 1048576 ∧ 0 ≤ x.u
structure t10Post  (p : t10P) (x : t10X) : Prop where
  hd : (⟨x.s, x.m, x.h_, x.d, x.c⟩ : Ck.Hd) = Ck.secs (p.u_ / 1048576).toNat (⟨p.s_, p.m_, p.hh_, p.d_, p.c_⟩ : Ck.Hd)
  u : x.u = p.u_ % 1048576
def t10Lp  : Lp := ⟨10, 0, fun s => match t10NxP s with
  | some p => match t10NxX s with
    | some x => some (loopT 0 2 (t10St  p) (t10Fin  p) (t10Inv  p) (t10Post  p) s x)
    | none => none
  | none => none⟩
structure t18P where
  s_ : Int
  m_ : Int
  hh_ : Int
  d_ : Int
  u_ : Int
  c_ : Bool
  t : Bool
  a0 : Int
  a1 : Int
  a2 : Int
  a3 : Int
  a4 : Int
structure t18X where
  s : Int
  m : Int
  h_ : Int
  d : Int
  u : Int
  c : Bool
def t18St  : t18P → t18X → ASt := fun ⟨s_, m_, hh_, d_, u_, c_, t, a0, a1, a2, a3, a4⟩ ⟨s, m, h_, d, u, c⟩ => ⟨slots (List.replicate 28 .any) [(2, .v (.one (.ptr 0 0))), (4, .v (.one (.ptr 1 0)))], [⟨[.int false .u8 s, .int false .u8 m, .int false .u8 h_, .int false .i64 d, .int false .i64 u, .bool false t, .bool false c, .int false .u8 a0, .int false .u8 a1, .int false .u8 a2, .int false .u8 a3, .int false .u8 a4], 30⟩, ⟨[.int true .u8 0, .int true .u8 0, .int true .u8 0, .int true .i64 0, .int true .i64 0, .bool true false, .bool true false, .int true .u8 0, .int true .u8 0, .int true .u8 0, .int true .u8 0, .int true .u8 0], 30⟩]⟩
def t18Fin  : t18P → t18X → ASt := fun ⟨s_, m_, hh_, d_, u_, c_, t, a0, a1, a2, a3, a4⟩ ⟨s, m, h_, d, u, c⟩ => ⟨slots (List.replicate 28 .any) [(2, .v (.one (.ptr 0 0))), (4, .v (.one (.ptr 1 0)))], [⟨[.int false .u8 s, .int false .u8 m, .int false .u8 h_, .int false .i64 d, .int false .i64 u, .bool false t, .bool false c, .int false .u8 a0, .int false .u8 a1, .int false .u8 a2, .int false .u8 a3, .int false .u8 a4], 30⟩, ⟨[.int true .u8 0, .int true .u8 0, .int true .u8 0, .int true .i64 0, .int true .i64 0, .bool true false, .bool true false, .int true .u8 0, .int true .u8 0, .int true .u8 0, .int true .u8 0, .int true .u8 0], 30⟩]⟩
def t18NxP : ASt → Option t18P := fun st_ => match hI st_ 0 0 with | none => none | some s_ => match hI st_ 0 1 with | none => none | some m_ => match hI st_ 0 2 with | none => none | some hh_ => match hI st_ 0 3 with | none => none | some d_ => match hI st_ 0 4 with | none => none | some u_ => match hB st_ 0 6 with | none => none | some c_ => match hB st_ 0 5 with | none => none | some t => match hI st_ 0 7 with | none => none | some a0 => match hI st_ 0 8 with | none => none | some a1 => match hI st_ 0 9 with | none => none | some a2 => match hI st_ 0 10 with | none => none | some a3 => match hI st_ 0 11 with | none => none | some a4 => some ⟨s_, m_, hh_, d_, u_, c_, t, a0, a1, a2, a3, a4⟩
def t18NxX : ASt → Option t18X := fun st_ => match hI st_ 0 0 with | none => none | some s => match hI st_ 0 1 with | none => none | some m => match hI st_ 0 2 with | none => none | some h_ => match hI st_ 0 3 with | none => none | some d => match hI st_ 0 4 with | none => none | some u => match hB st_ 0 6 with | none => none | some c => some ⟨s, m, h_, d, u, c⟩
structure t18Inv  (p : t18P) (x : t18X) : Prop where
  ok : Ck.Ok (⟨p.s_, p.m_, p.hh_, p.d_, p.c_⟩ : Ck.Hd)
  ub : p.u_ < 4294967296
  j : ∃ j : Nat, (⟨x.s, x.m, x.h_, x.d, x.c⟩ : Ck.Hd) = Ck.secs j (⟨p.s_, p.m_, p.hh_, p.d_, p.c_⟩ : Ck.Hd) ∧ x.u = p.u_ - j * 1048576 ∧ 0 ≤ x.u
structure t18Post  (p : t18P) (x : t18X) : Prop where
  hd : (⟨x.s, x.m, x.h_, x.d, x.c⟩ : Ck.Hd) = Ck.secs (p.u_ / 1048576).toNat (⟨p.s_, p.m_, p.hh_, p.d_, p.c_⟩ : Ck.Hd)
  u : x.u = p.u_ % 1048576
def t18Lp  : Lp := ⟨18, 0, fun s => match t18NxP s with
  | some p => match t18NxX s with
    | some x => some (loopT 0 2 (t18St  p) (t18Fin  p) (t18Inv  p) (t18Post  p) s x)
    | none => none
  | none => none⟩
theorem hold_tree (w : World) (s m h d u : Int) (t c : Bool) (a0 a1 a2 a3 a4 : Int) :
    callV Try.prog w (flatT Try.prog) (ctrOf table1) noLoop 20 16 [.v (.agg [.int false .u8 s, .int false .u8 m, .int false .u8 h, .int false .i64 d, .int false .i64 u, .bool false t, .bool false c, .int false .u8 a0, .int false .u8 a1, .int false .u8 a2, .int false .u8 a3, .int false .u8 a4])] =
(.chk ((6 : Int) = (6 : Int) ∨ (6 : Int) = (7 : Int))
(.chk ((7 : Int) = (6 : Int) ∨ (7 : Int) = (7 : Int))
(.leaf (.v (.agg [(.int false .u8 (s)), (.int false .u8 (m)), (.int false .u8 (h)), (.int false .i64 (d)), (.int false .i64 (u)), (.bool false (t)), (.bool false (c)), (.int false .u8 (s)), (.int false .u8 (m)), (.int false .u8 (h)), (.int false .u8 (IntKind.u8.wrap d)), (.int false .u8 (bits BinOp.or IntKind.u8
  (bits BinOp.or IntKind.u8
    (bits BinOp.and IntKind.u8 (IntKind.u8.wrap (d.fdiv ((2 : Int) ^ (8 : Nat)))) (1 : Int))
    (Ck.bt (6 : Int) t))
  (Ck.bt (7 : Int) c)))]))))) := by kernel_rfl
theorem rhold_tree (w : World) (s m h d u : Int) (t c : Bool) (a0 a1 a2 a3 a4 : Int) :
    callV Try.prog w (flatT Try.prog) (ctrOf table1) noLoop 20 20 [.v (.agg [.int false .u8 s, .int false .u8 m, .int false .u8 h, .int false .i64 d, .int false .i64 u, .bool false t, .bool false c, .int false .u8 a0, .int false .u8 a1, .int false .u8 a2, .int false .u8 a3, .int false .u8 a4])] =
(.br (t)
 (.br (c)
  (.leaf (.v (.agg [(.int false .u8 (s)), (.int false .u8 (m)), (.int false .u8 (h)), (.int false .i64 (d)), (.int false .i64 (u)), (.bool false (t)), (.bool false (c)), (.int false .u8 (s)), (.int false .u8 (m)), (.int false .u8 (h)), (.int false .u8 (IntKind.u8.wrap (d.tmod (256 : Int)))), (.int false .u8 (IntKind.u8.wrap
  (IntKind.i64.wrap
    (IntKind.i64.wrap ((IntKind.i64.wrap (d.tdiv (256 : Int))).tmod (2 : Int) + (64 : Int)) + (128 : Int)))))])))
  (.leaf (.v (.agg [(.int false .u8 (s)), (.int false .u8 (m)), (.int false .u8 (h)), (.int false .i64 (d)), (.int false .i64 (u)), (.bool false (t)), (.bool false (c)), (.int false .u8 (s)), (.int false .u8 (m)), (.int false .u8 (h)), (.int false .u8 (IntKind.u8.wrap (d.tmod (256 : Int)))), (.int false .u8 (IntKind.u8.wrap (IntKind.i64.wrap ((IntKind.i64.wrap (d.tdiv (256 : Int))).tmod (2 : Int) + (64 : Int)))))]))))
 (.br (c)
  (.leaf (.v (.agg [(.int false .u8 (s)), (.int false .u8 (m)), (.int false .u8 (h)), (.int false .i64 (d)), (.int false .i64 (u)), (.bool false (t)), (.bool false (c)), (.int false .u8 (s)), (.int false .u8 (m)), (.int false .u8 (h)), (.int false .u8 (IntKind.u8.wrap (d.tmod (256 : Int)))), (.int false .u8 (IntKind.u8.wrap (IntKind.i64.wrap ((IntKind.i64.wrap (d.tdiv (256 : Int))).tmod (2 : Int) + (128 : Int)))))])))
  (.leaf (.v (.agg [(.int false .u8 (s)), (.int false .u8 (m)), (.int false .u8 (h)), (.int false .i64 (d)), (.int false .i64 (u)), (.bool false (t)), (.bool false (c)), (.int false .u8 (s)), (.int false .u8 (m)), (.int false .u8 (h)), (.int false .u8 (IntKind.u8.wrap (d.tmod (256 : Int)))), (.int false .u8 (IntKind.u8.wrap ((IntKind.i64.wrap (d.tdiv (256 : Int))).tmod (2 : Int))))]))))) := by kernel_rfl
theorem t10step_tree (w : World)  (s_ : Int) (m_ : Int) (hh_ : Int) (d_ : Int) (u_ : Int) (c_ : Bool) (t : Bool) (a0 : Int) (a1 : Int) (a2 : Int) (a3 : Int) (a4 : Int) (s : Int) (m : Int) (h_ : Int) (d : Int) (u : Int) (c : Bool) :
    roundT Try.prog w (flatT Try.prog) (ctrOf table1) (callT Try.prog w (flatT Try.prog) (ctrOf table1) (noLoop) 20) ((noLoop) 10) (roundOf (bodyAt Try.prog 10 0)) 0 (t10St  ⟨s_, m_, hh_, d_, u_, c_, t, a0, a1, a2, a3, a4⟩) (t10Fin  ⟨s_, m_, hh_, d_, u_, c_, t, a0, a1, a2, a3, a4⟩) t10NxX t10NxX ⟨s, m, h_, d, u, c⟩ =
(.br (decide (u ≥ (1048576 : Int)))
 (.br (bits BinOp.and IntKind.u8 (IntKind.u8.wrap (s + (1 : Int))) (63 : Int) != (60 : Int))
  (.chk (IntKind.u8 = IntKind.u8 ∧
  bits BinOp.and IntKind.u8 (IntKind.u8.wrap (s + (1 : Int))) (63 : Int) =
    bits BinOp.and IntKind.u8 (IntKind.u8.wrap (s + (1 : Int))) (63 : Int))
  (.chk (IntKind.u8 = IntKind.u8 ∧ m = m)
  (.chk (IntKind.u8 = IntKind.u8 ∧ h_ = h_)
  (.chk (IntKind.i64 = IntKind.i64 ∧ d = d)
  (.chk (IntKind.i64 = IntKind.i64 ∧ IntKind.i64.wrap (u - (1048576 : Int)) = IntKind.i64.wrap (u - (1048576 : Int)))
  (.chk (t = t)
  (.chk (c = c)
  (.chk (IntKind.u8 = IntKind.u8 ∧ a0 = a0)
  (.chk (IntKind.u8 = IntKind.u8 ∧ a1 = a1)
  (.chk (IntKind.u8 = IntKind.u8 ∧ a2 = a2)
  (.chk (IntKind.u8 = IntKind.u8 ∧ a3 = a3)
  (.chk (IntKind.u8 = IntKind.u8 ∧ a4 = a4)
  (.chk (IntKind.u8 = IntKind.u8 ∧ (0 : Int) = (0 : Int))
  (.chk (IntKind.u8 = IntKind.u8 ∧ (0 : Int) = (0 : Int))
  (.chk (IntKind.u8 = IntKind.u8 ∧ (0 : Int) = (0 : Int))
  (.chk (IntKind.i64 = IntKind.i64 ∧ (0 : Int) = (0 : Int))
  (.chk (IntKind.i64 = IntKind.i64 ∧ (0 : Int) = (0 : Int))
  (.chk (false = false)
  (.chk (false = false)
  (.chk (IntKind.u8 = IntKind.u8 ∧ (0 : Int) = (0 : Int))
  (.chk (IntKind.u8 = IntKind.u8 ∧ (0 : Int) = (0 : Int))
  (.chk (IntKind.u8 = IntKind.u8 ∧ (0 : Int) = (0 : Int))
  (.chk (IntKind.u8 = IntKind.u8 ∧ (0 : Int) = (0 : Int))
  (.chk (IntKind.u8 = IntKind.u8 ∧ (0 : Int) = (0 : Int))
  (.leaf (.inl ⟨bits BinOp.and IntKind.u8 (IntKind.u8.wrap (s + (1 : Int))) (63 : Int), m, h_, d, IntKind.i64.wrap (u - (1048576 : Int)), c⟩))))))))))))))))))))))))))
  (.br (bits BinOp.and IntKind.u8 (IntKind.u8.wrap (m + (1 : Int))) (63 : Int) != (60 : Int))
   (.chk (IntKind.u8 = IntKind.u8 ∧ (0 : Int) = (0 : Int))
   (.chk (IntKind.u8 = IntKind.u8 ∧
  bits BinOp.and IntKind.u8 (IntKind.u8.wrap (m + (1 : Int))) (63 : Int) =
    bits BinOp.and IntKind.u8 (IntKind.u8.wrap (m + (1 : Int))) (63 : Int))
   (.chk (IntKind.u8 = IntKind.u8 ∧ h_ = h_)
   (.chk (IntKind.i64 = IntKind.i64 ∧ d = d)
   (.chk (IntKind.i64 = IntKind.i64 ∧ IntKind.i64.wrap (u - (1048576 : Int)) = IntKind.i64.wrap (u - (1048576 : Int)))
   (.chk (t = t)
   (.chk (c = c)
   (.chk (IntKind.u8 = IntKind.u8 ∧ a0 = a0)
   (.chk (IntKind.u8 = IntKind.u8 ∧ a1 = a1)
   (.chk (IntKind.u8 = IntKind.u8 ∧ a2 = a2)
   (.chk (IntKind.u8 = IntKind.u8 ∧ a3 = a3)
   (.chk (IntKind.u8 = IntKind.u8 ∧ a4 = a4)
   (.chk (IntKind.u8 = IntKind.u8 ∧ (0 : Int) = (0 : Int))
   (.chk (IntKind.u8 = IntKind.u8 ∧ (0 : Int) = (0 : Int))
   (.chk (IntKind.u8 = IntKind.u8 ∧ (0 : Int) = (0 : Int))
   (.chk (IntKind.i64 = IntKind.i64 ∧ (0 : Int) = (0 : Int))
   (.chk (IntKind.i64 = IntKind.i64 ∧ (0 : Int) = (0 : Int))
   (.chk (false = false)
   (.chk (false = false)
   (.chk (IntKind.u8 = IntKind.u8 ∧ (0 : Int) = (0 : Int))
   (.chk (IntKind.u8 = IntKind.u8 ∧ (0 : Int) = (0 : Int))
   (.chk (IntKind.u8 = IntKind.u8 ∧ (0 : Int) = (0 : Int))
   (.chk (IntKind.u8 = IntKind.u8 ∧ (0 : Int) = (0 : Int))
   (.chk (IntKind.u8 = IntKind.u8 ∧ (0 : Int) = (0 : Int))
   (.leaf (.inl ⟨(0 : Int), bits BinOp.and IntKind.u8 (IntKind.u8.wrap (m + (1 : Int))) (63 : Int), h_, d, IntKind.i64.wrap (u - (1048576 : Int)), c⟩))))))))))))))))))))))))))
   (.br (bits BinOp.and IntKind.u8 (IntKind.u8.wrap (h_ + (1 : Int))) (31 : Int) != (24 : Int))
    (.chk (IntKind.u8 = IntKind.u8 ∧ (0 : Int) = (0 : Int))
    (.chk (IntKind.u8 = IntKind.u8 ∧ (0 : Int) = (0 : Int))
    (.chk (IntKind.u8 = IntKind.u8 ∧
  bits BinOp.and IntKind.u8 (IntKind.u8.wrap (h_ + (1 : Int))) (31 : Int) =
    bits BinOp.and IntKind.u8 (IntKind.u8.wrap (h_ + (1 : Int))) (31 : Int))
    (.chk (IntKind.i64 = IntKind.i64 ∧ d = d)
    (.chk (IntKind.i64 = IntKind.i64 ∧ IntKind.i64.wrap (u - (1048576 : Int)) = IntKind.i64.wrap (u - (1048576 : Int)))
    (.chk (t = t)
    (.chk (c = c)
    (.chk (IntKind.u8 = IntKind.u8 ∧ a0 = a0)
    (.chk (IntKind.u8 = IntKind.u8 ∧ a1 = a1)
    (.chk (IntKind.u8 = IntKind.u8 ∧ a2 = a2)
    (.chk (IntKind.u8 = IntKind.u8 ∧ a3 = a3)
    (.chk (IntKind.u8 = IntKind.u8 ∧ a4 = a4)
    (.chk (IntKind.u8 = IntKind.u8 ∧ (0 : Int) = (0 : Int))
    (.chk (IntKind.u8 = IntKind.u8 ∧ (0 : Int) = (0 : Int))
    (.chk (IntKind.u8 = IntKind.u8 ∧ (0 : Int) = (0 : Int))
    (.chk (IntKind.i64 = IntKind.i64 ∧ (0 : Int) = (0 : Int))
    (.chk (IntKind.i64 = IntKind.i64 ∧ (0 : Int) = (0 : Int))
    (.chk (false = false)
    (.chk (false = false)
    (.chk (IntKind.u8 = IntKind.u8 ∧ (0 : Int) = (0 : Int))
    (.chk (IntKind.u8 = IntKind.u8 ∧ (0 : Int) = (0 : Int))
    (.chk (IntKind.u8 = IntKind.u8 ∧ (0 : Int) = (0 : Int))
    (.chk (IntKind.u8 = IntKind.u8 ∧ (0 : Int) = (0 : Int))
    (.chk (IntKind.u8 = IntKind.u8 ∧ (0 : Int) = (0 : Int))
    (.leaf (.inl ⟨(0 : Int), (0 : Int), bits BinOp.and IntKind.u8 (IntKind.u8.wrap (h_ + (1 : Int))) (31 : Int), d, IntKind.i64.wrap (u - (1048576 : Int)), c⟩))))))))))))))))))))))))))
    (.br (IntKind.i64.wrap (d + (1 : Int)) == (512 : Int))
     (.chk (IntKind.u8 = IntKind.u8 ∧ (0 : Int) = (0 : Int))
     (.chk (IntKind.u8 = IntKind.u8 ∧ (0 : Int) = (0 : Int))
     (.chk (IntKind.u8 = IntKind.u8 ∧ (0 : Int) = (0 : Int))
     (.chk (IntKind.i64 = IntKind.i64 ∧ (0 : Int) = (0 : Int))
     (.chk (IntKind.i64 = IntKind.i64 ∧ IntKind.i64.wrap (u - (1048576 : Int)) = IntKind.i64.wrap (u - (1048576 : Int)))
     (.chk (t = t)
     (.chk (true = true)
     (.chk (IntKind.u8 = IntKind.u8 ∧ a0 = a0)
     (.chk (IntKind.u8 = IntKind.u8 ∧ a1 = a1)
     (.chk (IntKind.u8 = IntKind.u8 ∧ a2 = a2)
     (.chk (IntKind.u8 = IntKind.u8 ∧ a3 = a3)
     (.chk (IntKind.u8 = IntKind.u8 ∧ a4 = a4)
     (.chk (IntKind.u8 = IntKind.u8 ∧ (0 : Int) = (0 : Int))
     (.chk (IntKind.u8 = IntKind.u8 ∧ (0 : Int) = (0 : Int))
     (.chk (IntKind.u8 = IntKind.u8 ∧ (0 : Int) = (0 : Int))
     (.chk (IntKind.i64 = IntKind.i64 ∧ (0 : Int) = (0 : Int))
     (.chk (IntKind.i64 = IntKind.i64 ∧ (0 : Int) = (0 : Int))
     (.chk (false = false)
     (.chk (false = false)
     (.chk (IntKind.u8 = IntKind.u8 ∧ (0 : Int) = (0 : Int))
     (.chk (IntKind.u8 = IntKind.u8 ∧ (0 : Int) = (0 : Int))
     (.chk (IntKind.u8 = IntKind.u8 ∧ (0 : Int) = (0 : Int))
     (.chk (IntKind.u8 = IntKind.u8 ∧ (0 : Int) = (0 : Int))
     (.chk (IntKind.u8 = IntKind.u8 ∧ (0 : Int) = (0 : Int))
     (.leaf (.inl ⟨(0 : Int), (0 : Int), (0 : Int), (0 : Int), IntKind.i64.wrap (u - (1048576 : Int)), true⟩))))))))))))))))))))))))))
     (.chk (IntKind.u8 = IntKind.u8 ∧ (0 : Int) = (0 : Int))
     (.chk (IntKind.u8 = IntKind.u8 ∧ (0 : Int) = (0 : Int))
     (.chk (IntKind.u8 = IntKind.u8 ∧ (0 : Int) = (0 : Int))
     (.chk (IntKind.i64 = IntKind.i64 ∧ IntKind.i64.wrap (d + (1 : Int)) = IntKind.i64.wrap (d + (1 : Int)))
     (.chk (IntKind.i64 = IntKind.i64 ∧ IntKind.i64.wrap (u - (1048576 : Int)) = IntKind.i64.wrap (u - (1048576 : Int)))
     (.chk (t = t)
     (.chk (c = c)
     (.chk (IntKind.u8 = IntKind.u8 ∧ a0 = a0)
     (.chk (IntKind.u8 = IntKind.u8 ∧ a1 = a1)
     (.chk (IntKind.u8 = IntKind.u8 ∧ a2 = a2)
     (.chk (IntKind.u8 = IntKind.u8 ∧ a3 = a3)
     (.chk (IntKind.u8 = IntKind.u8 ∧ a4 = a4)
     (.chk (IntKind.u8 = IntKind.u8 ∧ (0 : Int) = (0 : Int))
     (.chk (IntKind.u8 = IntKind.u8 ∧ (0 : Int) = (0 : Int))
     (.chk (IntKind.u8 = IntKind.u8 ∧ (0 : Int) = (0 : Int))
     (.chk (IntKind.i64 = IntKind.i64 ∧ (0 : Int) = (0 : Int))
     (.chk (IntKind.i64 = IntKind.i64 ∧ (0 : Int) = (0 : Int))
     (.chk (false = false)
     (.chk (false = false)
     (.chk (IntKind.u8 = IntKind.u8 ∧ (0 : Int) = (0 : Int))
     (.chk (IntKind.u8 = IntKind.u8 ∧ (0 : Int) = (0 : Int))
     (.chk (IntKind.u8 = IntKind.u8 ∧ (0 : Int) = (0 : Int))
     (.chk (IntKind.u8 = IntKind.u8 ∧ (0 : Int) = (0 : Int))
     (.chk (IntKind.u8 = IntKind.u8 ∧ (0 : Int) = (0 : Int))
     (.leaf (.inl ⟨(0 : Int), (0 : Int), (0 : Int), IntKind.i64.wrap (d + (1 : Int)), IntKind.i64.wrap (u - (1048576 : Int)), c⟩))))))))))))))))))))))))))))))
 (.chk (IntKind.u8 = IntKind.u8 ∧ s = s)
 (.chk (IntKind.u8 = IntKind.u8 ∧ m = m)
 (.chk (IntKind.u8 = IntKind.u8 ∧ h_ = h_)
 (.chk (IntKind.i64 = IntKind.i64 ∧ d = d)
 (.chk (IntKind.i64 = IntKind.i64 ∧ u = u)
 (.chk (t = t)
 (.chk (c = c)
 (.chk (IntKind.u8 = IntKind.u8 ∧ a0 = a0)
 (.chk (IntKind.u8 = IntKind.u8 ∧ a1 = a1)
 (.chk (IntKind.u8 = IntKind.u8 ∧ a2 = a2)
 (.chk (IntKind.u8 = IntKind.u8 ∧ a3 = a3)
 (.chk (IntKind.u8 = IntKind.u8 ∧ a4 = a4)
 (.chk (IntKind.u8 = IntKind.u8 ∧ (0 : Int) = (0 : Int))
 (.chk (IntKind.u8 = IntKind.u8 ∧ (0 : Int) = (0 : Int))
 (.chk (IntKind.u8 = IntKind.u8 ∧ (0 : Int) = (0 : Int))
 (.chk (IntKind.i64 = IntKind.i64 ∧ (0 : Int) = (0 : Int))
 (.chk (IntKind.i64 = IntKind.i64 ∧ (0 : Int) = (0 : Int))
 (.chk (false = false)
 (.chk (false = false)
 (.chk (IntKind.u8 = IntKind.u8 ∧ (0 : Int) = (0 : Int))
 (.chk (IntKind.u8 = IntKind.u8 ∧ (0 : Int) = (0 : Int))
 (.chk (IntKind.u8 = IntKind.u8 ∧ (0 : Int) = (0 : Int))
 (.chk (IntKind.u8 = IntKind.u8 ∧ (0 : Int) = (0 : Int))
 (.chk (IntKind.u8 = IntKind.u8 ∧ (0 : Int) = (0 : Int))
 (.leaf (.inr ⟨s, m, h_, d, u, c⟩))))))))))))))))))))))))))) := by kernel_rfl
theorem tick_tree (w : World) (s m h d u : Int) (t c : Bool) (a0 a1 a2 a3 a4 : Int) (n : Int) :
    callV Try.prog w (flatT Try.prog) (ctrOf table1) (lpOf Try.prog [t10Lp]) 20 10 [.v (.agg [.int false .u8 s, .int false .u8 m, .int false .u8 h, .int false .i64 d, .int false .i64 u, .bool false t, .bool false c, .int false .u8 a0, .int false .u8 a1, .int false .u8 a2, .int false .u8 a3, .int false .u8 a4]), .v (.one (.int false .i64 n))] =
(.br (t)
 (.leaf (.v (.agg [(.int false .u8 (s)), (.int false .u8 (m)), (.int false .u8 (h)), (.int false .i64 (d)), (.int false .i64 (u)), (.bool false (t)), (.bool false (c)), (.int false .u8 (a0)), (.int false .u8 (a1)), (.int false .u8 (a2)), (.int false .u8 (a3)), (.int false .u8 (a4))])))
 (.br (decide (n < (1 : Int)))
  (.leaf (.v (.agg [(.int false .u8 (s)), (.int false .u8 (m)), (.int false .u8 (h)), (.int false .i64 (d)), (.int false .i64 (u)), (.bool false (t)), (.bool false (c)), (.int false .u8 (a0)), (.int false .u8 (a1)), (.int false .u8 (a2)), (.int false .u8 (a3)), (.int false .u8 (a4))])))
  (.chk (sym.bodyAt Go.Proofs.Try.prog (10 : Go.FuncId) (0 : Nat) = sym.bodyAt Go.Proofs.Try.prog (10 : Go.FuncId) (0 : Nat))
  (.chk (IntKind.u8 = IntKind.u8 ∧ s = s)
  (.chk (IntKind.u8 = IntKind.u8 ∧ m = m)
  (.chk (IntKind.u8 = IntKind.u8 ∧ h = h)
  (.chk (IntKind.i64 = IntKind.i64 ∧ d = d)
  (.chk (IntKind.i64 = IntKind.i64 ∧
  IntKind.i64.wrap
      (u +
        if false = true then if (1073741824 : Int) > n then (1073741824 : Int) else n
        else if (1073741824 : Int) < n then (1073741824 : Int) else n) =
    IntKind.i64.wrap
      (u +
        if false = true then if (1073741824 : Int) > n then (1073741824 : Int) else n
        else if (1073741824 : Int) < n then (1073741824 : Int) else n))
  (.chk (t = t)
  (.chk (c = c)
  (.chk (IntKind.u8 = IntKind.u8 ∧ a0 = a0)
  (.chk (IntKind.u8 = IntKind.u8 ∧ a1 = a1)
  (.chk (IntKind.u8 = IntKind.u8 ∧ a2 = a2)
  (.chk (IntKind.u8 = IntKind.u8 ∧ a3 = a3)
  (.chk (IntKind.u8 = IntKind.u8 ∧ a4 = a4)
  (.chk (IntKind.u8 = IntKind.u8 ∧ (0 : Int) = (0 : Int))
  (.chk (IntKind.u8 = IntKind.u8 ∧ (0 : Int) = (0 : Int))
  (.chk (IntKind.u8 = IntKind.u8 ∧ (0 : Int) = (0 : Int))
  (.chk (IntKind.i64 = IntKind.i64 ∧ (0 : Int) = (0 : Int))
  (.chk (IntKind.i64 = IntKind.i64 ∧ (0 : Int) = (0 : Int))
  (.chk (false = false)
  (.chk (false = false)
  (.chk (IntKind.u8 = IntKind.u8 ∧ (0 : Int) = (0 : Int))
  (.chk (IntKind.u8 = IntKind.u8 ∧ (0 : Int) = (0 : Int))
  (.chk (IntKind.u8 = IntKind.u8 ∧ (0 : Int) = (0 : Int))
  (.chk (IntKind.u8 = IntKind.u8 ∧ (0 : Int) = (0 : Int))
  (.chk (IntKind.u8 = IntKind.u8 ∧ (0 : Int) = (0 : Int))
  (.chk (t10Inv
  { s_ := s, m_ := m, hh_ := h, d_ := d,
    u_ :=
      IntKind.i64.wrap
        (u +
          if false = true then if (1073741824 : Int) > n then (1073741824 : Int) else n
          else if (1073741824 : Int) < n then (1073741824 : Int) else n),
    c_ := c, t := t, a0 := a0, a1 := a1, a2 := a2, a3 := a3, a4 := a4 }
  { s := s, m := m, h_ := h, d := d,
    u :=
      IntKind.i64.wrap
        (u +
          if false = true then if (1073741824 : Int) > n then (1073741824 : Int) else n
          else if (1073741824 : Int) < n then (1073741824 : Int) else n),
    c := c })
  (.all fun x : sym.Got t10X
  (t10Post
    { s_ := s, m_ := m, hh_ := h, d_ := d,
      u_ :=
        IntKind.i64.wrap
          (u +
            if false = true then if (1073741824 : Int) > n then (1073741824 : Int) else n
            else if (1073741824 : Int) < n then (1073741824 : Int) else n),
      c_ := c, t := t, a0 := a0, a1 := a1, a2 := a2, a3 := a3, a4 := a4 }) =>
   (.leaf (.v (.agg [(.int false .u8 (x.1.1)), (.int false .u8 (x.1.2)), (.int false .u8 (x.1.3)), (.int false .i64 (x.1.4)), (.int false .i64 (x.1.5)), (.bool false (t)), (.bool false (x.1.6)), (.int false .u8 (a0)), (.int false .u8 (a1)), (.int false .u8 (a2)), (.int false .u8 (a3)), (.int false .u8 (a4))])))))))))))))))))))))))))))))))) := by kernel_rfl
theorem t18step_tree (w : World)  (s_ : Int) (m_ : Int) (hh_ : Int) (d_ : Int) (u_ : Int) (c_ : Bool) (t : Bool) (a0 : Int) (a1 : Int) (a2 : Int) (a3 : Int) (a4 : Int) (s : Int) (m : Int) (h_ : Int) (d : Int) (u : Int) (c : Bool) :
    roundT Try.prog w (flatT Try.prog) (ctrOf table1) (callT Try.prog w (flatT Try.prog) (ctrOf table1) (noLoop) 20) ((noLoop) 18) (roundOf (bodyAt Try.prog 18 0)) 0 (t18St  ⟨s_, m_, hh_, d_, u_, c_, t, a0, a1, a2, a3, a4⟩) (t18Fin  ⟨s_, m_, hh_, d_, u_, c_, t, a0, a1, a2, a3, a4⟩) t18NxX t18NxX ⟨s, m, h_, d, u, c⟩ =
(.br (decide (u ≥ (1048576 : Int)))
 (.chk (Ck.B s ∧
  Ck.B m ∧ Ck.B h_ ∧ (0 : Int) ≤ d ∧ d < (512 : Int))
 (.chk (IntKind.u8 = IntKind.u8 ∧
  (Ck.next { s := s, m := m, h := h_, d := d, cy := c }).s =
    (Ck.next { s := s, m := m, h := h_, d := d, cy := c }).s)
 (.chk (IntKind.u8 = IntKind.u8 ∧
  (Ck.next { s := s, m := m, h := h_, d := d, cy := c }).m =
    (Ck.next { s := s, m := m, h := h_, d := d, cy := c }).m)
 (.chk (IntKind.u8 = IntKind.u8 ∧
  (Ck.next { s := s, m := m, h := h_, d := d, cy := c }).h =
    (Ck.next { s := s, m := m, h := h_, d := d, cy := c }).h)
 (.chk (IntKind.i64 = IntKind.i64 ∧
  (Ck.next { s := s, m := m, h := h_, d := d, cy := c }).d =
    (Ck.next { s := s, m := m, h := h_, d := d, cy := c }).d)
 (.chk (IntKind.i64 = IntKind.i64 ∧ IntKind.i64.wrap (u - (1048576 : Int)) = IntKind.i64.wrap (u - (1048576 : Int)))
 (.chk (t = t)
 (.chk ((Ck.next { s := s, m := m, h := h_, d := d, cy := c }).cy =
  (Ck.next { s := s, m := m, h := h_, d := d, cy := c }).cy)
 (.chk (IntKind.u8 = IntKind.u8 ∧ a0 = a0)
 (.chk (IntKind.u8 = IntKind.u8 ∧ a1 = a1)
 (.chk (IntKind.u8 = IntKind.u8 ∧ a2 = a2)
 (.chk (IntKind.u8 = IntKind.u8 ∧ a3 = a3)
 (.chk (IntKind.u8 = IntKind.u8 ∧ a4 = a4)
 (.chk (IntKind.u8 = IntKind.u8 ∧ (0 : Int) = (0 : Int))
 (.chk (IntKind.u8 = IntKind.u8 ∧ (0 : Int) = (0 : Int))
 (.chk (IntKind.u8 = IntKind.u8 ∧ (0 : Int) = (0 : Int))
 (.chk (IntKind.i64 = IntKind.i64 ∧ (0 : Int) = (0 : Int))
 (.chk (IntKind.i64 = IntKind.i64 ∧ (0 : Int) = (0 : Int))
 (.chk (false = false)
 (.chk (false = false)
 (.chk (IntKind.u8 = IntKind.u8 ∧ (0 : Int) = (0 : Int))
 (.chk (IntKind.u8 = IntKind.u8 ∧ (0 : Int) = (0 : Int))
 (.chk (IntKind.u8 = IntKind.u8 ∧ (0 : Int) = (0 : Int))
 (.chk (IntKind.u8 = IntKind.u8 ∧ (0 : Int) = (0 : Int))
 (.chk (IntKind.u8 = IntKind.u8 ∧ (0 : Int) = (0 : Int))
 (.leaf (.inl ⟨(Ck.next { s := s, m := m, h := h_, d := d, cy := c }).s, (Ck.next { s := s, m := m, h := h_, d := d, cy := c }).m, (Ck.next { s := s, m := m, h := h_, d := d, cy := c }).h, (Ck.next { s := s, m := m, h := h_, d := d, cy := c }).d, IntKind.i64.wrap (u - (1048576 : Int)), (Ck.next { s := s, m := m, h := h_, d := d, cy := c }).cy⟩)))))))))))))))))))))))))))
 (.chk (IntKind.u8 = IntKind.u8 ∧ s = s)
 (.chk (IntKind.u8 = IntKind.u8 ∧ m = m)
 (.chk (IntKind.u8 = IntKind.u8 ∧ h_ = h_)
 (.chk (IntKind.i64 = IntKind.i64 ∧ d = d)
 (.chk (IntKind.i64 = IntKind.i64 ∧ u = u)
 (.chk (t = t)
 (.chk (c = c)
 (.chk (IntKind.u8 = IntKind.u8 ∧ a0 = a0)
 (.chk (IntKind.u8 = IntKind.u8 ∧ a1 = a1)
 (.chk (IntKind.u8 = IntKind.u8 ∧ a2 = a2)
 (.chk (IntKind.u8 = IntKind.u8 ∧ a3 = a3)
 (.chk (IntKind.u8 = IntKind.u8 ∧ a4 = a4)
 (.chk (IntKind.u8 = IntKind.u8 ∧ (0 : Int) = (0 : Int))
 (.chk (IntKind.u8 = IntKind.u8 ∧ (0 : Int) = (0 : Int))
 (.chk (IntKind.u8 = IntKind.u8 ∧ (0 : Int) = (0 : Int))
 (.chk (IntKind.i64 = IntKind.i64 ∧ (0 : Int) = (0 : Int))
 (.chk (IntKind.i64 = IntKind.i64 ∧ (0 : Int) = (0 : Int))
 (.chk (false = false)
 (.chk (false = false)
 (.chk (IntKind.u8 = IntKind.u8 ∧ (0 : Int) = (0 : Int))
 (.chk (IntKind.u8 = IntKind.u8 ∧ (0 : Int) = (0 : Int))
 (.chk (IntKind.u8 = IntKind.u8 ∧ (0 : Int) = (0 : Int))
 (.chk (IntKind.u8 = IntKind.u8 ∧ (0 : Int) = (0 : Int))
 (.chk (IntKind.u8 = IntKind.u8 ∧ (0 : Int) = (0 : Int))
 (.leaf (.inr ⟨s, m, h_, d, u, c⟩))))))))))))))))))))))))))) := by kernel_rfl
theorem rtick_tree (w : World) (s m h d u : Int) (t c : Bool) (a0 a1 a2 a3 a4 : Int) (n : Int) :
    callV Try.prog w (flatT Try.prog) (ctrOf table1) (lpOf Try.prog [t18Lp]) 20 18 [.v (.agg [.int false .u8 s, .int false .u8 m, .int false .u8 h, .int false .i64 d, .int false .i64 u, .bool false t, .bool false c, .int false .u8 a0, .int false .u8 a1, .int false .u8 a2, .int false .u8 a3, .int false .u8 a4]), .v (.one (.int false .i64 n))] =
(.br (t)
 (.leaf (.v (.agg [(.int false .u8 (s)), (.int false .u8 (m)), (.int false .u8 (h)), (.int false .i64 (d)), (.int false .i64 (u)), (.bool false (t)), (.bool false (c)), (.int false .u8 (a0)), (.int false .u8 (a1)), (.int false .u8 (a2)), (.int false .u8 (a3)), (.int false .u8 (a4))])))
 (.br (decide (n < (1 : Int)))
  (.leaf (.v (.agg [(.int false .u8 (s)), (.int false .u8 (m)), (.int false .u8 (h)), (.int false .i64 (d)), (.int false .i64 (u)), (.bool false (t)), (.bool false (c)), (.int false .u8 (a0)), (.int false .u8 (a1)), (.int false .u8 (a2)), (.int false .u8 (a3)), (.int false .u8 (a4))])))
  (.chk (sym.bodyAt Go.Proofs.Try.prog (18 : Go.FuncId) (0 : Nat) = sym.bodyAt Go.Proofs.Try.prog (18 : Go.FuncId) (0 : Nat))
  (.chk (IntKind.u8 = IntKind.u8 ∧ s = s)
  (.chk (IntKind.u8 = IntKind.u8 ∧ m = m)
  (.chk (IntKind.u8 = IntKind.u8 ∧ h = h)
  (.chk (IntKind.i64 = IntKind.i64 ∧ d = d)
  (.chk (IntKind.i64 = IntKind.i64 ∧
  IntKind.i64.wrap
      (u +
        if false = true then if (1073741824 : Int) > n then (1073741824 : Int) else n
        else if (1073741824 : Int) < n then (1073741824 : Int) else n) =
    IntKind.i64.wrap
      (u +
        if false = true then if (1073741824 : Int) > n then (1073741824 : Int) else n
        else if (1073741824 : Int) < n then (1073741824 : Int) else n))
  (.chk (t = t)
  (.chk (c = c)
  (.chk (IntKind.u8 = IntKind.u8 ∧ a0 = a0)
  (.chk (IntKind.u8 = IntKind.u8 ∧ a1 = a1)
  (.chk (IntKind.u8 = IntKind.u8 ∧ a2 = a2)
  (.chk (IntKind.u8 = IntKind.u8 ∧ a3 = a3)
  (.chk (IntKind.u8 = IntKind.u8 ∧ a4 = a4)
  (.chk (IntKind.u8 = IntKind.u8 ∧ (0 : Int) = (0 : Int))
  (.chk (IntKind.u8 = IntKind.u8 ∧ (0 : Int) = (0 : Int))
  (.chk (IntKind.u8 = IntKind.u8 ∧ (0 : Int) = (0 : Int))
  (.chk (IntKind.i64 = IntKind.i64 ∧ (0 : Int) = (0 : Int))
  (.chk (IntKind.i64 = IntKind.i64 ∧ (0 : Int) = (0 : Int))
  (.chk (false = false)
  (.chk (false = false)
  (.chk (IntKind.u8 = IntKind.u8 ∧ (0 : Int) = (0 : Int))
  (.chk (IntKind.u8 = IntKind.u8 ∧ (0 : Int) = (0 : Int))
  (.chk (IntKind.u8 = IntKind.u8 ∧ (0 : Int) = (0 : Int))
  (.chk (IntKind.u8 = IntKind.u8 ∧ (0 : Int) = (0 : Int))
  (.chk (IntKind.u8 = IntKind.u8 ∧ (0 : Int) = (0 : Int))
  (.chk (t18Inv
  { s_ := s, m_ := m, hh_ := h, d_ := d,
    u_ :=
      IntKind.i64.wrap
        (u +
          if false = true then if (1073741824 : Int) > n then (1073741824 : Int) else n
          else if (1073741824 : Int) < n then (1073741824 : Int) else n),
    c_ := c, t := t, a0 := a0, a1 := a1, a2 := a2, a3 := a3, a4 := a4 }
  { s := s, m := m, h_ := h, d := d,
    u :=
      IntKind.i64.wrap
        (u +
          if false = true then if (1073741824 : Int) > n then (1073741824 : Int) else n
          else if (1073741824 : Int) < n then (1073741824 : Int) else n),
    c := c })
  (.all fun x : sym.Got t18X
  (t18Post
    { s_ := s, m_ := m, hh_ := h, d_ := d,
      u_ :=
        IntKind.i64.wrap
          (u +
            if false = true then if (1073741824 : Int) > n then (1073741824 : Int) else n
            else if (1073741824 : Int) < n then (1073741824 : Int) else n),
      c_ := c, t := t, a0 := a0, a1 := a1, a2 := a2, a3 := a3, a4 := a4 }) =>
   (.leaf (.v (.agg [(.int false .u8 (x.1.1)), (.int false .u8 (x.1.2)), (.int false .u8 (x.1.3)), (.int false .i64 (x.1.4)), (.int false .i64 (x.1.5)), (.bool false (t)), (.bool false (x.1.6)), (.int false .u8 (a0)), (.int false .u8 (a1)), (.int false .u8 (a2)), (.int false .u8 (a3)), (.int false .u8 (a4))])))))))))))))))))))))))))))))))) := by kernel_rfl
theorem hold_any (w : World) (s m h d u : Int) (t c : Bool) (a0 a1 a2 a3 a4 : Int) (bd : 0 ≤ d ∧ d < 512) : Calls Try.prog 16 #[.agg #[.int .u8 s, .int .u8 m, .int .u8 h, .int .i64 d, .int .i64 u, .bool t, .bool c, .int .u8 a0, .int .u8 a1, .int .u8 a2, .int .u8 a3, .int .u8 a4]] w fun e w' => e = .returned (.agg #[.int .u8 s, .int .u8 m, .int .u8 h, .int .i64 d, .int .i64 u, .bool t, .bool c, .int .u8 s, .int .u8 m, .int .u8 h, .int .u8 (d % 256), .int .u8 (Ck.top d t c)]) ∧ Below w.heap.size w w' := by
  refine val_eq base2 (table1_ok w) (loops_none _ _) (hold_tree w s m h d u t c a0 a1 a2 a3 a4) rfl ?_
  obtain ⟨d1, d2⟩ := bd
  have e1 : IntKind.u8.wrap (d.fdiv (2 ^ 8)) = d / 256 := by rw [Int.fdiv_eq_ediv_of_nonneg _ (by decide), Ck.wu8]; omega
  have e2 : bits .and .u8 (d / 256) 1 = d / 256 % 2 := Ck.m1 ⟨by omega, by omega⟩
  have e3 := Ck.top3 (k := d / 256 % 2) (by omega) t c
  have e4 : IntKind.u8.wrap d = d % 256 := Ck.wu8 d
  simp only [T.holds]
  refine ⟨Or.inl trivial, Or.inr trivial, rfl, ?_⟩
  rw [e1, e2, e3, e4]
  rfl
theorem rhold_any (w : World) (s m h d u : Int) (t c : Bool) (a0 a1 a2 a3 a4 : Int) (bd : 0 ≤ d ∧ d < 512) : Calls Try.prog 20 #[.agg #[.int .u8 s, .int .u8 m, .int .u8 h, .int .i64 d, .int .i64 u, .bool t, .bool c, .int .u8 a0, .int .u8 a1, .int .u8 a2, .int .u8 a3, .int .u8 a4]] w fun e w' => e = .returned (.agg #[.int .u8 s, .int .u8 m, .int .u8 h, .int .i64 d, .int .i64 u, .bool t, .bool c, .int .u8 s, .int .u8 m, .int .u8 h, .int .u8 (d % 256), .int .u8 (Ck.top d t c)]) ∧ Below w.heap.size w w' := by
  refine val_eq base2 (table1_ok w) (loops_none _ _) (rhold_tree w s m h d u t c a0 a1 a2 a3 a4) rfl ?_
  obtain ⟨d1, d2⟩ := bd
  have e1 : d.tdiv 256 = d / 256 := Int.tdiv_eq_ediv_of_nonneg d1
  have e2 : d.tmod 256 = d % 256 := Int.tmod_eq_emod_of_nonneg d1
  have e3 : IntKind.i64.wrap (d / 256) = d / 256 := Ck.wi64 _ (by omega) (by omega)
  have e4 : (d / 256).tmod 2 = d / 256 % 2 := Int.tmod_eq_emod_of_nonneg (by omega)
  have e5 : IntKind.i64.wrap (d / 256 % 2 + 64) = d / 256 % 2 + 64 := Ck.wi64 _ (by omega) (by omega)
  have e6 : IntKind.i64.wrap (d / 256 % 2 + 128) = d / 256 % 2 + 128 := Ck.wi64 _ (by omega) (by omega)
  have e7 : IntKind.i64.wrap (d / 256 % 2 + 64 + 128) = d / 256 % 2 + 64 + 128 := Ck.wi64 _ (by omega) (by omega)
  have e8 : IntKind.u8.wrap (d % 256) = d % 256 := by rw [Ck.wu8]; omega
  have e9 : IntKind.u8.wrap (d / 256 % 2) = d / 256 % 2 := by rw [Ck.wu8]; omega
  have f5 : IntKind.u8.wrap (d / 256 % 2 + 64) = d / 256 % 2 + 64 := by rw [Ck.wu8]; omega
  have f6 : IntKind.u8.wrap (d / 256 % 2 + 128) = d / 256 % 2 + 128 := by rw [Ck.wu8]; omega
  have f7 : IntKind.u8.wrap (d / 256 % 2 + 64 + 128) = d / 256 % 2 + 64 + 128 := by rw [Ck.wu8]; omega
  simp only [T.holds, e1, e2, e3, e4, e5, e6, e7, e8, e9, f5, f6, f7]
  cases t <;> cases c <;> simp [Ck.top, AV.own, AV.wf, V.wf, Sc.wf, AV.γ, V.γ, Sc.γ]
theorem adv {p : Ck.Hd} {u0 s m h d u : Int} {c : Bool} (hu0 : u0 < 4294967296) (hj : ∃ j : Nat, (⟨s, m, h, d, c⟩ : Ck.Hd) = Ck.secs j p ∧ u = u0 - j * 1048576 ∧ 0 ≤ u) (hu : 1048576 ≤ u) (y : Ck.Hd) (hy : y = Ck.next ⟨s, m, h, d, c⟩) :
    ∃ j : Nat, y = Ck.secs j p ∧ IntKind.i64.wrap (u - 1048576) = u0 - j * 1048576 ∧ 0 ≤ IntKind.i64.wrap (u - 1048576) := by
  obtain ⟨j, hj, e, h0⟩ := hj
  have ew : IntKind.i64.wrap (u - 1048576) = u - 1048576 := Ck.wi64 _ (by omega) (by omega)
  rw [ew]
  exact ⟨j + 1, by rw [hy, hj]; rfl, by omega, by omega⟩
theorem near {u0 u : Int} (hu0 : u0 < 4294967296) {j : Nat} (e : u = u0 - j * 1048576) (hu : 1048576 ≤ u) : (IntKind.i64.wrap (u - 1048576)).toNat < u.toNat := by
  have ew : IntKind.i64.wrap (u - 1048576) = u - 1048576 := Ck.wi64 _ (by omega) (by omega)
  rw [ew]
  omega
theorem ends {p : Ck.Hd} {u0 s m h d u : Int} {c : Bool} (hj : ∃ j : Nat, (⟨s, m, h, d, c⟩ : Ck.Hd) = Ck.secs j p ∧ u = u0 - j * 1048576 ∧ 0 ≤ u) (hu : ¬ 1048576 ≤ u) : (⟨s, m, h, d, c⟩ : Ck.Hd) = Ck.secs (u0 / 1048576).toNat p ∧ u = u0 % 1048576 := by
  obtain ⟨j, hj, e, h0⟩ := hj
  have : (u0 / 1048576).toNat = j := by omega
  rw [this]
  exact ⟨hj, by omega⟩
def t10Mu  (p : t10P) (x : t10X) : Nat := x.u.toNat
theorem t10_step (w : World)  (p : t10P) (x : t10X)  (h : t10Inv  p x) : Hid (roundT Try.prog w (flatT Try.prog) (ctrOf table1) (callT Try.prog w (flatT Try.prog) (ctrOf table1) (noLoop) 20) ((noLoop) 10) (roundOf (bodyAt Try.prog 10 0)) 0 (t10St  p) (t10Fin  p) t10NxX t10NxX x) (Kept (t10Inv  p) (t10Post  p) (t10Mu  p) x) := by
  obtain ⟨s_, m_, hh_, d_, u_, c_, t, a0, a1, a2, a3, a4⟩ := p
  obtain ⟨s, m, h_, d, u, c⟩ := x
  constructor
  rw [t10step_tree]
  simp only [T.holds, Kept, t10Mu, and_self, true_and, and_true]
  try simp only [beq_self_eq_true, bne_self_eq_false, Bool.and_true, Bool.true_and, Bool.and_self, Bool.not_true, Bool.not_false, Bool.false_eq_true, Bool.true_eq_false, false_implies, forall_const, and_self, true_and, and_true, if_true, if_false, reduceIte]
  obtain ⟨hk, hub, hj⟩ := h
  simp only at hk hub hj
  have hx : Ck.Ok (⟨s, m, h_, d, c⟩ : Ck.Hd) := by
    obtain ⟨j, e, _⟩ := hj
    rw [e]; exact Ck.secs_ok hk j
  obtain ⟨⟨s1, s2⟩, ⟨m1, m2⟩, ⟨h1, h2⟩, ⟨d1, d2⟩⟩ := hx
  simp only at s1 s2 m1 m2 h1 h2 d1 d2
  have nr : 1048576 ≤ u → (IntKind.i64.wrap (u - 1048576)).toNat < u.toNat := fun hu => by
    obtain ⟨j, _, e, _⟩ := hj
    exact near hub e hu
  have es : bits .and .u8 (IntKind.u8.wrap (s + 1)) 63 = (s + 1) % 64 := by rw [Ck.wu8, Ck.m63 ⟨by omega, by omega⟩]; omega
  have em : bits .and .u8 (IntKind.u8.wrap (m + 1)) 63 = (m + 1) % 64 := by rw [Ck.wu8, Ck.m63 ⟨by omega, by omega⟩]; omega
  have eh : bits .and .u8 (IntKind.u8.wrap (h_ + 1)) 31 = (h_ + 1) % 32 := by rw [Ck.wu8, Ck.m31 ⟨by omega, by omega⟩]; omega
  have ed : IntKind.i64.wrap (d + 1) = d + 1 := Ck.wi64 _ (by omega) (by omega)
  simp only [es, em, eh, ed, bne_iff_ne, ne_eq, bne_eq_false_iff_eq, beq_iff_eq, beq_eq_false_iff_ne, decide_eq_true_eq, decide_eq_false_iff_not, ge_iff_le]
  refine ⟨fun hu => ⟨fun g => ⟨⟨hk, hub, adv hub hj hu _ ?_⟩, nr hu⟩, fun g => ⟨fun g2 => ⟨⟨hk, hub, adv hub hj hu _ ?_⟩, nr hu⟩, fun g2 => ⟨fun g3 => ⟨⟨hk, hub, adv hub hj hu _ ?_⟩, nr hu⟩, fun g3 => ⟨fun g4 => ⟨⟨hk, hub, adv hub hj hu _ ?_⟩, nr hu⟩, fun g4 => ⟨⟨hk, hub, adv hub hj hu _ ?_⟩, nr hu⟩⟩⟩⟩⟩, fun hu => ?_⟩
  all_goals first
    | (obtain ⟨q1, q2⟩ := ends hj hu; exact ⟨q1, q2⟩)
    | (unfold Ck.next; simp only [*, if_true, if_false, not_false_eq_true])
theorem t10Lp_ok (w : World)   : (t10Lp ).ok Try.prog w := by
  intro s t h
  unfold t10Lp at h
  simp only at h
  split at h
  · rename_i p _
    split at h
    · rename_i x _
      cases h
      exact loop_ok base2 (table1_ok w) (callT_ok base2.mixed base2.names base2.eqs (table1_ok w).ok (table1_ok w).there (loops_none _ _) 20) ((loops_none _ _) 10) (c := roundOf (bodyAt Try.prog 10 0)) (by kernel_rfl) (id := 0) (n := 2) (st := t10St  p) (fin := t10Fin  p) (inv := t10Inv  p) (post := t10Post  p) (nx := t10NxX) (fx := t10NxX) (t10Mu  p) (fun x => by kernel_rfl) (fun y => by kernel_rfl) (fun x hx => t10_step w  p x  hx) s x
    · cases h
  · cases h
def t18Mu  (p : t18P) (x : t18X) : Nat := x.u.toNat
theorem t18_step (w : World)  (p : t18P) (x : t18X)  (h : t18Inv  p x) : Hid (roundT Try.prog w (flatT Try.prog) (ctrOf table1) (callT Try.prog w (flatT Try.prog) (ctrOf table1) (noLoop) 20) ((noLoop) 18) (roundOf (bodyAt Try.prog 18 0)) 0 (t18St  p) (t18Fin  p) t18NxX t18NxX x) (Kept (t18Inv  p) (t18Post  p) (t18Mu  p) x) := by
  obtain ⟨s_, m_, hh_, d_, u_, c_, t, a0, a1, a2, a3, a4⟩ := p
  obtain ⟨s, m, h_, d, u, c⟩ := x
  constructor
  rw [t18step_tree]
  simp only [T.holds, Kept, t18Mu, and_self, true_and, and_true]
  try simp only [beq_self_eq_true, bne_self_eq_false, Bool.and_true, Bool.true_and, Bool.and_self, Bool.not_true, Bool.not_false, Bool.false_eq_true, Bool.true_eq_false, false_implies, forall_const, and_self, true_and, and_true, if_true, if_false, reduceIte]
  obtain ⟨hk, hub, hj⟩ := h
  simp only at hk hub hj
  have hx : Ck.Ok (⟨s, m, h_, d, c⟩ : Ck.Hd) := by
    obtain ⟨j, e, _⟩ := hj
    rw [e]; exact Ck.secs_ok hk j
  obtain ⟨⟨s1, s2⟩, ⟨m1, m2⟩, ⟨h1, h2⟩, ⟨d1, d2⟩⟩ := hx
  simp only at s1 s2 m1 m2 h1 h2 d1 d2
  have nr : 1048576 ≤ u → (IntKind.i64.wrap (u - 1048576)).toNat < u.toNat := fun hu => by
    obtain ⟨j, _, e, _⟩ := hj
    exact near hub e hu
  simp only [decide_eq_true_eq, decide_eq_false_iff_not, ge_iff_le]
  refine ⟨fun hu => ⟨⟨⟨s1, s2⟩, ⟨m1, m2⟩, ⟨h1, h2⟩, d1, d2⟩, ⟨hk, hub, adv hub hj hu _ rfl⟩, nr hu⟩, fun hu => ?_⟩
  obtain ⟨q1, q2⟩ := ends hj hu
  exact ⟨q1, q2⟩
theorem t18Lp_ok (w : World)   : (t18Lp ).ok Try.prog w := by
  intro s t h
  unfold t18Lp at h
  simp only at h
  split at h
  · rename_i p _
    split at h
    · rename_i x _
      cases h
      exact loop_ok base2 (table1_ok w) (callT_ok base2.mixed base2.names base2.eqs (table1_ok w).ok (table1_ok w).there (loops_none _ _) 20) ((loops_none _ _) 18) (c := roundOf (bodyAt Try.prog 18 0)) (by kernel_rfl) (id := 0) (n := 2) (st := t18St  p) (fin := t18Fin  p) (inv := t18Inv  p) (post := t18Post  p) (nx := t18NxX) (fx := t18NxX) (t18Mu  p) (fun x => by kernel_rfl) (fun y => by kernel_rfl) (fun x hx => t18_step w  p x  hx) s x
    · cases h
  · cases h
theorem tick_any (w : World) (s m h d u : Int) (t c : Bool) (a0 a1 a2 a3 a4 : Int) (n : Int) (ok : Ck.Ok ⟨s, m, h, d, c⟩) (bu : 0 ≤ u ∧ u ≤ 1048576) : Calls Try.prog 10 #[.agg #[.int .u8 s, .int .u8 m, .int .u8 h, .int .i64 d, .int .i64 u, .bool t, .bool c, .int .u8 a0, .int .u8 a1, .int .u8 a2, .int .u8 a3, .int .u8 a4], .int .i64 n] w fun e w' => e = .returned (.agg #[.int .u8 (Ck.tkH t u n ⟨s, m, h, d, c⟩).s, .int .u8 (Ck.tkH t u n ⟨s, m, h, d, c⟩).m, .int .u8 (Ck.tkH t u n ⟨s, m, h, d, c⟩).h, .int .i64 (Ck.tkH t u n ⟨s, m, h, d, c⟩).d, .int .i64 (Ck.tkU t u n), .bool t, .bool (Ck.tkH t u n ⟨s, m, h, d, c⟩).cy, .int .u8 a0, .int .u8 a1, .int .u8 a2, .int .u8 a3, .int .u8 a4]) ∧ Below w.heap.size w w' := by
  have hl : LcsOk Try.prog w (lpOf Try.prog [t10Lp]) := lps_ok fun l hl => by
    simp only [List.mem_cons, List.not_mem_nil, or_false] at hl
    subst hl
    exact t10Lp_ok w
  refine val_eq base2 (table1_ok w) hl (tick_tree w s m h d u t c a0 a1 a2 a3 a4 n) rfl ?_
  obtain ⟨u1, u2⟩ := bu
  simp only [T.holds, and_self, true_and, and_true, decide_eq_true_eq, decide_eq_false_iff_not]
  refine ⟨fun ht => ⟨rfl, ?_⟩, fun ht => ⟨fun hn => ⟨rfl, ?_⟩, fun hn => ?_⟩⟩
  · simp only [Ck.tkH, Ck.tkU, ht, true_or, if_true]; rfl
  · simp only [Ck.tkH, Ck.tkU, hn, or_true, if_true]; rfl
  · have em : (if false = true then if (1073741824 : Int) > n then (1073741824 : Int) else n else if (1073741824 : Int) < n then (1073741824 : Int) else n) = Ck.mn n := by
      simp only [Bool.false_eq_true, if_false, Ck.mn]
      split <;> split <;> omega
    have bm : 1 ≤ Ck.mn n ∧ Ck.mn n ≤ 1073741824 := by unfold Ck.mn; split <;> omega
    have ew : IntKind.i64.wrap (u + Ck.mn n) = u + Ck.mn n := Ck.wi64 _ (by omega) (by omega)
    simp only [em, ew]
    refine ⟨⟨ok, by show u + Ck.mn n < 4294967296; omega, 0, rfl, by show u + Ck.mn n = u + Ck.mn n - ((0 : Nat) : Int) * 1048576; omega, by show 0 ≤ u + Ck.mn n; omega⟩, fun y => ?_⟩
    obtain ⟨⟨ys, ym, yh, yd, yu, yc⟩, yhd, yuu⟩ := y
    simp only [em, ew] at yhd yuu
    refine ⟨rfl, ?_⟩
    have e1 : Ck.tkH t u n ⟨s, m, h, d, c⟩ = ⟨ys, ym, yh, yd, yc⟩ := by rw [yhd]; simp [Ck.tkH, ht, hn]
    have e2 : Ck.tkU t u n = yu := by rw [yuu]; simp [Ck.tkU, ht, hn]
    rw [e1, e2]
    rfl
theorem rtick_any (w : World) (s m h d u : Int) (t c : Bool) (a0 a1 a2 a3 a4 : Int) (n : Int) (ok : Ck.Ok ⟨s, m, h, d, c⟩) (bu : 0 ≤ u ∧ u ≤ 1048576) : Calls Try.prog 18 #[.agg #[.int .u8 s, .int .u8 m, .int .u8 h, .int .i64 d, .int .i64 u, .bool t, .bool c, .int .u8 a0, .int .u8 a1, .int .u8 a2, .int .u8 a3, .int .u8 a4], .int .i64 n] w fun e w' => e = .returned (.agg #[.int .u8 (Ck.tkH t u n ⟨s, m, h, d, c⟩).s, .int .u8 (Ck.tkH t u n ⟨s, m, h, d, c⟩).m, .int .u8 (Ck.tkH t u n ⟨s, m, h, d, c⟩).h, .int .i64 (Ck.tkH t u n ⟨s, m, h, d, c⟩).d, .int .i64 (Ck.tkU t u n), .bool t, .bool (Ck.tkH t u n ⟨s, m, h, d, c⟩).cy, .int .u8 a0, .int .u8 a1, .int .u8 a2, .int .u8 a3, .int .u8 a4]) ∧ Below w.heap.size w w' := by
  have hl : LcsOk Try.prog w (lpOf Try.prog [t18Lp]) := lps_ok fun l hl => by
    simp only [List.mem_cons, List.not_mem_nil, or_false] at hl
    subst hl
    exact t18Lp_ok w
  refine val_eq base2 (table1_ok w) hl (rtick_tree w s m h d u t c a0 a1 a2 a3 a4 n) rfl ?_
  obtain ⟨u1, u2⟩ := bu
  simp only [T.holds, and_self, true_and, and_true, decide_eq_true_eq, decide_eq_false_iff_not]
  refine ⟨fun ht => ⟨rfl, ?_⟩, fun ht => ⟨fun hn => ⟨rfl, ?_⟩, fun hn => ?_⟩⟩
  · simp only [Ck.tkH, Ck.tkU, ht, true_or, if_true]; rfl
  · simp only [Ck.tkH, Ck.tkU, hn, or_true, if_true]; rfl
  · have em : (if false = true then if (1073741824 : Int) > n then (1073741824 : Int) else n else if (1073741824 : Int) < n then (1073741824 : Int) else n) = Ck.mn n := by
      simp only [Bool.false_eq_true, if_false, Ck.mn]
      split <;> split <;> omega
    have bm : 1 ≤ Ck.mn n ∧ Ck.mn n ≤ 1073741824 := by unfold Ck.mn; split <;> omega
    have ew : IntKind.i64.wrap (u + Ck.mn n) = u + Ck.mn n := Ck.wi64 _ (by omega) (by omega)
    simp only [em, ew]
    refine ⟨⟨ok, by show u + Ck.mn n < 4294967296; omega, 0, rfl, by show u + Ck.mn n = u + Ck.mn n - ((0 : Nat) : Int) * 1048576; omega, by show 0 ≤ u + Ck.mn n; omega⟩, fun y => ?_⟩
    obtain ⟨⟨ys, ym, yh, yd, yu, yc⟩, yhd, yuu⟩ := y
    simp only [em, ew] at yhd yuu
    refine ⟨rfl, ?_⟩
    have e1 : Ck.tkH t u n ⟨s, m, h, d, c⟩ = ⟨ys, ym, yh, yd, yc⟩ := by rw [yhd]; simp [Ck.tkH, ht, hn]
    have e2 : Ck.tkU t u n = yu := by rw [yuu]; simp [Ck.tkU, ht, hn]
    rw [e1, e2]
    rfl
def holdC : Ctr := ⟨16, fun | [.v (.agg [.int _ .u8 s, .int _ .u8 m, .int _ .u8 h, .int _ .i64 d, .int _ .i64 u, .bool _ t, .bool _ c, .int _ .u8 a0, .int _ .u8 a1, .int _ .u8 a2, .int _ .u8 a3, .int _ .u8 a4])] => some (.chk (0 ≤ d ∧ d < 512) (.leaf (.v (.agg [.int false .u8 s, .int false .u8 m, .int false .u8 h, .int false .i64 d, .int false .i64 u, .bool false t, .bool false c, .int false .u8 s, .int false .u8 m, .int false .u8 h, .int false .u8 (d % 256), .int false .u8 (Ck.top d t c)])))) | _ => none⟩
theorem holdC_ok (w0 : World) : holdC.ok Try.prog w0 := by
  refine ⟨⟨_, Try.func16, rfl⟩, fun args t ht => ?_⟩
  unfold holdC at ht
  simp only at ht
  split at ht
  · cases ht
    refine ⟨rfl, fun K hK => ⟨_, hK.2, rfl, fun w _ => ?_⟩⟩
    obtain ⟨hr, _⟩ := hK
    exact hold_any w _ _ _ _ _ _ _ _ _ _ _ _ hr
  · cases ht
def rholdC : Ctr := ⟨20, fun | [.v (.agg [.int _ .u8 s, .int _ .u8 m, .int _ .u8 h, .int _ .i64 d, .int _ .i64 u, .bool _ t, .bool _ c, .int _ .u8 a0, .int _ .u8 a1, .int _ .u8 a2, .int _ .u8 a3, .int _ .u8 a4])] => some (.chk (0 ≤ d ∧ d < 512) (.leaf (.v (.agg [.int false .u8 s, .int false .u8 m, .int false .u8 h, .int false .i64 d, .int false .i64 u, .bool false t, .bool false c, .int false .u8 s, .int false .u8 m, .int false .u8 h, .int false .u8 (d % 256), .int false .u8 (Ck.top d t c)])))) | _ => none⟩
theorem rholdC_ok (w0 : World) : rholdC.ok Try.prog w0 := by
  refine ⟨⟨_, Try.func20, rfl⟩, fun args t ht => ?_⟩
  unfold rholdC at ht
  simp only at ht
  split at ht
  · cases ht
    refine ⟨rfl, fun K hK => ⟨_, hK.2, rfl, fun w _ => ?_⟩⟩
    obtain ⟨hr, _⟩ := hK
    exact rhold_any w _ _ _ _ _ _ _ _ _ _ _ _ hr
  · cases ht
def tickC : Ctr := ⟨10, fun | [.v (.agg [.int _ .u8 s, .int _ .u8 m, .int _ .u8 h, .int _ .i64 d, .int _ .i64 u, .bool _ t, .bool _ c, .int _ .u8 a0, .int _ .u8 a1, .int _ .u8 a2, .int _ .u8 a3, .int _ .u8 a4]), .v (.one (.int _ .i64 n))] => some (.chk (Ck.Ok ⟨s, m, h, d, c⟩ ∧ 0 ≤ u ∧ u ≤ 1048576) (.leaf (.v (.agg [.int false .u8 (Ck.tkH t u n ⟨s, m, h, d, c⟩).s, .int false .u8 (Ck.tkH t u n ⟨s, m, h, d, c⟩).m, .int false .u8 (Ck.tkH t u n ⟨s, m, h, d, c⟩).h, .int false .i64 (Ck.tkH t u n ⟨s, m, h, d, c⟩).d, .int false .i64 (Ck.tkU t u n), .bool false t, .bool false (Ck.tkH t u n ⟨s, m, h, d, c⟩).cy, .int false .u8 a0, .int false .u8 a1, .int false .u8 a2, .int false .u8 a3, .int false .u8 a4])))) | _ => none⟩
theorem tickC_ok (w0 : World) : tickC.ok Try.prog w0 := by
  refine ⟨⟨_, Try.func10, rfl⟩, fun args t ht => ?_⟩
  unfold tickC at ht
  simp only at ht
  split at ht
  · cases ht
    refine ⟨rfl, fun K hK => ⟨_, hK.2, rfl, fun w _ => ?_⟩⟩
    obtain ⟨hr, _⟩ := hK
    exact tick_any w _ _ _ _ _ _ _ _ _ _ _ _ _ hr.1 hr.2
  · cases ht
def rtickC : Ctr := ⟨18, fun | [.v (.agg [.int _ .u8 s, .int _ .u8 m, .int _ .u8 h, .int _ .i64 d, .int _ .i64 u, .bool _ t, .bool _ c, .int _ .u8 a0, .int _ .u8 a1, .int _ .u8 a2, .int _ .u8 a3, .int _ .u8 a4]), .v (.one (.int _ .i64 n))] => some (.chk (Ck.Ok ⟨s, m, h, d, c⟩ ∧ 0 ≤ u ∧ u ≤ 1048576) (.leaf (.v (.agg [.int false .u8 (Ck.tkH t u n ⟨s, m, h, d, c⟩).s, .int false .u8 (Ck.tkH t u n ⟨s, m, h, d, c⟩).m, .int false .u8 (Ck.tkH t u n ⟨s, m, h, d, c⟩).h, .int false .i64 (Ck.tkH t u n ⟨s, m, h, d, c⟩).d, .int false .i64 (Ck.tkU t u n), .bool false t, .bool false (Ck.tkH t u n ⟨s, m, h, d, c⟩).cy, .int false .u8 a0, .int false .u8 a1, .int false .u8 a2, .int false .u8 a3, .int false .u8 a4])))) | _ => none⟩
theorem rtickC_ok (w0 : World) : rtickC.ok Try.prog w0 := by
  refine ⟨⟨_, Try.func18, rfl⟩, fun args t ht => ?_⟩
  unfold rtickC at ht
  simp only at ht
  split at ht
  · cases ht
    refine ⟨rfl, fun K hK => ⟨_, hK.2, rfl, fun w _ => ?_⟩⟩
    obtain ⟨hr, _⟩ := hK
    exact rtick_any w _ _ _ _ _ _ _ _ _ _ _ _ _ hr.1 hr.2
  · cases ht
def table2 : List Ctr := [bitC, rsecC, readC, rreadC, writeC, rwriteC, holdC, rholdC, tickC, rtickC]
theorem table2_ok (w0 : World) : Ctrs Try.prog w0 (ctrOf table2) := ctrs_of fun c hc => by
  simp only [table2, List.mem_cons, List.not_mem_nil, or_false] at hc
  rcases hc with rfl | rfl | rfl | rfl | rfl | rfl | rfl | rfl | rfl | rfl
  · exact bitC_ok w0
  · exact rsecC_ok w0
  · exact readC_ok w0
  · exact rreadC_ok w0
  · exact writeC_ok w0
  · exact rwriteC_ok w0
  · exact holdC_ok w0
  · exact rholdC_ok w0
  · exact tickC_ok w0
  · exact rtickC_ok w0
end Go.Proofs.Ytpmgaoigelplgaa
