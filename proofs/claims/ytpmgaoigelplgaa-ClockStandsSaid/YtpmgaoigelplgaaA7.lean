/-
  Walk of a statement of the clock, by computing, with its rounds: a clock that stands stays as it is. Bytes are below 256, words below 4294967296; no other condition.
-/
import Derived.Test.YtpmgaoigelplgaaA4
import Derived.Test.YtpmgaoigelplgaaSymA
namespace Go.Proofs.Ytpmgaoigelplgaa
open Go.RowKit sym
set_option linter.unusedVariables false
set_option linter.unusedSimpArgs false
set_option maxRecDepth 100000
def opCell (K M X : Nat → Int) : Nat → Nat → Sc := fun i q => match q with
  | 0 => .int false .i64 (K i)
  | 1 => .int false .i64 (M i)
  | _ => .int false .u8 (X i)
structure l8P where
  a : Int
  b : Int
structure l8X where
  i : Int
  s : Int
  m : Int
  h_ : Int
  d : Int
  u : Int
  t : Bool
  c : Bool
  a0 : Int
  a1 : Int
  a2 : Int
  a3 : Int
  a4 : Int
def l8St (A : Option Addr) (K M X : Nat → Int) (len cap : Nat) : l8P → l8X → ASt := fun ⟨a, b⟩ ⟨i, s, m, h_, d, u, t, c, a0, a1, a2, a3, a4⟩ => ⟨slots (List.replicate 70 .any) [(0, .v (.one (.xs A (opCell K M X) 3 len cap))), (1, .v (.one (.int false .u32 a))), (2, .v (.one (.int false .u32 b))), (7, .v (.one (.ptr 0 0))), (22, .v (.one (.int false .i64 (len : Int)))), (23, .v (.one (.int false .i64 i)))], [⟨[.int false .u8 s, .int false .u8 m, .int false .u8 h_, .int false .i64 d, .int false .i64 u, .bool false t, .bool false c, .int false .u8 a0, .int false .u8 a1, .int false .u8 a2, .int false .u8 a3, .int false .u8 a4], 26⟩]⟩
def l8Fin (A : Option Addr) (K M X : Nat → Int) (len cap : Nat) : l8P → l8X → ASt := fun ⟨a, b⟩ ⟨i, s, m, h_, d, u, t, c, a0, a1, a2, a3, a4⟩ => ⟨slots (List.replicate 70 .any) [(0, .v (.one (.xs A (opCell K M X) 3 len cap))), (1, .v (.one (.int false .u32 a))), (2, .v (.one (.int false .u32 b))), (7, .v (.one (.ptr 0 0))), (22, .v (.one (.int false .i64 (len : Int)))), (23, .v (.one (.int false .i64 i)))], [⟨[.int false .u8 s, .int false .u8 m, .int false .u8 h_, .int false .i64 d, .int false .i64 u, .bool false t, .bool false c, .int false .u8 a0, .int false .u8 a1, .int false .u8 a2, .int false .u8 a3, .int false .u8 a4], 26⟩]⟩
def l8NxP : ASt → Option l8P := fun st_ => match gI st_ 1 with | none => none | some a => match gI st_ 2 with | none => none | some b => some ⟨a, b⟩
def l8NxX : ASt → Option l8X := fun st_ => match gI st_ 23 with | none => none | some i => match hI st_ 0 0 with | none => none | some s => match hI st_ 0 1 with | none => none | some m => match hI st_ 0 2 with | none => none | some h_ => match hI st_ 0 3 with | none => none | some d => match hI st_ 0 4 with | none => none | some u => match hB st_ 0 5 with | none => none | some t => match hB st_ 0 6 with | none => none | some c => match hI st_ 0 7 with | none => none | some a0 => match hI st_ 0 8 with | none => none | some a1 => match hI st_ 0 9 with | none => none | some a2 => match hI st_ 0 10 with | none => none | some a3 => match hI st_ 0 11 with | none => none | some a4 => some ⟨i, s, m, h_, d, u, t, c, a0, a1, a2, a3, a4⟩
structure l8Inv (A : Option Addr) (K M X : Nat → Int) (len cap : Nat) (p : l8P) (x : l8X) : Prop where
  i0 : 0 ≤ x.i
  i1 : x.i ≤ len
  lm : len ≤ 60
  ok : Ck.Ok (⟨x.s, x.m, x.h_, x.d, x.c⟩ : Ck.Hd)
  u : 0 ≤ x.u ∧ x.u < 1048576
structure l8Post (A : Option Addr) (K M X : Nat → Int) (len cap : Nat) (p : l8P) (x : l8X) : Prop where
  ok : Ck.Ok (⟨x.s, x.m, x.h_, x.d, x.c⟩ : Ck.Hd)
  u : 0 ≤ x.u ∧ x.u < 1048576
def l8Lp (A : Option Addr) (K M X : Nat → Int) (len cap : Nat) : Lp := ⟨8, 0, fun s => match l8NxP s with
  | some p => match l8NxX s with
    | some x => some (loopT 0 1 (l8St A K M X len cap p) (l8Fin A K M X len cap p) (l8Inv A K M X len cap p) (l8Post A K M X len cap p) s x)
    | none => none
  | none => none⟩
theorem l8step_tree (w : World) (A : Option Addr) (K M X : Nat → Int) (len cap : Nat) (a : Int) (b : Int) (i : Int) (s : Int) (m : Int) (h_ : Int) (d : Int) (u : Int) (t : Bool) (c : Bool) (a0 : Int) (a1 : Int) (a2 : Int) (a3 : Int) (a4 : Int) :
    roundT Try.prog w (flatT Try.prog) (ctrOf table) (callT Try.prog w (flatT Try.prog) (ctrOf table) (noLoop) 20) ((noLoop) 8) (roundOf (bodyAt Try.prog 8 0)) 0 (l8St A K M X len cap ⟨a, b⟩) (l8Fin A K M X len cap ⟨a, b⟩) l8NxX l8NxX ⟨i, s, m, h_, d, u, t, c, a0, a1, a2, a3, a4⟩ =
(.br (decide (i < (↑len : Int)))
 (.chk (sym.XOk w A (opCell K M X) (3 : Nat) len ∧
  (0 : Int) ≤ i ∧ i < (↑len : Int) ∧ (0 : Nat) < (3 : Nat))
 (.chk (sym.XOk w A (opCell K M X) (3 : Nat) len ∧
  (0 : Nat) < (3 : Nat) ∧ i.toNat < len ∧ (3 : Nat) ≤ (3 : Nat))
 (.chk (Ck.Ok { s := s, m := m, h := h_, d := d, cy := c } ∧
  ((0 : Int) ≤ u ∧ u ≤ (1048576 : Int)) ∧ Ck.B (X i.toNat))
 (.chk (A = A ∧
  opCell K M X = opCell K M X ∧
    (3 : Nat) = (3 : Nat) ∧ len = len ∧ cap = cap)
 (.chk (IntKind.u32 = IntKind.u32 ∧ a = a)
 (.chk (IntKind.u32 = IntKind.u32 ∧ b = b)
 (.chk (IntKind.i64 = IntKind.i64 ∧ (↑len : Int) = (↑len : Int))
 (.chk (IntKind.i64 = IntKind.i64 ∧ IntKind.i64.wrap (i + (1 : Int)) = IntKind.i64.wrap (i + (1 : Int)))
 (.chk (IntKind.u8 = IntKind.u8 ∧
  (Ck.doH (K i.toNat) (M i.toNat) (X i.toNat) t u
        { s := s, m := m, h := h_, d := d, cy := c }).s =
    (Ck.doH (K i.toNat) (M i.toNat) (X i.toNat) t u
        { s := s, m := m, h := h_, d := d, cy := c }).s)
 (.chk (IntKind.u8 = IntKind.u8 ∧
  (Ck.doH (K i.toNat) (M i.toNat) (X i.toNat) t u
        { s := s, m := m, h := h_, d := d, cy := c }).m =
    (Ck.doH (K i.toNat) (M i.toNat) (X i.toNat) t u
        { s := s, m := m, h := h_, d := d, cy := c }).m)
 (.chk (IntKind.u8 = IntKind.u8 ∧
  (Ck.doH (K i.toNat) (M i.toNat) (X i.toNat) t u
        { s := s, m := m, h := h_, d := d, cy := c }).h =
    (Ck.doH (K i.toNat) (M i.toNat) (X i.toNat) t u
        { s := s, m := m, h := h_, d := d, cy := c }).h)
 (.chk (IntKind.i64 = IntKind.i64 ∧
  (Ck.doH (K i.toNat) (M i.toNat) (X i.toNat) t u
        { s := s, m := m, h := h_, d := d, cy := c }).d =
    (Ck.doH (K i.toNat) (M i.toNat) (X i.toNat) t u
        { s := s, m := m, h := h_, d := d, cy := c }).d)
 (.chk (IntKind.i64 = IntKind.i64 ∧
  Ck.doU (K i.toNat) (M i.toNat) t u =
    Ck.doU (K i.toNat) (M i.toNat) t u)
 (.chk (Ck.doT (K i.toNat) (M i.toNat) (X i.toNat) t =
  Ck.doT (K i.toNat) (M i.toNat) (X i.toNat) t)
 (.chk ((Ck.doH (K i.toNat) (M i.toNat) (X i.toNat) t u
      { s := s, m := m, h := h_, d := d, cy := c }).cy =
  (Ck.doH (K i.toNat) (M i.toNat) (X i.toNat) t u
      { s := s, m := m, h := h_, d := d, cy := c }).cy)
 (.chk (IntKind.u8 = IntKind.u8 ∧
  Ck.doA (K i.toNat) s a0 = Ck.doA (K i.toNat) s a0)
 (.chk (IntKind.u8 = IntKind.u8 ∧
  Ck.doA (K i.toNat) m a1 = Ck.doA (K i.toNat) m a1)
 (.chk (IntKind.u8 = IntKind.u8 ∧
  Ck.doA (K i.toNat) h_ a2 = Ck.doA (K i.toNat) h_ a2)
 (.chk (IntKind.u8 = IntKind.u8 ∧
  Ck.doA (K i.toNat) (d % (256 : Int)) a3 =
    Ck.doA (K i.toNat) (d % (256 : Int)) a3)
 (.chk (IntKind.u8 = IntKind.u8 ∧
  Ck.doA (K i.toNat) (Ck.top d t c) a4 =
    Ck.doA (K i.toNat) (Ck.top d t c) a4)
 (.leaf (.inl ⟨IntKind.i64.wrap (i + (1 : Int)), (Ck.doH (K i.toNat) (M i.toNat) (X i.toNat) t u
    { s := s, m := m, h := h_, d := d, cy := c }).s, (Ck.doH (K i.toNat) (M i.toNat) (X i.toNat) t u
    { s := s, m := m, h := h_, d := d, cy := c }).m, (Ck.doH (K i.toNat) (M i.toNat) (X i.toNat) t u
    { s := s, m := m, h := h_, d := d, cy := c }).h, (Ck.doH (K i.toNat) (M i.toNat) (X i.toNat) t u
    { s := s, m := m, h := h_, d := d, cy := c }).d, Ck.doU (K i.toNat) (M i.toNat) t u, Ck.doT (K i.toNat) (M i.toNat) (X i.toNat) t, (Ck.doH (K i.toNat) (M i.toNat) (X i.toNat) t u
    { s := s, m := m, h := h_, d := d, cy := c }).cy, Ck.doA (K i.toNat) s a0, Ck.doA (K i.toNat) m a1, Ck.doA (K i.toNat) h_ a2, Ck.doA (K i.toNat) (d % (256 : Int)) a3, Ck.doA (K i.toNat) (Ck.top d t c) a4⟩))))))))))))))))))))))
 (.chk (A = A ∧
  opCell K M X = opCell K M X ∧
    (3 : Nat) = (3 : Nat) ∧ len = len ∧ cap = cap)
 (.chk (IntKind.u32 = IntKind.u32 ∧ a = a)
 (.chk (IntKind.u32 = IntKind.u32 ∧ b = b)
 (.chk (IntKind.i64 = IntKind.i64 ∧ (↑len : Int) = (↑len : Int))
 (.chk (IntKind.i64 = IntKind.i64 ∧ i = i)
 (.chk (IntKind.u8 = IntKind.u8 ∧ s = s)
 (.chk (IntKind.u8 = IntKind.u8 ∧ m = m)
 (.chk (IntKind.u8 = IntKind.u8 ∧ h_ = h_)
 (.chk (IntKind.i64 = IntKind.i64 ∧ d = d)
 (.chk (IntKind.i64 = IntKind.i64 ∧ u = u)
 (.chk (t = t)
 (.chk (c = c)
 (.chk (IntKind.u8 = IntKind.u8 ∧ a0 = a0)
 (.chk (IntKind.u8 = IntKind.u8 ∧ a1 = a1)
 (.chk (IntKind.u8 = IntKind.u8 ∧ a2 = a2)
 (.chk (IntKind.u8 = IntKind.u8 ∧ a3 = a3)
 (.chk (IntKind.u8 = IntKind.u8 ∧ a4 = a4)
 (.leaf (.inr ⟨i, s, m, h_, d, u, t, c, a0, a1, a2, a3, a4⟩)))))))))))))))))))) := by kernel_rfl
theorem stands_tree (w : World) (A : Option Addr) (K M X : Nat → Int) (len cap : Nat) (a b : Int) :
    callV Try.prog w (flatT Try.prog) (ctrOf tableF) (lpOf Try.prog [l8Lp A K M X len cap]) 20 8 [.v (.one (.xs A (opCell K M X) 3 len cap)), .v (.one (.int false .u32 a)), .v (.one (.int false .u32 b))] =
(.chk (True)
(.br (decide ((↑len : Int) > (60 : Int)))
 (.chk (True)
 (.leaf (.v (.one (.bool true true)))))
 (.chk (sym.bodyAt Go.Proofs.Try.prog (8 : Go.FuncId) (0 : Nat) = sym.bodyAt Go.Proofs.Try.prog (8 : Go.FuncId) (0 : Nat))
 (.chk (A = A ∧
  opCell K M X = opCell K M X ∧
    (3 : Nat) = (3 : Nat) ∧ len = len ∧ cap = cap)
 (.chk (IntKind.u32 = IntKind.u32 ∧ a = a)
 (.chk (IntKind.u32 = IntKind.u32 ∧ b = b)
 (.chk (IntKind.i64 = IntKind.i64 ∧ (↑len : Int) = (↑len : Int))
 (.chk (IntKind.i64 = IntKind.i64 ∧ (0 : Int) = (0 : Int))
 (.chk (IntKind.u8 = IntKind.u8 ∧ (0 : Int) = (0 : Int))
 (.chk (IntKind.u8 = IntKind.u8 ∧ (0 : Int) = (0 : Int))
 (.chk (IntKind.u8 = IntKind.u8 ∧ (0 : Int) = (0 : Int))
 (.chk (IntKind.i64 = IntKind.i64 ∧ (0 : Int) = (0 : Int))
 (.chk (IntKind.i64 = IntKind.i64 ∧ (0 : Int) = (0 : Int))
 (.chk (false = false)
 (.chk (false = false)
 (.chk (IntKind.u8 = IntKind.u8 ∧ (0 : Int) = (0 : Int))
 (.chk (IntKind.u8 = IntKind.u8 ∧ (0 : Int) = (0 : Int))
 (.chk (IntKind.u8 = IntKind.u8 ∧ (0 : Int) = (0 : Int))
 (.chk (IntKind.u8 = IntKind.u8 ∧ (0 : Int) = (0 : Int))
 (.chk (IntKind.u8 = IntKind.u8 ∧ (0 : Int) = (0 : Int))
 (.chk (l8Inv A K M X len cap { a := a, b := b }
  { i := (0 : Int), s := (0 : Int), m := (0 : Int), h_ := (0 : Int), d := (0 : Int), u := (0 : Int), t := false,
    c := false, a0 := (0 : Int), a1 := (0 : Int), a2 := (0 : Int), a3 := (0 : Int), a4 := (0 : Int) })
 (.all fun x : sym.Got l8X
  (l8Post A K M X len cap { a := a, b := b }) =>
  (.chk (Ck.B x.1.2 ∧
  Ck.B x.1.3 ∧
    Ck.B x.1.4 ∧
      (0 : Int) ≤ x.1.5 ∧
        x.1.5 < (512 : Int) ∧ Ck.B (IntKind.u8.wrap (x.1.5.fdiv ((2 : Int) ^ (8 : Nat)))))
  (.all fun x_1 : sym.Got Cv fun y =>
  y =
    (mkCv x.1.2 x.1.3 x.1.4 x.1.5 x.1.6 x.1.7 x.1.8 x.1.9 x.1.10 x.1.11 x.1.12 x.1.13).write
      (4 : Int) (IntKind.u8.wrap (x.1.5.fdiv ((2 : Int) ^ (8 : Nat)))) =>
   (.chk (Ck.B x_1.it.s ∧
  Ck.B x_1.it.m ∧
    Ck.B x_1.it.h ∧
      (0 : Int) ≤ x_1.it.d ∧
        x_1.it.d < (512 : Int) ∧
          Ck.B
            (bits BinOp.or IntKind.u8 (IntKind.u8.wrap (x_1.it.d.fdiv ((2 : Int) ^ (8 : Nat)))) (64 : Int)))
   (.all fun x_2 : sym.Got Cv fun y =>
  y =
    (mkCv x_1.it.s x_1.it.m x_1.it.h x_1.it.d x_1.it.u x_1.it.t x_1.it.c x_1.it.a0 x_1.it.a1
          x_1.it.a2 x_1.it.a3 x_1.it.a4).write
      (4 : Int)
      (bits BinOp.or IntKind.u8 (IntKind.u8.wrap (x_1.it.d.fdiv ((2 : Int) ^ (8 : Nat)))) (64 : Int)) =>
    (.chk (Ck.Ok { s := x_2.it.s, m := x_2.it.m, h := x_2.it.h, d := x_2.it.d, cy := x_2.it.c } ∧
  (0 : Int) ≤ x_2.it.u ∧ x_2.it.u ≤ (1048576 : Int))
    (.all fun x_3 : sym.Got Cv fun y =>
  y =
    (mkCv x_2.it.s x_2.it.m x_2.it.h x_2.it.d x_2.it.u x_2.it.t x_2.it.c x_2.it.a0 x_2.it.a1
          x_2.it.a2 x_2.it.a3 x_2.it.a4).tick
      (IntKind.i64.wrap a) =>
     (.br (x_3.it.s == x_2.it.s &&
  (x_3.it.m == x_2.it.m &&
    (x_3.it.h == x_2.it.h &&
      (x_3.it.d == x_2.it.d &&
        (x_3.it.u == x_2.it.u &&
          (x_3.it.t == x_2.it.t &&
            (x_3.it.c == x_2.it.c &&
              (x_3.it.a0 == x_2.it.a0 &&
                (x_3.it.a1 == x_2.it.a1 &&
                  (x_3.it.a2 == x_2.it.a2 && (x_3.it.a3 == x_2.it.a3 && (x_3.it.a4 == x_2.it.a4 && true))))))))))))
      (.chk (Ck.B x_3.it.s ∧
  Ck.B x_3.it.m ∧
    Ck.B x_3.it.h ∧
      (0 : Int) ≤ x_3.it.d ∧
        x_3.it.d < (512 : Int) ∧
          Ck.B (IntKind.u8.wrap (x_3.it.d.fdiv ((2 : Int) ^ (8 : Nat)))))
      (.all fun x_4 : sym.Got Cv fun y =>
  y =
    (mkCv x_3.it.s x_3.it.m x_3.it.h x_3.it.d x_3.it.u x_3.it.t x_3.it.c x_3.it.a0 x_3.it.a1
          x_3.it.a2 x_3.it.a3 x_3.it.a4).write
      (4 : Int) (IntKind.u8.wrap (x_3.it.d.fdiv ((2 : Int) ^ (8 : Nat)))) =>
       (.chk (Ck.Ok { s := x_4.it.s, m := x_4.it.m, h := x_4.it.h, d := x_4.it.d, cy := x_4.it.c } ∧
  (0 : Int) ≤ x_4.it.u ∧ x_4.it.u ≤ (1048576 : Int))
       (.all fun x_5 : sym.Got Cv fun y =>
  y =
    (mkCv x_4.it.s x_4.it.m x_4.it.h x_4.it.d x_4.it.u x_4.it.t x_4.it.c x_4.it.a0 x_4.it.a1
          x_4.it.a2 x_4.it.a3 x_4.it.a4).tick
      ((IntKind.i64.wrap b).tmod (31457280 : Int)) =>
        (.chk (Ck.Ok { s := x_1.it.s, m := x_1.it.m, h := x_1.it.h, d := x_1.it.d, cy := x_1.it.c } ∧
  (0 : Int) ≤ x_1.it.u ∧ x_1.it.u ≤ (1048576 : Int))
        (.all fun x_6 : sym.Got Cv fun y =>
  y =
    (mkCv x_1.it.s x_1.it.m x_1.it.h x_1.it.d x_1.it.u x_1.it.t x_1.it.c x_1.it.a0 x_1.it.a1
          x_1.it.a2 x_1.it.a3 x_1.it.a4).tick
      ((IntKind.i64.wrap b).tmod (31457280 : Int)) =>
         (.leaf (.v (.one (.bool false (x_5.it.s == x_6.it.s &&
  (x_5.it.m == x_6.it.m &&
    (x_5.it.h == x_6.it.h &&
      (x_5.it.d == x_6.it.d &&
        (x_5.it.u == x_6.it.u &&
          (x_5.it.t == x_6.it.t &&
            (x_5.it.c == x_6.it.c &&
              (x_5.it.a0 == x_6.it.a0 &&
                (x_5.it.a1 == x_6.it.a1 &&
                  (x_5.it.a2 == x_6.it.a2 && (x_5.it.a3 == x_6.it.a3 && (x_5.it.a4 == x_6.it.a4 && true))))))))))))))))))))))
      (.leaf (.v (.one (.bool true false))))))))))))))))))))))))))))))))) := by kernel_rfl
def l8Mu (A : Option Addr) (K M X : Nat → Int) (len cap : Nat) (p : l8P) (x : l8X) : Nat := ((len : Int) - x.i).toNat
theorem l8_step (w : World) (A : Option Addr) (K M X : Nat → Int) (len cap : Nat) (p : l8P) (x : l8X) (hX : XOk w A (opCell K M X) 3 len) (hB : ∀ i, i < len → Ck.B (X i)) (h : l8Inv A K M X len cap p x) : Hid (roundT Try.prog w (flatT Try.prog) (ctrOf table) (callT Try.prog w (flatT Try.prog) (ctrOf table) (noLoop) 20) ((noLoop) 8) (roundOf (bodyAt Try.prog 8 0)) 0 (l8St A K M X len cap p) (l8Fin A K M X len cap p) l8NxX l8NxX x) (Kept (l8Inv A K M X len cap p) (l8Post A K M X len cap p) (l8Mu A K M X len cap p) x) := by
  obtain ⟨a, b⟩ := p
  obtain ⟨i, s, m, h_, d, u, t, c, a0, a1, a2, a3, a4⟩ := x
  constructor
  rw [l8step_tree]
  simp only [T.holds, Kept, l8Mu, and_self, true_and, and_true]
  try simp only [beq_self_eq_true, bne_self_eq_false, Bool.and_true, Bool.true_and, Bool.and_self, Bool.not_true, Bool.not_false, Bool.false_eq_true, Bool.true_eq_false, false_implies, forall_const, and_self, true_and, and_true, if_true, if_false, reduceIte]
  obtain ⟨h1, h2, hl, hk, hu⟩ := h
  simp only at h1 h2 hl hk hu
  have next : i < (len : Int) → IntKind.i64.wrap (i + 1) = i + 1 := fun hi => Ck.wi64 _ (by omega) (by omega)
  refine ⟨fun h => ?_, fun h => ⟨hk, hu⟩⟩
  have hi : i < (len : Int) := by simpa using h
  have hx : XOk w A (opCell K M X) 3 len ∧ 0 ≤ i ∧ i < (len : Int) ∧ 0 < 3 := ⟨hX, h1, hi, by decide⟩
  have hx2 : XOk w A (opCell K M X) 3 len ∧ 0 < 3 ∧ i.toNat < len ∧ 3 ≤ 3 := ⟨hX, by decide, by omega, by decide⟩
  have bX := hB i.toNat (by omega)
  have hu' : 0 ≤ u ∧ u ≤ 1048576 := ⟨hu.1, by omega⟩
  have ask : Ck.Ok ⟨s, m, h_, d, c⟩ ∧ (0 ≤ u ∧ u ≤ 1048576) ∧ Ck.B (X i.toNat) := ⟨hk, hu', bX⟩
  rw [next hi]
  exact ⟨hx, hx2, ask, ⟨by show 0 ≤ i + 1; omega, by show i + 1 ≤ (len : Int); omega, hl, Ck.doH_ok bX hk, Ck.doU_lt hu⟩, by show ((len : Int) - (i + 1)).toNat < ((len : Int) - i).toNat; omega⟩
theorem l8Lp_ok (w : World) (A : Option Addr) (K M X : Nat → Int) (len cap : Nat) (hX : XOk w A (opCell K M X) 3 len) (hB : ∀ i, i < len → Ck.B (X i)) : (l8Lp A K M X len cap).ok Try.prog w := by
  intro s t h
  unfold l8Lp at h
  simp only at h
  split at h
  · rename_i p _
    split at h
    · rename_i x _
      cases h
      exact loop_ok base2 (table_ok w) (callT_ok base2.mixed base2.names base2.eqs (table_ok w).ok (table_ok w).there (loops_none _ _) 20) ((loops_none _ _) 8) (c := roundOf (bodyAt Try.prog 8 0)) (by kernel_rfl) (id := 0) (n := 1) (st := l8St A K M X len cap p) (fin := l8Fin A K M X len cap p) (inv := l8Inv A K M X len cap p) (post := l8Post A K M X len cap p) (nx := l8NxX) (fx := l8NxX) (l8Mu A K M X len cap p) (fun x => by kernel_rfl) (fun y => by kernel_rfl) (fun x hx => l8_step w A K M X len cap p x hX hB hx) s x
    · cases h
  · cases h
theorem top1 {d : Int} (h : 0 ≤ d ∧ d < 512) : IntKind.u8.wrap (d.fdiv (2 ^ 8)) = d / 256 := by
  rw [Int.fdiv_eq_ediv_of_nonneg _ (by decide), Ck.wu8]; omega
theorem top64 {d : Int} (h : 0 ≤ d ∧ d < 512) : bits .or .u8 (d / 256) 64 = d / 256 + 64 := by
  have : d / 256 = 0 ∨ d / 256 = 1 := by omega
  rcases this with e | e <;> rw [e] <;> decide +kernel
def Cv.set (v : Cv) (t : Bool) : Cv := ⟨v.s, v.m, v.h, v.d, v.u, t, false, v.a0, v.a1, v.a2, v.a3, v.a4⟩
theorem write_lo (v : Cv) (h : 0 ≤ v.d ∧ v.d < 512) : v.write 4 (IntKind.u8.wrap (v.d.fdiv (2 ^ 8))) = v.set false := by
  rw [top1 h]
  have hd : v.d / 256 % 2 * 256 + v.d % 256 = v.d := by omega
  have h1 : v.d / 256 / 64 % 2 = 0 := by omega
  have h2 : v.d / 256 / 128 = 0 := by omega
  simp [Cv.write, Cv.set, Ck.wS, Ck.wM, Ck.wH, Ck.wD, Ck.wU, Ck.wT, Ck.wC, hd, h1, h2]
theorem write_hi (v : Cv) (h : 0 ≤ v.d ∧ v.d < 512) : v.write 4 (bits .or .u8 (IntKind.u8.wrap (v.d.fdiv (2 ^ 8))) 64) = v.set true := by
  rw [top1 h, top64 h]
  have hd : (v.d / 256 + 64) % 2 * 256 + v.d % 256 = v.d := by omega
  have h1 : (v.d / 256 + 64) / 64 % 2 = 1 := by omega
  have h2 : (v.d / 256 + 64) / 128 = 0 := by omega
  simp [Cv.write, Cv.set, Ck.wS, Ck.wM, Ck.wH, Ck.wD, Ck.wU, Ck.wT, Ck.wC, hd, h1, h2]
theorem tick_set (v : Cv) (n : Int) : (v.set true).tick n = v.set true := by
  have := (Ck.tk_stands (u := v.u) (n := n) (a := (v.set true).hd))
  simp only [Cv.tick, show (v.set true).t = true from rfl, show (v.set true).u = v.u from rfl, this.1, this.2]
  rfl
def Cv.fine (v : Cv) : Prop := Ck.Ok v.hd ∧ 0 ≤ v.u ∧ v.u < 1048576
set_option maxHeartbeats 4000000 in
theorem stands_walk (w : World) (A : Option Addr) (K M X : Nat → Int) (len cap : Nat) (a b : Int) (hX : XOk w A (opCell K M X) 3 len) (hB : ∀ i, i < len → Ck.B (X i)) (ba : 0 ≤ a ∧ a < 4294967296) (bb : 0 ≤ b ∧ b < 4294967296) : Calls Try.prog 8 #[.slice A len cap, .int .u32 a, .int .u32 b] w fun e w' => e = .returned (.bool true) ∧ Below w.heap.size w w' := by
  have hl : LcsOk Try.prog w (lpOf Try.prog [l8Lp A K M X len cap]) := lps_ok fun l hl => by
    simp only [List.mem_cons, List.not_mem_nil, or_false] at hl
    subst hl
    exact l8Lp_ok w A K M X len cap hX hB
  refine val_eq base2 (tableF_ok w) hl (stands_tree w A K M X len cap a b) rfl ?_
  simp only [T.holds, and_self, true_and, and_true]
  refine ⟨fun _ => ⟨rfl, rfl⟩, fun h => ⟨⟨by show (0:Int) ≤ 0; omega, by show (0:Int) ≤ (len : Int); omega, by simp at h; omega, ⟨⟨by decide, by decide⟩, ⟨by decide, by decide⟩, ⟨by decide, by decide⟩, ⟨by decide, by decide⟩⟩, ⟨by decide, by decide⟩⟩, fun y => ?_⟩⟩
  obtain ⟨⟨yi, ys, ym, yh, yd, yu, yt, yc, y0, y1, y2, y3, y4⟩, ok, hu⟩ := y
  dsimp only at ok hu ⊢
  obtain ⟨V, hV⟩ : ∃ V : Cv, V = mkCv ys ym yh yd yu yt yc y0 y1 y2 y3 y4 := ⟨_, rfl⟩
  have ok' : Ck.Ok V.hd := by rw [hV]; exact ok
  have hu' : 0 ≤ V.u ∧ V.u < 1048576 := by rw [hV]; exact hu
  obtain ⟨bs, bm, bh, bd⟩ := id ok'
  have bd : 0 ≤ V.d ∧ V.d < 512 := bd
  have bt : Ck.B (V.d / 256) := ⟨by omega, by omega⟩
  have bt' : Ck.B (V.d / 256 + 64) := ⟨by omega, by omega⟩
  have bdy : 0 ≤ yd ∧ yd < 512 := ok.d
  refine ⟨⟨ok.s, ok.m, ok.h, bdy.1, bdy.2, by rw [top1 bdy]; exact ⟨by omega, by omega⟩⟩, fun x1 => ?_⟩
  obtain ⟨x1, q1⟩ := x1
  replace q1 : x1 = V.set false := by rw [hV] at bd ⊢; exact q1.trans (write_lo (mkCv ys ym yh yd yu yt yc y0 y1 y2 y3 y4) bd)
  dsimp only
  have ok1 : Ck.Ok (V.set false).hd := ⟨bs, bm, bh, bd⟩
  have ok2 : Ck.Ok (V.set true).hd := ⟨bs, bm, bh, bd⟩
  have hu2 : 0 ≤ V.u ∧ V.u ≤ 1048576 := ⟨hu'.1, by omega⟩
  refine ⟨⟨by rw [q1]; exact bs, by rw [q1]; exact bm, by rw [q1]; exact bh, by rw [q1]; exact bd.1, by rw [q1]; exact bd.2, by rw [q1]; show Ck.B (bits .or .u8 (IntKind.u8.wrap (V.d.fdiv (2 ^ 8))) 64); rw [top1 bd, top64 bd]; exact bt'⟩, fun x2 => ?_⟩
  obtain ⟨x2, q2⟩ := x2
  replace q2 : x2 = V.set true := q2.trans (by rw [mk_it, q1]; exact write_hi (V.set false) bd)
  dsimp only
  refine ⟨⟨by rw [q2]; exact ok2, by rw [q2]; exact hu2.1, by rw [q2]; exact hu2.2⟩, fun x3 => ?_⟩
  obtain ⟨x3, q3⟩ := x3
  replace q3 : x3 = V.set true := q3.trans (by rw [mk_it, q2]; exact tick_set V _)
  dsimp only
  rw [show x3 = x2 from q3.trans q2.symm]
  simp only [beq_self_eq_true, Bool.and_self, Bool.and_true, forall_const, Bool.true_eq_false, false_implies, and_true]
  refine ⟨⟨by rw [q2]; exact bs, by rw [q2]; exact bm, by rw [q2]; exact bh, by rw [q2]; exact bd.1, by rw [q2]; exact bd.2, by rw [q2]; show Ck.B (IntKind.u8.wrap (V.d.fdiv (2 ^ 8))); rw [top1 bd]; exact bt⟩, fun x4 => ?_⟩
  obtain ⟨x4, q4⟩ := x4
  replace q4 : x4 = V.set false := q4.trans (by rw [mk_it, q2]; exact write_lo (V.set true) bd)
  dsimp only
  refine ⟨⟨by rw [q4]; exact ok1, by rw [q4]; exact hu2.1, by rw [q4]; exact hu2.2⟩, fun x5 => ?_⟩
  obtain ⟨x5, q5⟩ := x5
  replace q5 : x5 = (V.set false).tick ((IntKind.i64.wrap b).tmod 31457280) := q5.trans (by rw [mk_it, q4])
  dsimp only
  refine ⟨⟨by rw [q1]; exact ok1, by rw [q1]; exact hu2.1, by rw [q1]; exact hu2.2⟩, fun x6 => ?_⟩
  obtain ⟨x6, q6⟩ := x6
  replace q6 : x6 = x5 := q6.trans (by rw [mk_it, q1, q5])
  dsimp only
  rw [q6]
  simp only [beq_self_eq_true, Bool.and_self, Bool.and_true]
  exact ⟨rfl, rfl⟩
end Go.Proofs.Ytpmgaoigelplgaa
