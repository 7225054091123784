/-
  Walk of a statement of the clock, by computing, with its rounds: what was written is held, and read. Bytes are below 256, words below 4294967296; no other condition.
-/
import Derived.Test.YtpmgaoigelplgaaA4
import Derived.Test.YtpmgaoigelplgaaSymA
namespace Go.Proofs.Ytpmgaoigelplgaa
open Go.RowKit sym
set_option linter.unusedVariables false
set_option linter.unusedSimpArgs false
set_option maxRecDepth 100000
def opCell (K M X : Nat → Int) : Nat → Nat → Sc := fun i q => match q with
  | 0 => .int false .i64 (K i)
  | 1 => .int false .i64 (M i)
  | _ => .int false .u8 (X i)
def wordCell (P : Nat → Int) : Nat → Nat → Sc := fun i _ => .int false .u32 (P i)
structure l7P where
  part : Int
  xx : Int
  cyc : Int
structure l7X where
  i : Int
  s : Int
  m : Int
  h_ : Int
  d : Int
  u : Int
  t : Bool
  c : Bool
  a0 : Int
  a1 : Int
  a2 : Int
  a3 : Int
  a4 : Int
def l7St (A : Option Addr) (K M X : Nat → Int) (len cap : Nat) : l7P → l7X → ASt := fun ⟨part, xx, cyc⟩ ⟨i, s, m, h_, d, u, t, c, a0, a1, a2, a3, a4⟩ => ⟨slots (List.replicate 85 .any) [(0, .v (.one (.xs A (opCell K M X) 3 len cap))), (1, .v (.one (.int false .u8 part))), (2, .v (.one (.int false .u8 xx))), (3, .v (.one (.int false .u32 cyc))), (9, .v (.one (.ptr 0 0))), (26, .v (.one (.int false .i64 (len : Int)))), (27, .v (.one (.int false .i64 i)))], [⟨[.int false .u8 s, .int false .u8 m, .int false .u8 h_, .int false .i64 d, .int false .i64 u, .bool false t, .bool false c, .int false .u8 a0, .int false .u8 a1, .int false .u8 a2, .int false .u8 a3, .int false .u8 a4], 26⟩]⟩
def l7Fin (A : Option Addr) (K M X : Nat → Int) (len cap : Nat) : l7P → l7X → ASt := fun ⟨part, xx, cyc⟩ ⟨i, s, m, h_, d, u, t, c, a0, a1, a2, a3, a4⟩ => ⟨slots (List.replicate 85 .any) [(0, .v (.one (.xs A (opCell K M X) 3 len cap))), (1, .v (.one (.int false .u8 part))), (2, .v (.one (.int false .u8 xx))), (3, .v (.one (.int false .u32 cyc))), (9, .v (.one (.ptr 0 0))), (26, .v (.one (.int false .i64 (len : Int)))), (27, .v (.one (.int false .i64 i)))], [⟨[.int false .u8 s, .int false .u8 m, .int false .u8 h_, .int false .i64 d, .int false .i64 u, .bool false t, .bool false c, .int false .u8 a0, .int false .u8 a1, .int false .u8 a2, .int false .u8 a3, .int false .u8 a4], 26⟩]⟩
def l7NxP : ASt → Option l7P := fun st_ => match gI st_ 1 with | none => none | some part => match gI st_ 2 with | none => none | some xx => match gI st_ 3 with | none => none | some cyc => some ⟨part, xx, cyc⟩
def l7NxX : ASt → Option l7X := fun st_ => match gI st_ 27 with | none => none | some i => match hI st_ 0 0 with | none => none | some s => match hI st_ 0 1 with | none => none | some m => match hI st_ 0 2 with | none => none | some h_ => match hI st_ 0 3 with | none => none | some d => match hI st_ 0 4 with | none => none | some u => match hB st_ 0 5 with | none => none | some t => match hB st_ 0 6 with | none => none | some c => match hI st_ 0 7 with | none => none | some a0 => match hI st_ 0 8 with | none => none | some a1 => match hI st_ 0 9 with | none => none | some a2 => match hI st_ 0 10 with | none => none | some a3 => match hI st_ 0 11 with | none => none | some a4 => some ⟨i, s, m, h_, d, u, t, c, a0, a1, a2, a3, a4⟩
structure l7Inv (A : Option Addr) (K M X : Nat → Int) (len cap : Nat) (p : l7P) (x : l7X) : Prop where
  i0 : 0 ≤ x.i
  i1 : x.i ≤ len
  lm : len ≤ 60
  ok : Ck.Ok (⟨x.s, x.m, x.h_, x.d, x.c⟩ : Ck.Hd)
  u : 0 ≤ x.u ∧ x.u < 1048576
structure l7Post (A : Option Addr) (K M X : Nat → Int) (len cap : Nat) (p : l7P) (x : l7X) : Prop where
  ok : Ck.Ok (⟨x.s, x.m, x.h_, x.d, x.c⟩ : Ck.Hd)
  u : 0 ≤ x.u ∧ x.u < 1048576
def l7Lp (A : Option Addr) (K M X : Nat → Int) (len cap : Nat) : Lp := ⟨7, 0, fun s => match l7NxP s with
  | some p => match l7NxX s with
    | some x => some (loopT 0 1 (l7St A K M X len cap p) (l7Fin A K M X len cap p) (l7Inv A K M X len cap p) (l7Post A K M X len cap p) s x)
    | none => none
  | none => none⟩
structure r7P where
  cyc : Int
  n : Int
  s0 : Int
  m0 : Int
  h0 : Int
  d0 : Int
  u0 : Int
  t0 : Bool
  c0 : Bool
  a00 : Int
  a10 : Int
  a20 : Int
  a30 : Int
  a40 : Int
  s1 : Int
  m1 : Int
  h1 : Int
  d1 : Int
  u1 : Int
  t1 : Bool
  c1 : Bool
  a01 : Int
  a11 : Int
  a21 : Int
  a31 : Int
  a41 : Int
  s2 : Int
  m2 : Int
  h2 : Int
  d2 : Int
  u2 : Int
  t2 : Bool
  c2 : Bool
  a02 : Int
  a12 : Int
  a22 : Int
  a32 : Int
  a42 : Int
structure r7X where
  i : Int
def r7St  : r7P → r7X → ASt := fun ⟨cyc, n, s0, m0, h0, d0, u0, t0, c0, a00, a10, a20, a30, a40, s1, m1, h1, d1, u1, t1, c1, a01, a11, a21, a31, a41, s2, m2, h2, d2, u2, t2, c2, a02, a12, a22, a32, a42⟩ ⟨i⟩ => ⟨slots (List.replicate 85 .any) [(3, .v (.one (.int false .u32 cyc))), (11, .v (.one (.int false .i64 n))), (12, .v (.one (.ptr 1 0))), (13, .v (.one (.ptr 2 0))), (57, .v (.one (.int false .i64 i)))], [⟨[.int false .u8 s0, .int false .u8 m0, .int false .u8 h0, .int false .i64 d0, .int false .i64 u0, .bool false t0, .bool false c0, .int false .u8 a00, .int false .u8 a10, .int false .u8 a20, .int false .u8 a30, .int false .u8 a40], 26⟩, ⟨[.int false .u8 s1, .int false .u8 m1, .int false .u8 h1, .int false .i64 d1, .int false .i64 u1, .bool false t1, .bool false c1, .int false .u8 a01, .int false .u8 a11, .int false .u8 a21, .int false .u8 a31, .int false .u8 a41], 26⟩, ⟨[.int false .u8 s2, .int false .u8 m2, .int false .u8 h2, .int false .i64 d2, .int false .i64 u2, .bool false t2, .bool false c2, .int false .u8 a02, .int false .u8 a12, .int false .u8 a22, .int false .u8 a32, .int false .u8 a42], 26⟩, ⟨[.int true .u8 63, .int true .u8 63, .int true .u8 31, .int true .u8 255, .int true .u8 193], 24⟩]⟩
def r7Fin  : r7P → r7X → ASt := fun ⟨cyc, n, s0, m0, h0, d0, u0, t0, c0, a00, a10, a20, a30, a40, s1, m1, h1, d1, u1, t1, c1, a01, a11, a21, a31, a41, s2, m2, h2, d2, u2, t2, c2, a02, a12, a22, a32, a42⟩ ⟨i⟩ => ⟨slots (List.replicate 85 .any) [(3, .v (.one (.int false .u32 cyc))), (11, .v (.one (.int false .i64 n))), (12, .v (.one (.ptr 1 0))), (13, .v (.one (.ptr 2 0))), (57, .v (.one (.int false .i64 i)))], [⟨[.int false .u8 s0, .int false .u8 m0, .int false .u8 h0, .int false .i64 d0, .int false .i64 u0, .bool false t0, .bool false c0, .int false .u8 a00, .int false .u8 a10, .int false .u8 a20, .int false .u8 a30, .int false .u8 a40], 26⟩, ⟨[.int false .u8 s1, .int false .u8 m1, .int false .u8 h1, .int false .i64 d1, .int false .i64 u1, .bool false t1, .bool false c1, .int false .u8 a01, .int false .u8 a11, .int false .u8 a21, .int false .u8 a31, .int false .u8 a41], 26⟩, ⟨[.int false .u8 s2, .int false .u8 m2, .int false .u8 h2, .int false .i64 d2, .int false .i64 u2, .bool false t2, .bool false c2, .int false .u8 a02, .int false .u8 a12, .int false .u8 a22, .int false .u8 a32, .int false .u8 a42], 26⟩, ⟨[.int true .u8 63, .int true .u8 63, .int true .u8 31, .int true .u8 255, .int true .u8 193], 24⟩]⟩
def r7NxP : ASt → Option r7P := fun st_ => match gI st_ 3 with | none => none | some cyc => match gI st_ 11 with | none => none | some n => match hI st_ 0 0 with | none => none | some s0 => match hI st_ 0 1 with | none => none | some m0 => match hI st_ 0 2 with | none => none | some h0 => match hI st_ 0 3 with | none => none | some d0 => match hI st_ 0 4 with | none => none | some u0 => match hB st_ 0 5 with | none => none | some t0 => match hB st_ 0 6 with | none => none | some c0 => match hI st_ 0 7 with | none => none | some a00 => match hI st_ 0 8 with | none => none | some a10 => match hI st_ 0 9 with | none => none | some a20 => match hI st_ 0 10 with | none => none | some a30 => match hI st_ 0 11 with | none => none | some a40 => match hI st_ 1 0 with | none => none | some s1 => match hI st_ 1 1 with | none => none | some m1 => match hI st_ 1 2 with | none => none | some h1 => match hI st_ 1 3 with | none => none | some d1 => match hI st_ 1 4 with | none => none | some u1 => match hB st_ 1 5 with | none => none | some t1 => match hB st_ 1 6 with | none => none | some c1 => match hI st_ 1 7 with | none => none | some a01 => match hI st_ 1 8 with | none => none | some a11 => match hI st_ 1 9 with | none => none | some a21 => match hI st_ 1 10 with | none => none | some a31 => match hI st_ 1 11 with | none => none | some a41 => match hI st_ 2 0 with | none => none | some s2 => match hI st_ 2 1 with | none => none | some m2 => match hI st_ 2 2 with | none => none | some h2 => match hI st_ 2 3 with | none => none | some d2 => match hI st_ 2 4 with | none => none | some u2 => match hB st_ 2 5 with | none => none | some t2 => match hB st_ 2 6 with | none => none | some c2 => match hI st_ 2 7 with | none => none | some a02 => match hI st_ 2 8 with | none => none | some a12 => match hI st_ 2 9 with | none => none | some a22 => match hI st_ 2 10 with | none => none | some a32 => match hI st_ 2 11 with | none => none | some a42 => some ⟨cyc, n, s0, m0, h0, d0, u0, t0, c0, a00, a10, a20, a30, a40, s1, m1, h1, d1, u1, t1, c1, a01, a11, a21, a31, a41, s2, m2, h2, d2, u2, t2, c2, a02, a12, a22, a32, a42⟩
def r7NxX : ASt → Option r7X := fun st_ => match gI st_ 57 with | none => none | some i => some ⟨i⟩
structure r7Inv  (p : r7P) (x : r7X) : Prop where
  i0 : 0 ≤ x.i
  i1 : x.i ≤ 5
  ok : Ck.Ok ⟨p.s1, p.m1, p.h1, p.d1, p.c1⟩
  ub : 0 ≤ p.u1 ∧ p.u1 ≤ 1048576
  same : ∀ i : Int, i ≠ p.n → Ck.rd i p.a01 p.a11 p.a21 p.a31 p.a41 = Ck.rd i p.a02 p.a12 p.a22 p.a32 p.a42
structure r7Post  (p : r7P) (x : r7X) : Prop where
  tt : True
def r7Lp  : Lp := ⟨7, 2, fun s => match r7NxP s with
  | some p => match r7NxX s with
    | some x => some (loopT 2 4 (r7St  p) (r7Fin  p) (r7Inv  p) (r7Post  p) s x)
    | none => none
  | none => none⟩
theorem l7step_tree (w : World) (A : Option Addr) (K M X : Nat → Int) (len cap : Nat) (part : Int) (xx : Int) (cyc : Int) (i : Int) (s : Int) (m : Int) (h_ : Int) (d : Int) (u : Int) (t : Bool) (c : Bool) (a0 : Int) (a1 : Int) (a2 : Int) (a3 : Int) (a4 : Int) :
    roundT Try.prog w (flatT Try.prog) (ctrOf table) (callT Try.prog w (flatT Try.prog) (ctrOf table) (noLoop) 20) ((noLoop) 7) (roundOf (bodyAt Try.prog 7 0)) 0 (l7St A K M X len cap ⟨part, xx, cyc⟩) (l7Fin A K M X len cap ⟨part, xx, cyc⟩) l7NxX l7NxX ⟨i, s, m, h_, d, u, t, c, a0, a1, a2, a3, a4⟩ =
(.br (decide (i < (↑len : Int)))
 (.chk (sym.XOk w A (opCell K M X) (3 : Nat) len ∧
  (0 : Int) ≤ i ∧ i < (↑len : Int) ∧ (0 : Nat) < (3 : Nat))
 (.chk (sym.XOk w A (opCell K M X) (3 : Nat) len ∧
  (0 : Nat) < (3 : Nat) ∧ i.toNat < len ∧ (3 : Nat) ≤ (3 : Nat))
 (.chk (Ck.Ok { s := s, m := m, h := h_, d := d, cy := c } ∧
  ((0 : Int) ≤ u ∧ u ≤ (1048576 : Int)) ∧ Ck.B (X i.toNat))
 (.chk (A = A ∧
  opCell K M X = opCell K M X ∧
    (3 : Nat) = (3 : Nat) ∧ len = len ∧ cap = cap)
 (.chk (IntKind.u8 = IntKind.u8 ∧ part = part)
 (.chk (IntKind.u8 = IntKind.u8 ∧ xx = xx)
 (.chk (IntKind.u32 = IntKind.u32 ∧ cyc = cyc)
 (.chk (IntKind.i64 = IntKind.i64 ∧ (↑len : Int) = (↑len : Int))
 (.chk (IntKind.i64 = IntKind.i64 ∧ IntKind.i64.wrap (i + (1 : Int)) = IntKind.i64.wrap (i + (1 : Int)))
 (.chk (IntKind.u8 = IntKind.u8 ∧
  (Ck.doH (K i.toNat) (M i.toNat) (X i.toNat) t u
        { s := s, m := m, h := h_, d := d, cy := c }).s =
    (Ck.doH (K i.toNat) (M i.toNat) (X i.toNat) t u
        { s := s, m := m, h := h_, d := d, cy := c }).s)
 (.chk (IntKind.u8 = IntKind.u8 ∧
  (Ck.doH (K i.toNat) (M i.toNat) (X i.toNat) t u
        { s := s, m := m, h := h_, d := d, cy := c }).m =
    (Ck.doH (K i.toNat) (M i.toNat) (X i.toNat) t u
        { s := s, m := m, h := h_, d := d, cy := c }).m)
 (.chk (IntKind.u8 = IntKind.u8 ∧
  (Ck.doH (K i.toNat) (M i.toNat) (X i.toNat) t u
        { s := s, m := m, h := h_, d := d, cy := c }).h =
    (Ck.doH (K i.toNat) (M i.toNat) (X i.toNat) t u
        { s := s, m := m, h := h_, d := d, cy := c }).h)
 (.chk (IntKind.i64 = IntKind.i64 ∧
  (Ck.doH (K i.toNat) (M i.toNat) (X i.toNat) t u
        { s := s, m := m, h := h_, d := d, cy := c }).d =
    (Ck.doH (K i.toNat) (M i.toNat) (X i.toNat) t u
        { s := s, m := m, h := h_, d := d, cy := c }).d)
 (.chk (IntKind.i64 = IntKind.i64 ∧
  Ck.doU (K i.toNat) (M i.toNat) t u =
    Ck.doU (K i.toNat) (M i.toNat) t u)
 (.chk (Ck.doT (K i.toNat) (M i.toNat) (X i.toNat) t =
  Ck.doT (K i.toNat) (M i.toNat) (X i.toNat) t)
 (.chk ((Ck.doH (K i.toNat) (M i.toNat) (X i.toNat) t u
      { s := s, m := m, h := h_, d := d, cy := c }).cy =
  (Ck.doH (K i.toNat) (M i.toNat) (X i.toNat) t u
      { s := s, m := m, h := h_, d := d, cy := c }).cy)
 (.chk (IntKind.u8 = IntKind.u8 ∧
  Ck.doA (K i.toNat) s a0 = Ck.doA (K i.toNat) s a0)
 (.chk (IntKind.u8 = IntKind.u8 ∧
  Ck.doA (K i.toNat) m a1 = Ck.doA (K i.toNat) m a1)
 (.chk (IntKind.u8 = IntKind.u8 ∧
  Ck.doA (K i.toNat) h_ a2 = Ck.doA (K i.toNat) h_ a2)
 (.chk (IntKind.u8 = IntKind.u8 ∧
  Ck.doA (K i.toNat) (d % (256 : Int)) a3 =
    Ck.doA (K i.toNat) (d % (256 : Int)) a3)
 (.chk (IntKind.u8 = IntKind.u8 ∧
  Ck.doA (K i.toNat) (Ck.top d t c) a4 =
    Ck.doA (K i.toNat) (Ck.top d t c) a4)
 (.leaf (.inl ⟨IntKind.i64.wrap (i + (1 : Int)), (Ck.doH (K i.toNat) (M i.toNat) (X i.toNat) t u
    { s := s, m := m, h := h_, d := d, cy := c }).s, (Ck.doH (K i.toNat) (M i.toNat) (X i.toNat) t u
    { s := s, m := m, h := h_, d := d, cy := c }).m, (Ck.doH (K i.toNat) (M i.toNat) (X i.toNat) t u
    { s := s, m := m, h := h_, d := d, cy := c }).h, (Ck.doH (K i.toNat) (M i.toNat) (X i.toNat) t u
    { s := s, m := m, h := h_, d := d, cy := c }).d, Ck.doU (K i.toNat) (M i.toNat) t u, Ck.doT (K i.toNat) (M i.toNat) (X i.toNat) t, (Ck.doH (K i.toNat) (M i.toNat) (X i.toNat) t u
    { s := s, m := m, h := h_, d := d, cy := c }).cy, Ck.doA (K i.toNat) s a0, Ck.doA (K i.toNat) m a1, Ck.doA (K i.toNat) h_ a2, Ck.doA (K i.toNat) (d % (256 : Int)) a3, Ck.doA (K i.toNat) (Ck.top d t c) a4⟩)))))))))))))))))))))))
 (.chk (A = A ∧
  opCell K M X = opCell K M X ∧
    (3 : Nat) = (3 : Nat) ∧ len = len ∧ cap = cap)
 (.chk (IntKind.u8 = IntKind.u8 ∧ part = part)
 (.chk (IntKind.u8 = IntKind.u8 ∧ xx = xx)
 (.chk (IntKind.u32 = IntKind.u32 ∧ cyc = cyc)
 (.chk (IntKind.i64 = IntKind.i64 ∧ (↑len : Int) = (↑len : Int))
 (.chk (IntKind.i64 = IntKind.i64 ∧ i = i)
 (.chk (IntKind.u8 = IntKind.u8 ∧ s = s)
 (.chk (IntKind.u8 = IntKind.u8 ∧ m = m)
 (.chk (IntKind.u8 = IntKind.u8 ∧ h_ = h_)
 (.chk (IntKind.i64 = IntKind.i64 ∧ d = d)
 (.chk (IntKind.i64 = IntKind.i64 ∧ u = u)
 (.chk (t = t)
 (.chk (c = c)
 (.chk (IntKind.u8 = IntKind.u8 ∧ a0 = a0)
 (.chk (IntKind.u8 = IntKind.u8 ∧ a1 = a1)
 (.chk (IntKind.u8 = IntKind.u8 ∧ a2 = a2)
 (.chk (IntKind.u8 = IntKind.u8 ∧ a3 = a3)
 (.chk (IntKind.u8 = IntKind.u8 ∧ a4 = a4)
 (.leaf (.inr ⟨i, s, m, h_, d, u, t, c, a0, a1, a2, a3, a4⟩))))))))))))))))))))) := by kernel_rfl
theorem r7step_tree (w : World)  (cyc : Int) (n : Int) (s0 : Int) (m0 : Int) (h0 : Int) (d0 : Int) (u0 : Int) (t0 : Bool) (c0 : Bool) (a00 : Int) (a10 : Int) (a20 : Int) (a30 : Int) (a40 : Int) (s1 : Int) (m1 : Int) (h1 : Int) (d1 : Int) (u1 : Int) (t1 : Bool) (c1 : Bool) (a01 : Int) (a11 : Int) (a21 : Int) (a31 : Int) (a41 : Int) (s2 : Int) (m2 : Int) (h2 : Int) (d2 : Int) (u2 : Int) (t2 : Bool) (c2 : Bool) (a02 : Int) (a12 : Int) (a22 : Int) (a32 : Int) (a42 : Int) (i : Int) :
    roundT Try.prog w (flatT Try.prog) (ctrOf table) (callT Try.prog w (flatT Try.prog) (ctrOf table) (noLoop) 20) ((noLoop) 7) (roundOf (bodyAt Try.prog 7 2)) 2 (r7St  ⟨cyc, n, s0, m0, h0, d0, u0, t0, c0, a00, a10, a20, a30, a40, s1, m1, h1, d1, u1, t1, c1, a01, a11, a21, a31, a41, s2, m2, h2, d2, u2, t2, c2, a02, a12, a22, a32, a42⟩) (r7Fin  ⟨cyc, n, s0, m0, h0, d0, u0, t0, c0, a00, a10, a20, a30, a40, s1, m1, h1, d1, u1, t1, c1, a01, a11, a21, a31, a41, s2, m2, h2, d2, u2, t2, c2, a02, a12, a22, a32, a42⟩) r7NxX r7NxX ⟨i⟩ =
(.br (decide (i < (5 : Int)))
 (.br (i != n)
  (.chk (True)
  (.chk (True)
  (.br (Ck.rd i a01 a11 a21 a31 a41 != Ck.rd i a02 a12 a22 a32 a42)
   (.fail "ret")
   (.chk (Ck.Ok { s := s1, m := m1, h := h1, d := d1, cy := c1 } ∧
  (0 : Int) ≤ u1 ∧ u1 ≤ (1048576 : Int))
   (.chk (True)
   (.chk (True)
   (.br (Ck.rd i a01 a11 a21 a31 a41 != Ck.rd i a01 a11 a21 a31 a41)
    (.fail "ret")
    (.chk (IntKind.u32 = IntKind.u32 ∧ cyc = cyc)
    (.chk (IntKind.i64 = IntKind.i64 ∧ n = n)
    (.chk (IntKind.i64 = IntKind.i64 ∧ IntKind.i64.wrap (i + (1 : Int)) = IntKind.i64.wrap (i + (1 : Int)))
    (.chk (IntKind.u8 = IntKind.u8 ∧ s0 = s0)
    (.chk (IntKind.u8 = IntKind.u8 ∧ m0 = m0)
    (.chk (IntKind.u8 = IntKind.u8 ∧ h0 = h0)
    (.chk (IntKind.i64 = IntKind.i64 ∧ d0 = d0)
    (.chk (IntKind.i64 = IntKind.i64 ∧ u0 = u0)
    (.chk (t0 = t0)
    (.chk (c0 = c0)
    (.chk (IntKind.u8 = IntKind.u8 ∧ a00 = a00)
    (.chk (IntKind.u8 = IntKind.u8 ∧ a10 = a10)
    (.chk (IntKind.u8 = IntKind.u8 ∧ a20 = a20)
    (.chk (IntKind.u8 = IntKind.u8 ∧ a30 = a30)
    (.chk (IntKind.u8 = IntKind.u8 ∧ a40 = a40)
    (.chk (IntKind.u8 = IntKind.u8 ∧ s1 = s1)
    (.chk (IntKind.u8 = IntKind.u8 ∧ m1 = m1)
    (.chk (IntKind.u8 = IntKind.u8 ∧ h1 = h1)
    (.chk (IntKind.i64 = IntKind.i64 ∧ d1 = d1)
    (.chk (IntKind.i64 = IntKind.i64 ∧ u1 = u1)
    (.chk (t1 = t1)
    (.chk (c1 = c1)
    (.chk (IntKind.u8 = IntKind.u8 ∧ a01 = a01)
    (.chk (IntKind.u8 = IntKind.u8 ∧ a11 = a11)
    (.chk (IntKind.u8 = IntKind.u8 ∧ a21 = a21)
    (.chk (IntKind.u8 = IntKind.u8 ∧ a31 = a31)
    (.chk (IntKind.u8 = IntKind.u8 ∧ a41 = a41)
    (.chk (IntKind.u8 = IntKind.u8 ∧ s2 = s2)
    (.chk (IntKind.u8 = IntKind.u8 ∧ m2 = m2)
    (.chk (IntKind.u8 = IntKind.u8 ∧ h2 = h2)
    (.chk (IntKind.i64 = IntKind.i64 ∧ d2 = d2)
    (.chk (IntKind.i64 = IntKind.i64 ∧ u2 = u2)
    (.chk (t2 = t2)
    (.chk (c2 = c2)
    (.chk (IntKind.u8 = IntKind.u8 ∧ a02 = a02)
    (.chk (IntKind.u8 = IntKind.u8 ∧ a12 = a12)
    (.chk (IntKind.u8 = IntKind.u8 ∧ a22 = a22)
    (.chk (IntKind.u8 = IntKind.u8 ∧ a32 = a32)
    (.chk (IntKind.u8 = IntKind.u8 ∧ a42 = a42)
    (.chk (IntKind.u8 = IntKind.u8 ∧ (63 : Int) = (63 : Int))
    (.chk (IntKind.u8 = IntKind.u8 ∧ (63 : Int) = (63 : Int))
    (.chk (IntKind.u8 = IntKind.u8 ∧ (31 : Int) = (31 : Int))
    (.chk (IntKind.u8 = IntKind.u8 ∧ (255 : Int) = (255 : Int))
    (.chk (IntKind.u8 = IntKind.u8 ∧ (193 : Int) = (193 : Int))
    (.leaf (.inl ⟨IntKind.i64.wrap (i + (1 : Int))⟩)))))))))))))))))))))))))))))))))))))))))))))))))))))
  (.chk (Ck.Ok { s := s1, m := m1, h := h1, d := d1, cy := c1 } ∧
  (0 : Int) ≤ u1 ∧ u1 ≤ (1048576 : Int))
  (.chk (True)
  (.chk (True)
  (.br (Ck.rd i a01 a11 a21 a31 a41 != Ck.rd i a01 a11 a21 a31 a41)
   (.fail "ret")
   (.chk (IntKind.u32 = IntKind.u32 ∧ cyc = cyc)
   (.chk (IntKind.i64 = IntKind.i64 ∧ n = n)
   (.chk (IntKind.i64 = IntKind.i64 ∧ IntKind.i64.wrap (i + (1 : Int)) = IntKind.i64.wrap (i + (1 : Int)))
   (.chk (IntKind.u8 = IntKind.u8 ∧ s0 = s0)
   (.chk (IntKind.u8 = IntKind.u8 ∧ m0 = m0)
   (.chk (IntKind.u8 = IntKind.u8 ∧ h0 = h0)
   (.chk (IntKind.i64 = IntKind.i64 ∧ d0 = d0)
   (.chk (IntKind.i64 = IntKind.i64 ∧ u0 = u0)
   (.chk (t0 = t0)
   (.chk (c0 = c0)
   (.chk (IntKind.u8 = IntKind.u8 ∧ a00 = a00)
   (.chk (IntKind.u8 = IntKind.u8 ∧ a10 = a10)
   (.chk (IntKind.u8 = IntKind.u8 ∧ a20 = a20)
   (.chk (IntKind.u8 = IntKind.u8 ∧ a30 = a30)
   (.chk (IntKind.u8 = IntKind.u8 ∧ a40 = a40)
   (.chk (IntKind.u8 = IntKind.u8 ∧ s1 = s1)
   (.chk (IntKind.u8 = IntKind.u8 ∧ m1 = m1)
   (.chk (IntKind.u8 = IntKind.u8 ∧ h1 = h1)
   (.chk (IntKind.i64 = IntKind.i64 ∧ d1 = d1)
   (.chk (IntKind.i64 = IntKind.i64 ∧ u1 = u1)
   (.chk (t1 = t1)
   (.chk (c1 = c1)
   (.chk (IntKind.u8 = IntKind.u8 ∧ a01 = a01)
   (.chk (IntKind.u8 = IntKind.u8 ∧ a11 = a11)
   (.chk (IntKind.u8 = IntKind.u8 ∧ a21 = a21)
   (.chk (IntKind.u8 = IntKind.u8 ∧ a31 = a31)
   (.chk (IntKind.u8 = IntKind.u8 ∧ a41 = a41)
   (.chk (IntKind.u8 = IntKind.u8 ∧ s2 = s2)
   (.chk (IntKind.u8 = IntKind.u8 ∧ m2 = m2)
   (.chk (IntKind.u8 = IntKind.u8 ∧ h2 = h2)
   (.chk (IntKind.i64 = IntKind.i64 ∧ d2 = d2)
   (.chk (IntKind.i64 = IntKind.i64 ∧ u2 = u2)
   (.chk (t2 = t2)
   (.chk (c2 = c2)
   (.chk (IntKind.u8 = IntKind.u8 ∧ a02 = a02)
   (.chk (IntKind.u8 = IntKind.u8 ∧ a12 = a12)
   (.chk (IntKind.u8 = IntKind.u8 ∧ a22 = a22)
   (.chk (IntKind.u8 = IntKind.u8 ∧ a32 = a32)
   (.chk (IntKind.u8 = IntKind.u8 ∧ a42 = a42)
   (.chk (IntKind.u8 = IntKind.u8 ∧ (63 : Int) = (63 : Int))
   (.chk (IntKind.u8 = IntKind.u8 ∧ (63 : Int) = (63 : Int))
   (.chk (IntKind.u8 = IntKind.u8 ∧ (31 : Int) = (31 : Int))
   (.chk (IntKind.u8 = IntKind.u8 ∧ (255 : Int) = (255 : Int))
   (.chk (IntKind.u8 = IntKind.u8 ∧ (193 : Int) = (193 : Int))
   (.leaf (.inl ⟨IntKind.i64.wrap (i + (1 : Int))⟩)))))))))))))))))))))))))))))))))))))))))))))))))))
 (.chk (IntKind.u32 = IntKind.u32 ∧ cyc = cyc)
 (.chk (IntKind.i64 = IntKind.i64 ∧ n = n)
 (.chk (IntKind.i64 = IntKind.i64 ∧ i = i)
 (.chk (IntKind.u8 = IntKind.u8 ∧ s0 = s0)
 (.chk (IntKind.u8 = IntKind.u8 ∧ m0 = m0)
 (.chk (IntKind.u8 = IntKind.u8 ∧ h0 = h0)
 (.chk (IntKind.i64 = IntKind.i64 ∧ d0 = d0)
 (.chk (IntKind.i64 = IntKind.i64 ∧ u0 = u0)
 (.chk (t0 = t0)
 (.chk (c0 = c0)
 (.chk (IntKind.u8 = IntKind.u8 ∧ a00 = a00)
 (.chk (IntKind.u8 = IntKind.u8 ∧ a10 = a10)
 (.chk (IntKind.u8 = IntKind.u8 ∧ a20 = a20)
 (.chk (IntKind.u8 = IntKind.u8 ∧ a30 = a30)
 (.chk (IntKind.u8 = IntKind.u8 ∧ a40 = a40)
 (.chk (IntKind.u8 = IntKind.u8 ∧ s1 = s1)
 (.chk (IntKind.u8 = IntKind.u8 ∧ m1 = m1)
 (.chk (IntKind.u8 = IntKind.u8 ∧ h1 = h1)
 (.chk (IntKind.i64 = IntKind.i64 ∧ d1 = d1)
 (.chk (IntKind.i64 = IntKind.i64 ∧ u1 = u1)
 (.chk (t1 = t1)
 (.chk (c1 = c1)
 (.chk (IntKind.u8 = IntKind.u8 ∧ a01 = a01)
 (.chk (IntKind.u8 = IntKind.u8 ∧ a11 = a11)
 (.chk (IntKind.u8 = IntKind.u8 ∧ a21 = a21)
 (.chk (IntKind.u8 = IntKind.u8 ∧ a31 = a31)
 (.chk (IntKind.u8 = IntKind.u8 ∧ a41 = a41)
 (.chk (IntKind.u8 = IntKind.u8 ∧ s2 = s2)
 (.chk (IntKind.u8 = IntKind.u8 ∧ m2 = m2)
 (.chk (IntKind.u8 = IntKind.u8 ∧ h2 = h2)
 (.chk (IntKind.i64 = IntKind.i64 ∧ d2 = d2)
 (.chk (IntKind.i64 = IntKind.i64 ∧ u2 = u2)
 (.chk (t2 = t2)
 (.chk (c2 = c2)
 (.chk (IntKind.u8 = IntKind.u8 ∧ a02 = a02)
 (.chk (IntKind.u8 = IntKind.u8 ∧ a12 = a12)
 (.chk (IntKind.u8 = IntKind.u8 ∧ a22 = a22)
 (.chk (IntKind.u8 = IntKind.u8 ∧ a32 = a32)
 (.chk (IntKind.u8 = IntKind.u8 ∧ a42 = a42)
 (.chk (IntKind.u8 = IntKind.u8 ∧ (63 : Int) = (63 : Int))
 (.chk (IntKind.u8 = IntKind.u8 ∧ (63 : Int) = (63 : Int))
 (.chk (IntKind.u8 = IntKind.u8 ∧ (31 : Int) = (31 : Int))
 (.chk (IntKind.u8 = IntKind.u8 ∧ (255 : Int) = (255 : Int))
 (.chk (IntKind.u8 = IntKind.u8 ∧ (193 : Int) = (193 : Int))
 (.leaf (.inr ⟨i⟩))))))))))))))))))))))))))))))))))))))))))))))) := by kernel_rfl
theorem reads_tree (w : World) (A : Option Addr) (K M X : Nat → Int) (len cap : Nat) (part xx cyc : Int) :
    callV Try.prog w (flatT Try.prog) (ctrOf tableF) (lpOf Try.prog [l7Lp A K M X len cap, r7Lp]) 20 7 [.v (.one (.xs A (opCell K M X) 3 len cap)), .v (.one (.int false .u8 part)), .v (.one (.int false .u8 xx)), .v (.one (.int false .u32 cyc))] =
(.chk (True)
(.br (decide ((↑len : Int) > (60 : Int)))
 (.chk (True)
 (.leaf (.v (.one (.bool true true)))))
 (.chk (sym.bodyAt Go.Proofs.Try.prog (7 : Go.FuncId) (0 : Nat) = sym.bodyAt Go.Proofs.Try.prog (7 : Go.FuncId) (0 : Nat))
 (.chk (A = A ∧
  opCell K M X = opCell K M X ∧
    (3 : Nat) = (3 : Nat) ∧ len = len ∧ cap = cap)
 (.chk (IntKind.u8 = IntKind.u8 ∧ part = part)
 (.chk (IntKind.u8 = IntKind.u8 ∧ xx = xx)
 (.chk (IntKind.u32 = IntKind.u32 ∧ cyc = cyc)
 (.chk (IntKind.i64 = IntKind.i64 ∧ (↑len : Int) = (↑len : Int))
 (.chk (IntKind.i64 = IntKind.i64 ∧ (0 : Int) = (0 : Int))
 (.chk (IntKind.u8 = IntKind.u8 ∧ (0 : Int) = (0 : Int))
 (.chk (IntKind.u8 = IntKind.u8 ∧ (0 : Int) = (0 : Int))
 (.chk (IntKind.u8 = IntKind.u8 ∧ (0 : Int) = (0 : Int))
 (.chk (IntKind.i64 = IntKind.i64 ∧ (0 : Int) = (0 : Int))
 (.chk (IntKind.i64 = IntKind.i64 ∧ (0 : Int) = (0 : Int))
 (.chk (false = false)
 (.chk (false = false)
 (.chk (IntKind.u8 = IntKind.u8 ∧ (0 : Int) = (0 : Int))
 (.chk (IntKind.u8 = IntKind.u8 ∧ (0 : Int) = (0 : Int))
 (.chk (IntKind.u8 = IntKind.u8 ∧ (0 : Int) = (0 : Int))
 (.chk (IntKind.u8 = IntKind.u8 ∧ (0 : Int) = (0 : Int))
 (.chk (IntKind.u8 = IntKind.u8 ∧ (0 : Int) = (0 : Int))
 (.chk (l7Inv A K M X len cap { part := part, xx := xx, cyc := cyc }
  { i := (0 : Int), s := (0 : Int), m := (0 : Int), h_ := (0 : Int), d := (0 : Int), u := (0 : Int), t := false,
    c := false, a0 := (0 : Int), a1 := (0 : Int), a2 := (0 : Int), a3 := (0 : Int), a4 := (0 : Int) })
 (.all fun x : sym.Got l7X
  (l7Post A K M X len cap { part := part, xx := xx, cyc := cyc }) =>
  (.chk (Ck.B x.1.2 ∧
  Ck.B x.1.3 ∧
    Ck.B x.1.4 ∧ (0 : Int) ≤ x.1.5 ∧ x.1.5 < (512 : Int) ∧ Ck.B xx)
  (.all fun x_1 : sym.Got Cv fun y =>
  y =
    (mkCv x.1.2 x.1.3 x.1.4 x.1.5 x.1.6 x.1.7 x.1.8 x.1.9 x.1.10 x.1.11 x.1.12 x.1.13).write
      (IntKind.i64.wrap (part.tmod (5 : Int))) xx =>
   (.chk ((0 : Int) ≤ x_1.it.d ∧ x_1.it.d < (512 : Int))
   (.all fun x_2 : sym.Got Cv fun y =>
  y =
    (mkCv x_1.it.s x_1.it.m x_1.it.h x_1.it.d x_1.it.u x_1.it.t x_1.it.c x_1.it.a0 x_1.it.a1
        x_1.it.a2 x_1.it.a3 x_1.it.a4).hold =>
    (.chk ((0 : Int) ≤ x.1.5 ∧ x.1.5 < (512 : Int))
    (.all fun x_3 : sym.Got Cv fun y =>
  y = (mkCv x.1.2 x.1.3 x.1.4 x.1.5 x.1.6 x.1.7 x.1.8 x.1.9 x.1.10 x.1.11 x.1.12 x.1.13).hold =>
     (.chk (True)
     (.chk ((0 : Int) ≤ IntKind.i64.wrap (part.tmod (5 : Int)) ∧ IntKind.i64.wrap (part.tmod (5 : Int)) < ↑(5 : Nat))
     (.br (IntKind.i64.wrap (part.tmod (5 : Int)) == ↑(0 : Nat))
      (.br (Ck.rd (IntKind.i64.wrap (part.tmod (5 : Int))) x_2.it.a0 x_2.it.a1 x_2.it.a2 x_2.it.a3
    x_2.it.a4 !=
  bits BinOp.and IntKind.u8 xx (63 : Int))
       (.leaf (.v (.one (.bool true false))))
       (.chk (sym.bodyAt Go.Proofs.Try.prog (7 : Go.FuncId) (2 : Nat) = sym.bodyAt Go.Proofs.Try.prog (7 : Go.FuncId) (2 : Nat))
       (.chk (IntKind.u32 = IntKind.u32 ∧ cyc = cyc)
       (.chk (IntKind.i64 = IntKind.i64 ∧ IntKind.i64.wrap (part.tmod (5 : Int)) = IntKind.i64.wrap (part.tmod (5 : Int)))
       (.chk (IntKind.i64 = IntKind.i64 ∧ (0 : Int) = (0 : Int))
       (.chk (IntKind.u8 = IntKind.u8 ∧ x.1.2 = x.1.2)
       (.chk (IntKind.u8 = IntKind.u8 ∧ x.1.3 = x.1.3)
       (.chk (IntKind.u8 = IntKind.u8 ∧ x.1.4 = x.1.4)
       (.chk (IntKind.i64 = IntKind.i64 ∧ x.1.5 = x.1.5)
       (.chk (IntKind.i64 = IntKind.i64 ∧ x.1.6 = x.1.6)
       (.chk (x.1.7 = x.1.7)
       (.chk (x.1.8 = x.1.8)
       (.chk (IntKind.u8 = IntKind.u8 ∧ x.1.9 = x.1.9)
       (.chk (IntKind.u8 = IntKind.u8 ∧ x.1.10 = x.1.10)
       (.chk (IntKind.u8 = IntKind.u8 ∧ x.1.11 = x.1.11)
       (.chk (IntKind.u8 = IntKind.u8 ∧ x.1.12 = x.1.12)
       (.chk (IntKind.u8 = IntKind.u8 ∧ x.1.13 = x.1.13)
       (.chk (IntKind.u8 = IntKind.u8 ∧ x_2.it.s = x_2.it.s)
       (.chk (IntKind.u8 = IntKind.u8 ∧ x_2.it.m = x_2.it.m)
       (.chk (IntKind.u8 = IntKind.u8 ∧ x_2.it.h = x_2.it.h)
       (.chk (IntKind.i64 = IntKind.i64 ∧ x_2.it.d = x_2.it.d)
       (.chk (IntKind.i64 = IntKind.i64 ∧ x_2.it.u = x_2.it.u)
       (.chk (x_2.it.t = x_2.it.t)
       (.chk (x_2.it.c = x_2.it.c)
       (.chk (IntKind.u8 = IntKind.u8 ∧ x_2.it.a0 = x_2.it.a0)
       (.chk (IntKind.u8 = IntKind.u8 ∧ x_2.it.a1 = x_2.it.a1)
       (.chk (IntKind.u8 = IntKind.u8 ∧ x_2.it.a2 = x_2.it.a2)
       (.chk (IntKind.u8 = IntKind.u8 ∧ x_2.it.a3 = x_2.it.a3)
       (.chk (IntKind.u8 = IntKind.u8 ∧ x_2.it.a4 = x_2.it.a4)
       (.chk (IntKind.u8 = IntKind.u8 ∧ x_3.it.s = x_3.it.s)
       (.chk (IntKind.u8 = IntKind.u8 ∧ x_3.it.m = x_3.it.m)
       (.chk (IntKind.u8 = IntKind.u8 ∧ x_3.it.h = x_3.it.h)
       (.chk (IntKind.i64 = IntKind.i64 ∧ x_3.it.d = x_3.it.d)
       (.chk (IntKind.i64 = IntKind.i64 ∧ x_3.it.u = x_3.it.u)
       (.chk (x_3.it.t = x_3.it.t)
       (.chk (x_3.it.c = x_3.it.c)
       (.chk (IntKind.u8 = IntKind.u8 ∧ x_3.it.a0 = x_3.it.a0)
       (.chk (IntKind.u8 = IntKind.u8 ∧ x_3.it.a1 = x_3.it.a1)
       (.chk (IntKind.u8 = IntKind.u8 ∧ x_3.it.a2 = x_3.it.a2)
       (.chk (IntKind.u8 = IntKind.u8 ∧ x_3.it.a3 = x_3.it.a3)
       (.chk (IntKind.u8 = IntKind.u8 ∧ x_3.it.a4 = x_3.it.a4)
       (.chk (IntKind.u8 = IntKind.u8 ∧ (63 : Int) = (63 : Int))
       (.chk (IntKind.u8 = IntKind.u8 ∧ (63 : Int) = (63 : Int))
       (.chk (IntKind.u8 = IntKind.u8 ∧ (31 : Int) = (31 : Int))
       (.chk (IntKind.u8 = IntKind.u8 ∧ (255 : Int) = (255 : Int))
       (.chk (IntKind.u8 = IntKind.u8 ∧ (193 : Int) = (193 : Int))
       (.chk (r7Inv
  { cyc := cyc, n := IntKind.i64.wrap (part.tmod (5 : Int)), s0 := x.1.2, m0 := x.1.3, h0 := x.1.4, d0 := x.1.5,
    u0 := x.1.6, t0 := x.1.7, c0 := x.1.8, a00 := x.1.9, a10 := x.1.10, a20 := x.1.11, a30 := x.1.12, a40 := x.1.13,
    s1 := x_2.it.s, m1 := x_2.it.m, h1 := x_2.it.h, d1 := x_2.it.d, u1 := x_2.it.u, t1 := x_2.it.t, c1 := x_2.it.c,
    a01 := x_2.it.a0, a11 := x_2.it.a1, a21 := x_2.it.a2, a31 := x_2.it.a3, a41 := x_2.it.a4, s2 := x_3.it.s,
    m2 := x_3.it.m, h2 := x_3.it.h, d2 := x_3.it.d, u2 := x_3.it.u, t2 := x_3.it.t, c2 := x_3.it.c, a02 := x_3.it.a0,
    a12 := x_3.it.a1, a22 := x_3.it.a2, a32 := x_3.it.a3, a42 := x_3.it.a4 }
  { i := (0 : Int) })
       (.all fun x_4 : sym.Got r7X
  (r7Post
    { cyc := cyc, n := IntKind.i64.wrap (part.tmod (5 : Int)), s0 := x.1.2, m0 := x.1.3, h0 := x.1.4, d0 := x.1.5,
      u0 := x.1.6, t0 := x.1.7, c0 := x.1.8, a00 := x.1.9, a10 := x.1.10, a20 := x.1.11, a30 := x.1.12, a40 := x.1.13,
      s1 := x_2.it.s, m1 := x_2.it.m, h1 := x_2.it.h, d1 := x_2.it.d, u1 := x_2.it.u, t1 := x_2.it.t, c1 := x_2.it.c,
      a01 := x_2.it.a0, a11 := x_2.it.a1, a21 := x_2.it.a2, a31 := x_2.it.a3, a41 := x_2.it.a4, s2 := x_3.it.s,
      m2 := x_3.it.m, h2 := x_3.it.h, d2 := x_3.it.d, u2 := x_3.it.u, t2 := x_3.it.t, c2 := x_3.it.c, a02 := x_3.it.a0,
      a12 := x_3.it.a1, a22 := x_3.it.a2, a32 := x_3.it.a3, a42 := x_3.it.a4 }) =>
        (.leaf (.v (.one (.bool true true))))))))))))))))))))))))))))))))))))))))))))))))))))
      (.br (IntKind.i64.wrap (part.tmod (5 : Int)) == ↑(1 : Nat))
       (.br (Ck.rd (IntKind.i64.wrap (part.tmod (5 : Int))) x_2.it.a0 x_2.it.a1 x_2.it.a2 x_2.it.a3
    x_2.it.a4 !=
  bits BinOp.and IntKind.u8 xx (63 : Int))
        (.leaf (.v (.one (.bool true false))))
        (.chk (sym.bodyAt Go.Proofs.Try.prog (7 : Go.FuncId) (2 : Nat) = sym.bodyAt Go.Proofs.Try.prog (7 : Go.FuncId) (2 : Nat))
        (.chk (IntKind.u32 = IntKind.u32 ∧ cyc = cyc)
        (.chk (IntKind.i64 = IntKind.i64 ∧ IntKind.i64.wrap (part.tmod (5 : Int)) = IntKind.i64.wrap (part.tmod (5 : Int)))
        (.chk (IntKind.i64 = IntKind.i64 ∧ (0 : Int) = (0 : Int))
        (.chk (IntKind.u8 = IntKind.u8 ∧ x.1.2 = x.1.2)
        (.chk (IntKind.u8 = IntKind.u8 ∧ x.1.3 = x.1.3)
        (.chk (IntKind.u8 = IntKind.u8 ∧ x.1.4 = x.1.4)
        (.chk (IntKind.i64 = IntKind.i64 ∧ x.1.5 = x.1.5)
        (.chk (IntKind.i64 = IntKind.i64 ∧ x.1.6 = x.1.6)
        (.chk (x.1.7 = x.1.7)
        (.chk (x.1.8 = x.1.8)
        (.chk (IntKind.u8 = IntKind.u8 ∧ x.1.9 = x.1.9)
        (.chk (IntKind.u8 = IntKind.u8 ∧ x.1.10 = x.1.10)
        (.chk (IntKind.u8 = IntKind.u8 ∧ x.1.11 = x.1.11)
        (.chk (IntKind.u8 = IntKind.u8 ∧ x.1.12 = x.1.12)
        (.chk (IntKind.u8 = IntKind.u8 ∧ x.1.13 = x.1.13)
        (.chk (IntKind.u8 = IntKind.u8 ∧ x_2.it.s = x_2.it.s)
        (.chk (IntKind.u8 = IntKind.u8 ∧ x_2.it.m = x_2.it.m)
        (.chk (IntKind.u8 = IntKind.u8 ∧ x_2.it.h = x_2.it.h)
        (.chk (IntKind.i64 = IntKind.i64 ∧ x_2.it.d = x_2.it.d)
        (.chk (IntKind.i64 = IntKind.i64 ∧ x_2.it.u = x_2.it.u)
        (.chk (x_2.it.t = x_2.it.t)
        (.chk (x_2.it.c = x_2.it.c)
        (.chk (IntKind.u8 = IntKind.u8 ∧ x_2.it.a0 = x_2.it.a0)
        (.chk (IntKind.u8 = IntKind.u8 ∧ x_2.it.a1 = x_2.it.a1)
        (.chk (IntKind.u8 = IntKind.u8 ∧ x_2.it.a2 = x_2.it.a2)
        (.chk (IntKind.u8 = IntKind.u8 ∧ x_2.it.a3 = x_2.it.a3)
        (.chk (IntKind.u8 = IntKind.u8 ∧ x_2.it.a4 = x_2.it.a4)
        (.chk (IntKind.u8 = IntKind.u8 ∧ x_3.it.s = x_3.it.s)
        (.chk (IntKind.u8 = IntKind.u8 ∧ x_3.it.m = x_3.it.m)
        (.chk (IntKind.u8 = IntKind.u8 ∧ x_3.it.h = x_3.it.h)
        (.chk (IntKind.i64 = IntKind.i64 ∧ x_3.it.d = x_3.it.d)
        (.chk (IntKind.i64 = IntKind.i64 ∧ x_3.it.u = x_3.it.u)
        (.chk (x_3.it.t = x_3.it.t)
        (.chk (x_3.it.c = x_3.it.c)
        (.chk (IntKind.u8 = IntKind.u8 ∧ x_3.it.a0 = x_3.it.a0)
        (.chk (IntKind.u8 = IntKind.u8 ∧ x_3.it.a1 = x_3.it.a1)
        (.chk (IntKind.u8 = IntKind.u8 ∧ x_3.it.a2 = x_3.it.a2)
        (.chk (IntKind.u8 = IntKind.u8 ∧ x_3.it.a3 = x_3.it.a3)
        (.chk (IntKind.u8 = IntKind.u8 ∧ x_3.it.a4 = x_3.it.a4)
        (.chk (IntKind.u8 = IntKind.u8 ∧ (63 : Int) = (63 : Int))
        (.chk (IntKind.u8 = IntKind.u8 ∧ (63 : Int) = (63 : Int))
        (.chk (IntKind.u8 = IntKind.u8 ∧ (31 : Int) = (31 : Int))
        (.chk (IntKind.u8 = IntKind.u8 ∧ (255 : Int) = (255 : Int))
        (.chk (IntKind.u8 = IntKind.u8 ∧ (193 : Int) = (193 : Int))
        (.chk (r7Inv
  { cyc := cyc, n := IntKind.i64.wrap (part.tmod (5 : Int)), s0 := x.1.2, m0 := x.1.3, h0 := x.1.4, d0 := x.1.5,
    u0 := x.1.6, t0 := x.1.7, c0 := x.1.8, a00 := x.1.9, a10 := x.1.10, a20 := x.1.11, a30 := x.1.12, a40 := x.1.13,
    s1 := x_2.it.s, m1 := x_2.it.m, h1 := x_2.it.h, d1 := x_2.it.d, u1 := x_2.it.u, t1 := x_2.it.t, c1 := x_2.it.c,
    a01 := x_2.it.a0, a11 := x_2.it.a1, a21 := x_2.it.a2, a31 := x_2.it.a3, a41 := x_2.it.a4, s2 := x_3.it.s,
    m2 := x_3.it.m, h2 := x_3.it.h, d2 := x_3.it.d, u2 := x_3.it.u, t2 := x_3.it.t, c2 := x_3.it.c, a02 := x_3.it.a0,
    a12 := x_3.it.a1, a22 := x_3.it.a2, a32 := x_3.it.a3, a42 := x_3.it.a4 }
  { i := (0 : Int) })
        (.all fun x_4 : sym.Got r7X
  (r7Post
    { cyc := cyc, n := IntKind.i64.wrap (part.tmod (5 : Int)), s0 := x.1.2, m0 := x.1.3, h0 := x.1.4, d0 := x.1.5,
      u0 := x.1.6, t0 := x.1.7, c0 := x.1.8, a00 := x.1.9, a10 := x.1.10, a20 := x.1.11, a30 := x.1.12, a40 := x.1.13,
      s1 := x_2.it.s, m1 := x_2.it.m, h1 := x_2.it.h, d1 := x_2.it.d, u1 := x_2.it.u, t1 := x_2.it.t, c1 := x_2.it.c,
      a01 := x_2.it.a0, a11 := x_2.it.a1, a21 := x_2.it.a2, a31 := x_2.it.a3, a41 := x_2.it.a4, s2 := x_3.it.s,
      m2 := x_3.it.m, h2 := x_3.it.h, d2 := x_3.it.d, u2 := x_3.it.u, t2 := x_3.it.t, c2 := x_3.it.c, a02 := x_3.it.a0,
      a12 := x_3.it.a1, a22 := x_3.it.a2, a32 := x_3.it.a3, a42 := x_3.it.a4 }) =>
         (.leaf (.v (.one (.bool true true))))))))))))))))))))))))))))))))))))))))))))))))))))
       (.br (IntKind.i64.wrap (part.tmod (5 : Int)) == ↑(2 : Nat))
        (.br (Ck.rd (IntKind.i64.wrap (part.tmod (5 : Int))) x_2.it.a0 x_2.it.a1 x_2.it.a2 x_2.it.a3
    x_2.it.a4 !=
  bits BinOp.and IntKind.u8 xx (31 : Int))
         (.leaf (.v (.one (.bool true false))))
         (.chk (sym.bodyAt Go.Proofs.Try.prog (7 : Go.FuncId) (2 : Nat) = sym.bodyAt Go.Proofs.Try.prog (7 : Go.FuncId) (2 : Nat))
         (.chk (IntKind.u32 = IntKind.u32 ∧ cyc = cyc)
         (.chk (IntKind.i64 = IntKind.i64 ∧ IntKind.i64.wrap (part.tmod (5 : Int)) = IntKind.i64.wrap (part.tmod (5 : Int)))
         (.chk (IntKind.i64 = IntKind.i64 ∧ (0 : Int) = (0 : Int))
         (.chk (IntKind.u8 = IntKind.u8 ∧ x.1.2 = x.1.2)
         (.chk (IntKind.u8 = IntKind.u8 ∧ x.1.3 = x.1.3)
         (.chk (IntKind.u8 = IntKind.u8 ∧ x.1.4 = x.1.4)
         (.chk (IntKind.i64 = IntKind.i64 ∧ x.1.5 = x.1.5)
         (.chk (IntKind.i64 = IntKind.i64 ∧ x.1.6 = x.1.6)
         (.chk (x.1.7 = x.1.7)
         (.chk (x.1.8 = x.1.8)
         (.chk (IntKind.u8 = IntKind.u8 ∧ x.1.9 = x.1.9)
         (.chk (IntKind.u8 = IntKind.u8 ∧ x.1.10 = x.1.10)
         (.chk (IntKind.u8 = IntKind.u8 ∧ x.1.11 = x.1.11)
         (.chk (IntKind.u8 = IntKind.u8 ∧ x.1.12 = x.1.12)
         (.chk (IntKind.u8 = IntKind.u8 ∧ x.1.13 = x.1.13)
         (.chk (IntKind.u8 = IntKind.u8 ∧ x_2.it.s = x_2.it.s)
         (.chk (IntKind.u8 = IntKind.u8 ∧ x_2.it.m = x_2.it.m)
         (.chk (IntKind.u8 = IntKind.u8 ∧ x_2.it.h = x_2.it.h)
         (.chk (IntKind.i64 = IntKind.i64 ∧ x_2.it.d = x_2.it.d)
         (.chk (IntKind.i64 = IntKind.i64 ∧ x_2.it.u = x_2.it.u)
         (.chk (x_2.it.t = x_2.it.t)
         (.chk (x_2.it.c = x_2.it.c)
         (.chk (IntKind.u8 = IntKind.u8 ∧ x_2.it.a0 = x_2.it.a0)
         (.chk (IntKind.u8 = IntKind.u8 ∧ x_2.it.a1 = x_2.it.a1)
         (.chk (IntKind.u8 = IntKind.u8 ∧ x_2.it.a2 = x_2.it.a2)
         (.chk (IntKind.u8 = IntKind.u8 ∧ x_2.it.a3 = x_2.it.a3)
         (.chk (IntKind.u8 = IntKind.u8 ∧ x_2.it.a4 = x_2.it.a4)
         (.chk (IntKind.u8 = IntKind.u8 ∧ x_3.it.s = x_3.it.s)
         (.chk (IntKind.u8 = IntKind.u8 ∧ x_3.it.m = x_3.it.m)
         (.chk (IntKind.u8 = IntKind.u8 ∧ x_3.it.h = x_3.it.h)
         (.chk (IntKind.i64 = IntKind.i64 ∧ x_3.it.d = x_3.it.d)
         (.chk (IntKind.i64 = IntKind.i64 ∧ x_3.it.u = x_3.it.u)
         (.chk (x_3.it.t = x_3.it.t)
         (.chk (x_3.it.c = x_3.it.c)
         (.chk (IntKind.u8 = IntKind.u8 ∧ x_3.it.a0 = x_3.it.a0)
         (.chk (IntKind.u8 = IntKind.u8 ∧ x_3.it.a1 = x_3.it.a1)
         (.chk (IntKind.u8 = IntKind.u8 ∧ x_3.it.a2 = x_3.it.a2)
         (.chk (IntKind.u8 = IntKind.u8 ∧ x_3.it.a3 = x_3.it.a3)
         (.chk (IntKind.u8 = IntKind.u8 ∧ x_3.it.a4 = x_3.it.a4)
         (.chk (IntKind.u8 = IntKind.u8 ∧ (63 : Int) = (63 : Int))
         (.chk (IntKind.u8 = IntKind.u8 ∧ (63 : Int) = (63 : Int))
         (.chk (IntKind.u8 = IntKind.u8 ∧ (31 : Int) = (31 : Int))
         (.chk (IntKind.u8 = IntKind.u8 ∧ (255 : Int) = (255 : Int))
         (.chk (IntKind.u8 = IntKind.u8 ∧ (193 : Int) = (193 : Int))
         (.chk (r7Inv
  { cyc := cyc, n := IntKind.i64.wrap (part.tmod (5 : Int)), s0 := x.1.2, m0 := x.1.3, h0 := x.1.4, d0 := x.1.5,
    u0 := x.1.6, t0 := x.1.7, c0 := x.1.8, a00 := x.1.9, a10 := x.1.10, a20 := x.1.11, a30 := x.1.12, a40 := x.1.13,
    s1 := x_2.it.s, m1 := x_2.it.m, h1 := x_2.it.h, d1 := x_2.it.d, u1 := x_2.it.u, t1 := x_2.it.t, c1 := x_2.it.c,
    a01 := x_2.it.a0, a11 := x_2.it.a1, a21 := x_2.it.a2, a31 := x_2.it.a3, a41 := x_2.it.a4, s2 := x_3.it.s,
    m2 := x_3.it.m, h2 := x_3.it.h, d2 := x_3.it.d, u2 := x_3.it.u, t2 := x_3.it.t, c2 := x_3.it.c, a02 := x_3.it.a0,
    a12 := x_3.it.a1, a22 := x_3.it.a2, a32 := x_3.it.a3, a42 := x_3.it.a4 }
  { i := (0 : Int) })
         (.all fun x_4 : sym.Got r7X
  (r7Post
    { cyc := cyc, n := IntKind.i64.wrap (part.tmod (5 : Int)), s0 := x.1.2, m0 := x.1.3, h0 := x.1.4, d0 := x.1.5,
      u0 := x.1.6, t0 := x.1.7, c0 := x.1.8, a00 := x.1.9, a10 := x.1.10, a20 := x.1.11, a30 := x.1.12, a40 := x.1.13,
      s1 := x_2.it.s, m1 := x_2.it.m, h1 := x_2.it.h, d1 := x_2.it.d, u1 := x_2.it.u, t1 := x_2.it.t, c1 := x_2.it.c,
      a01 := x_2.it.a0, a11 := x_2.it.a1, a21 := x_2.it.a2, a31 := x_2.it.a3, a41 := x_2.it.a4, s2 := x_3.it.s,
      m2 := x_3.it.m, h2 := x_3.it.h, d2 := x_3.it.d, u2 := x_3.it.u, t2 := x_3.it.t, c2 := x_3.it.c, a02 := x_3.it.a0,
      a12 := x_3.it.a1, a22 := x_3.it.a2, a32 := x_3.it.a3, a42 := x_3.it.a4 }) =>
          (.leaf (.v (.one (.bool true true))))))))))))))))))))))))))))))))))))))))))))))))))))
        (.br (IntKind.i64.wrap (part.tmod (5 : Int)) == ↑(3 : Nat))
         (.br (Ck.rd (IntKind.i64.wrap (part.tmod (5 : Int))) x_2.it.a0 x_2.it.a1 x_2.it.a2 x_2.it.a3
    x_2.it.a4 !=
  bits BinOp.and IntKind.u8 xx (255 : Int))
          (.leaf (.v (.one (.bool true false))))
          (.chk (sym.bodyAt Go.Proofs.Try.prog (7 : Go.FuncId) (2 : Nat) = sym.bodyAt Go.Proofs.Try.prog (7 : Go.FuncId) (2 : Nat))
          (.chk (IntKind.u32 = IntKind.u32 ∧ cyc = cyc)
          (.chk (IntKind.i64 = IntKind.i64 ∧ IntKind.i64.wrap (part.tmod (5 : Int)) = IntKind.i64.wrap (part.tmod (5 : Int)))
          (.chk (IntKind.i64 = IntKind.i64 ∧ (0 : Int) = (0 : Int))
          (.chk (IntKind.u8 = IntKind.u8 ∧ x.1.2 = x.1.2)
          (.chk (IntKind.u8 = IntKind.u8 ∧ x.1.3 = x.1.3)
          (.chk (IntKind.u8 = IntKind.u8 ∧ x.1.4 = x.1.4)
          (.chk (IntKind.i64 = IntKind.i64 ∧ x.1.5 = x.1.5)
          (.chk (IntKind.i64 = IntKind.i64 ∧ x.1.6 = x.1.6)
          (.chk (x.1.7 = x.1.7)
          (.chk (x.1.8 = x.1.8)
          (.chk (IntKind.u8 = IntKind.u8 ∧ x.1.9 = x.1.9)
          (.chk (IntKind.u8 = IntKind.u8 ∧ x.1.10 = x.1.10)
          (.chk (IntKind.u8 = IntKind.u8 ∧ x.1.11 = x.1.11)
          (.chk (IntKind.u8 = IntKind.u8 ∧ x.1.12 = x.1.12)
          (.chk (IntKind.u8 = IntKind.u8 ∧ x.1.13 = x.1.13)
          (.chk (IntKind.u8 = IntKind.u8 ∧ x_2.it.s = x_2.it.s)
          (.chk (IntKind.u8 = IntKind.u8 ∧ x_2.it.m = x_2.it.m)
          (.chk (IntKind.u8 = IntKind.u8 ∧ x_2.it.h = x_2.it.h)
          (.chk (IntKind.i64 = IntKind.i64 ∧ x_2.it.d = x_2.it.d)
          (.chk (IntKind.i64 = IntKind.i64 ∧ x_2.it.u = x_2.it.u)
          (.chk (x_2.it.t = x_2.it.t)
          (.chk (x_2.it.c = x_2.it.c)
          (.chk (IntKind.u8 = IntKind.u8 ∧ x_2.it.a0 = x_2.it.a0)
          (.chk (IntKind.u8 = IntKind.u8 ∧ x_2.it.a1 = x_2.it.a1)
          (.chk (IntKind.u8 = IntKind.u8 ∧ x_2.it.a2 = x_2.it.a2)
          (.chk (IntKind.u8 = IntKind.u8 ∧ x_2.it.a3 = x_2.it.a3)
          (.chk (IntKind.u8 = IntKind.u8 ∧ x_2.it.a4 = x_2.it.a4)
          (.chk (IntKind.u8 = IntKind.u8 ∧ x_3.it.s = x_3.it.s)
          (.chk (IntKind.u8 = IntKind.u8 ∧ x_3.it.m = x_3.it.m)
          (.chk (IntKind.u8 = IntKind.u8 ∧ x_3.it.h = x_3.it.h)
          (.chk (IntKind.i64 = IntKind.i64 ∧ x_3.it.d = x_3.it.d)
          (.chk (IntKind.i64 = IntKind.i64 ∧ x_3.it.u = x_3.it.u)
          (.chk (x_3.it.t = x_3.it.t)
          (.chk (x_3.it.c = x_3.it.c)
          (.chk (IntKind.u8 = IntKind.u8 ∧ x_3.it.a0 = x_3.it.a0)
          (.chk (IntKind.u8 = IntKind.u8 ∧ x_3.it.a1 = x_3.it.a1)
          (.chk (IntKind.u8 = IntKind.u8 ∧ x_3.it.a2 = x_3.it.a2)
          (.chk (IntKind.u8 = IntKind.u8 ∧ x_3.it.a3 = x_3.it.a3)
          (.chk (IntKind.u8 = IntKind.u8 ∧ x_3.it.a4 = x_3.it.a4)
          (.chk (IntKind.u8 = IntKind.u8 ∧ (63 : Int) = (63 : Int))
          (.chk (IntKind.u8 = IntKind.u8 ∧ (63 : Int) = (63 : Int))
          (.chk (IntKind.u8 = IntKind.u8 ∧ (31 : Int) = (31 : Int))
          (.chk (IntKind.u8 = IntKind.u8 ∧ (255 : Int) = (255 : Int))
          (.chk (IntKind.u8 = IntKind.u8 ∧ (193 : Int) = (193 : Int))
          (.chk (r7Inv
  { cyc := cyc, n := IntKind.i64.wrap (part.tmod (5 : Int)), s0 := x.1.2, m0 := x.1.3, h0 := x.1.4, d0 := x.1.5,
    u0 := x.1.6, t0 := x.1.7, c0 := x.1.8, a00 := x.1.9, a10 := x.1.10, a20 := x.1.11, a30 := x.1.12, a40 := x.1.13,
    s1 := x_2.it.s, m1 := x_2.it.m, h1 := x_2.it.h, d1 := x_2.it.d, u1 := x_2.it.u, t1 := x_2.it.t, c1 := x_2.it.c,
    a01 := x_2.it.a0, a11 := x_2.it.a1, a21 := x_2.it.a2, a31 := x_2.it.a3, a41 := x_2.it.a4, s2 := x_3.it.s,
    m2 := x_3.it.m, h2 := x_3.it.h, d2 := x_3.it.d, u2 := x_3.it.u, t2 := x_3.it.t, c2 := x_3.it.c, a02 := x_3.it.a0,
    a12 := x_3.it.a1, a22 := x_3.it.a2, a32 := x_3.it.a3, a42 := x_3.it.a4 }
  { i := (0 : Int) })
          (.all fun x_4 : sym.Got r7X
  (r7Post
    { cyc := cyc, n := IntKind.i64.wrap (part.tmod (5 : Int)), s0 := x.1.2, m0 := x.1.3, h0 := x.1.4, d0 := x.1.5,
      u0 := x.1.6, t0 := x.1.7, c0 := x.1.8, a00 := x.1.9, a10 := x.1.10, a20 := x.1.11, a30 := x.1.12, a40 := x.1.13,
      s1 := x_2.it.s, m1 := x_2.it.m, h1 := x_2.it.h, d1 := x_2.it.d, u1 := x_2.it.u, t1 := x_2.it.t, c1 := x_2.it.c,
      a01 := x_2.it.a0, a11 := x_2.it.a1, a21 := x_2.it.a2, a31 := x_2.it.a3, a41 := x_2.it.a4, s2 := x_3.it.s,
      m2 := x_3.it.m, h2 := x_3.it.h, d2 := x_3.it.d, u2 := x_3.it.u, t2 := x_3.it.t, c2 := x_3.it.c, a02 := x_3.it.a0,
      a12 := x_3.it.a1, a22 := x_3.it.a2, a32 := x_3.it.a3, a42 := x_3.it.a4 }) =>
           (.leaf (.v (.one (.bool true true))))))))))))))))))))))))))))))))))))))))))))))))))))
         (.br (Ck.rd (IntKind.i64.wrap (part.tmod (5 : Int))) x_2.it.a0 x_2.it.a1 x_2.it.a2 x_2.it.a3
    x_2.it.a4 !=
  bits BinOp.and IntKind.u8 xx (193 : Int))
          (.leaf (.v (.one (.bool true false))))
          (.chk (sym.bodyAt Go.Proofs.Try.prog (7 : Go.FuncId) (2 : Nat) = sym.bodyAt Go.Proofs.Try.prog (7 : Go.FuncId) (2 : Nat))
          (.chk (IntKind.u32 = IntKind.u32 ∧ cyc = cyc)
          (.chk (IntKind.i64 = IntKind.i64 ∧ IntKind.i64.wrap (part.tmod (5 : Int)) = IntKind.i64.wrap (part.tmod (5 : Int)))
          (.chk (IntKind.i64 = IntKind.i64 ∧ (0 : Int) = (0 : Int))
          (.chk (IntKind.u8 = IntKind.u8 ∧ x.1.2 = x.1.2)
          (.chk (IntKind.u8 = IntKind.u8 ∧ x.1.3 = x.1.3)
          (.chk (IntKind.u8 = IntKind.u8 ∧ x.1.4 = x.1.4)
          (.chk (IntKind.i64 = IntKind.i64 ∧ x.1.5 = x.1.5)
          (.chk (IntKind.i64 = IntKind.i64 ∧ x.1.6 = x.1.6)
          (.chk (x.1.7 = x.1.7)
          (.chk (x.1.8 = x.1.8)
          (.chk (IntKind.u8 = IntKind.u8 ∧ x.1.9 = x.1.9)
          (.chk (IntKind.u8 = IntKind.u8 ∧ x.1.10 = x.1.10)
          (.chk (IntKind.u8 = IntKind.u8 ∧ x.1.11 = x.1.11)
          (.chk (IntKind.u8 = IntKind.u8 ∧ x.1.12 = x.1.12)
          (.chk (IntKind.u8 = IntKind.u8 ∧ x.1.13 = x.1.13)
          (.chk (IntKind.u8 = IntKind.u8 ∧ x_2.it.s = x_2.it.s)
          (.chk (IntKind.u8 = IntKind.u8 ∧ x_2.it.m = x_2.it.m)
          (.chk (IntKind.u8 = IntKind.u8 ∧ x_2.it.h = x_2.it.h)
          (.chk (IntKind.i64 = IntKind.i64 ∧ x_2.it.d = x_2.it.d)
          (.chk (IntKind.i64 = IntKind.i64 ∧ x_2.it.u = x_2.it.u)
          (.chk (x_2.it.t = x_2.it.t)
          (.chk (x_2.it.c = x_2.it.c)
          (.chk (IntKind.u8 = IntKind.u8 ∧ x_2.it.a0 = x_2.it.a0)
          (.chk (IntKind.u8 = IntKind.u8 ∧ x_2.it.a1 = x_2.it.a1)
          (.chk (IntKind.u8 = IntKind.u8 ∧ x_2.it.a2 = x_2.it.a2)
          (.chk (IntKind.u8 = IntKind.u8 ∧ x_2.it.a3 = x_2.it.a3)
          (.chk (IntKind.u8 = IntKind.u8 ∧ x_2.it.a4 = x_2.it.a4)
          (.chk (IntKind.u8 = IntKind.u8 ∧ x_3.it.s = x_3.it.s)
          (.chk (IntKind.u8 = IntKind.u8 ∧ x_3.it.m = x_3.it.m)
          (.chk (IntKind.u8 = IntKind.u8 ∧ x_3.it.h = x_3.it.h)
          (.chk (IntKind.i64 = IntKind.i64 ∧ x_3.it.d = x_3.it.d)
          (.chk (IntKind.i64 = IntKind.i64 ∧ x_3.it.u = x_3.it.u)
          (.chk (x_3.it.t = x_3.it.t)
          (.chk (x_3.it.c = x_3.it.c)
          (.chk (IntKind.u8 = IntKind.u8 ∧ x_3.it.a0 = x_3.it.a0)
          (.chk (IntKind.u8 = IntKind.u8 ∧ x_3.it.a1 = x_3.it.a1)
          (.chk (IntKind.u8 = IntKind.u8 ∧ x_3.it.a2 = x_3.it.a2)
          (.chk (IntKind.u8 = IntKind.u8 ∧ x_3.it.a3 = x_3.it.a3)
          (.chk (IntKind.u8 = IntKind.u8 ∧ x_3.it.a4 = x_3.it.a4)
          (.chk (IntKind.u8 = IntKind.u8 ∧ (63 : Int) = (63 : Int))
          (.chk (IntKind.u8 = IntKind.u8 ∧ (63 : Int) = (63 : Int))
          (.chk (IntKind.u8 = IntKind.u8 ∧ (31 : Int) = (31 : Int))
          (.chk (IntKind.u8 = IntKind.u8 ∧ (255 : Int) = (255 : Int))
          (.chk (IntKind.u8 = IntKind.u8 ∧ (193 : Int) = (193 : Int))
          (.chk (r7Inv
  { cyc := cyc, n := IntKind.i64.wrap (part.tmod (5 : Int)), s0 := x.1.2, m0 := x.1.3, h0 := x.1.4, d0 := x.1.5,
    u0 := x.1.6, t0 := x.1.7, c0 := x.1.8, a00 := x.1.9, a10 := x.1.10, a20 := x.1.11, a30 := x.1.12, a40 := x.1.13,
    s1 := x_2.it.s, m1 := x_2.it.m, h1 := x_2.it.h, d1 := x_2.it.d, u1 := x_2.it.u, t1 := x_2.it.t, c1 := x_2.it.c,
    a01 := x_2.it.a0, a11 := x_2.it.a1, a21 := x_2.it.a2, a31 := x_2.it.a3, a41 := x_2.it.a4, s2 := x_3.it.s,
    m2 := x_3.it.m, h2 := x_3.it.h, d2 := x_3.it.d, u2 := x_3.it.u, t2 := x_3.it.t, c2 := x_3.it.c, a02 := x_3.it.a0,
    a12 := x_3.it.a1, a22 := x_3.it.a2, a32 := x_3.it.a3, a42 := x_3.it.a4 }
  { i := (0 : Int) })
          (.all fun x_4 : sym.Got r7X
  (r7Post
    { cyc := cyc, n := IntKind.i64.wrap (part.tmod (5 : Int)), s0 := x.1.2, m0 := x.1.3, h0 := x.1.4, d0 := x.1.5,
      u0 := x.1.6, t0 := x.1.7, c0 := x.1.8, a00 := x.1.9, a10 := x.1.10, a20 := x.1.11, a30 := x.1.12, a40 := x.1.13,
      s1 := x_2.it.s, m1 := x_2.it.m, h1 := x_2.it.h, d1 := x_2.it.d, u1 := x_2.it.u, t1 := x_2.it.t, c1 := x_2.it.c,
      a01 := x_2.it.a0, a11 := x_2.it.a1, a21 := x_2.it.a2, a31 := x_2.it.a3, a41 := x_2.it.a4, s2 := x_3.it.s,
      m2 := x_3.it.m, h2 := x_3.it.h, d2 := x_3.it.d, u2 := x_3.it.u, t2 := x_3.it.t, c2 := x_3.it.c, a02 := x_3.it.a0,
      a12 := x_3.it.a1, a22 := x_3.it.a2, a32 := x_3.it.a3, a42 := x_3.it.a4 }) =>
           (.leaf (.v (.one (.bool true true))))))))))))))))))))))))))))))))))))))))))))))))))))))))))))))))))))))))))))))))))))))) := by kernel_rfl
def l7Mu (A : Option Addr) (K M X : Nat → Int) (len cap : Nat) (p : l7P) (x : l7X) : Nat := ((len : Int) - x.i).toNat
theorem l7_step (w : World) (A : Option Addr) (K M X : Nat → Int) (len cap : Nat) (p : l7P) (x : l7X) (hX : XOk w A (opCell K M X) 3 len) (hB : ∀ i, i < len → Ck.B (X i)) (h : l7Inv A K M X len cap p x) : Hid (roundT Try.prog w (flatT Try.prog) (ctrOf table) (callT Try.prog w (flatT Try.prog) (ctrOf table) (noLoop) 20) ((noLoop) 7) (roundOf (bodyAt Try.prog 7 0)) 0 (l7St A K M X len cap p) (l7Fin A K M X len cap p) l7NxX l7NxX x) (Kept (l7Inv A K M X len cap p) (l7Post A K M X len cap p) (l7Mu A K M X len cap p) x) := by
  obtain ⟨part, xx, cyc⟩ := p
  obtain ⟨i, s, m, h_, d, u, t, c, a0, a1, a2, a3, a4⟩ := x
  constructor
  rw [l7step_tree]
  simp only [T.holds, Kept, l7Mu, and_self, true_and, and_true]
  try simp only [beq_self_eq_true, bne_self_eq_false, Bool.and_true, Bool.true_and, Bool.and_self, Bool.not_true, Bool.not_false, Bool.false_eq_true, Bool.true_eq_false, false_implies, forall_const, and_self, true_and, and_true, if_true, if_false, reduceIte]
  obtain ⟨h1, h2, hl, hk, hu⟩ := h
  simp only at h1 h2 hl hk hu
  have next : i < (len : Int) → IntKind.i64.wrap (i + 1) = i + 1 := fun hi => Ck.wi64 _ (by omega) (by omega)
  refine ⟨fun h => ?_, fun h => ⟨hk, hu⟩⟩
  have hi : i < (len : Int) := by simpa using h
  have hx : XOk w A (opCell K M X) 3 len ∧ 0 ≤ i ∧ i < (len : Int) ∧ 0 < 3 := ⟨hX, h1, hi, by decide⟩
  have hx2 : XOk w A (opCell K M X) 3 len ∧ 0 < 3 ∧ i.toNat < len ∧ 3 ≤ 3 := ⟨hX, by decide, by omega, by decide⟩
  have bX := hB i.toNat (by omega)
  have hu' : 0 ≤ u ∧ u ≤ 1048576 := ⟨hu.1, by omega⟩
  have ask : Ck.Ok ⟨s, m, h_, d, c⟩ ∧ (0 ≤ u ∧ u ≤ 1048576) ∧ Ck.B (X i.toNat) := ⟨hk, hu', bX⟩
  rw [next hi]
  exact ⟨hx, hx2, ask, ⟨by show 0 ≤ i + 1; omega, by show i + 1 ≤ (len : Int); omega, hl, Ck.doH_ok bX hk, Ck.doU_lt hu⟩, by show ((len : Int) - (i + 1)).toNat < ((len : Int) - i).toNat; omega⟩
theorem l7Lp_ok (w : World) (A : Option Addr) (K M X : Nat → Int) (len cap : Nat) (hX : XOk w A (opCell K M X) 3 len) (hB : ∀ i, i < len → Ck.B (X i)) : (l7Lp A K M X len cap).ok Try.prog w := by
  intro s t h
  unfold l7Lp at h
  simp only at h
  split at h
  · rename_i p _
    split at h
    · rename_i x _
      cases h
      exact loop_ok base2 (table_ok w) (callT_ok base2.mixed base2.names base2.eqs (table_ok w).ok (table_ok w).there (loops_none _ _) 20) ((loops_none _ _) 7) (c := roundOf (bodyAt Try.prog 7 0)) (by kernel_rfl) (id := 0) (n := 1) (st := l7St A K M X len cap p) (fin := l7Fin A K M X len cap p) (inv := l7Inv A K M X len cap p) (post := l7Post A K M X len cap p) (nx := l7NxX) (fx := l7NxX) (l7Mu A K M X len cap p) (fun x => by kernel_rfl) (fun y => by kernel_rfl) (fun x hx => l7_step w A K M X len cap p x hX hB hx) s x
    · cases h
  · cases h
def r7Mu  (p : r7P) (x : r7X) : Nat := (5 - x.i).toNat
theorem r7_step (w : World)  (p : r7P) (x : r7X)  (h : r7Inv  p x) : Hid (roundT Try.prog w (flatT Try.prog) (ctrOf table) (callT Try.prog w (flatT Try.prog) (ctrOf table) (noLoop) 20) ((noLoop) 7) (roundOf (bodyAt Try.prog 7 2)) 2 (r7St  p) (r7Fin  p) r7NxX r7NxX x) (Kept (r7Inv  p) (r7Post  p) (r7Mu  p) x) := by
  obtain ⟨cyc, n, s0, m0, h0, d0, u0, t0, c0, a00, a10, a20, a30, a40, s1, m1, h1_, d1, u1, t1, c1, a01, a11, a21, a31, a41, s2, m2, h2_, d2, u2, t2, c2, a02, a12, a22, a32, a42⟩ := p
  obtain ⟨i⟩ := x
  constructor
  rw [r7step_tree]
  simp only [T.holds, Kept, r7Mu, and_self, true_and, and_true]
  try simp only [beq_self_eq_true, bne_self_eq_false, Bool.and_true, Bool.true_and, Bool.and_self, Bool.not_true, Bool.not_false, Bool.false_eq_true, Bool.true_eq_false, false_implies, forall_const, and_self, true_and, and_true, if_true, if_false, reduceIte]
  obtain ⟨h1, h2, hk, hu, hs⟩ := h
  simp only at h1 h2 hk hu hs
  have nx : i < 5 → r7Inv ⟨cyc, n, s0, m0, h0, d0, u0, t0, c0, a00, a10, a20, a30, a40, s1, m1, h1_, d1, u1, t1, c1, a01, a11, a21, a31, a41, s2, m2, h2_, d2, u2, t2, c2, a02, a12, a22, a32, a42⟩ ⟨IntKind.i64.wrap (i + 1)⟩ ∧ (5 - IntKind.i64.wrap (i + 1)).toNat < (5 - i).toNat := fun hi => by
    have e : IntKind.i64.wrap (i + 1) = i + 1 := Ck.wi64 _ (by omega) (by omega)
    rw [e]
    exact ⟨⟨by show 0 ≤ i + 1; omega, by show i + 1 ≤ 5; omega, hk, hu, hs⟩, by omega⟩
  simp only [decide_eq_true_eq, decide_eq_false_iff_not]
  refine ⟨fun h => ⟨fun g => ⟨fun q => ?_, fun _ => ⟨⟨hk, hu⟩, nx h⟩⟩, fun _ => ⟨⟨hk, hu⟩, nx h⟩⟩, fun h => ⟨trivial⟩⟩
  rw [hs i (by simpa using g)] at q
  simp at q
theorem r7Lp_ok (w : World)   : (r7Lp ).ok Try.prog w := by
  intro s t h
  unfold r7Lp at h
  simp only at h
  split at h
  · rename_i p _
    split at h
    · rename_i x _
      cases h
      exact loop_ok base2 (table_ok w) (callT_ok base2.mixed base2.names base2.eqs (table_ok w).ok (table_ok w).there (loops_none _ _) 20) ((loops_none _ _) 7) (c := roundOf (bodyAt Try.prog 7 2)) (by kernel_rfl) (id := 2) (n := 4) (st := r7St  p) (fin := r7Fin  p) (inv := r7Inv  p) (post := r7Post  p) (nx := r7NxX) (fx := r7NxX) (r7Mu  p) (fun x => by kernel_rfl) (fun y => by kernel_rfl) (fun x hx => r7_step w  p x  hx) s x
    · cases h
  · cases h
theorem apart (v : Cv) (n x : Int) (hn : 0 ≤ n ∧ n < 5) (bd : 0 ≤ v.d ∧ v.d < 512) (bx : Ck.B x) (i : Int) (hi : i ≠ n) : Ck.rd i (v.write n x).hold.a0 (v.write n x).hold.a1 (v.write n x).hold.a2 (v.write n x).hold.a3 (v.write n x).hold.a4 = Ck.rd i v.hold.a0 v.hold.a1 v.hold.a2 v.hold.a3 v.hold.a4 := by
  have hk : n = 0 ∨ n = 1 ∨ n = 2 ∨ n = 3 ∨ n = 4 := by omega
  obtain ⟨x1, x2⟩ := bx
  unfold Ck.rd
  have e3 : (v.d / 256 * 256 + x) / 256 % 2 = v.d / 256 % 2 := by omega
  have e4 : (x % 2 * 256 + v.d % 256) % 256 = v.d % 256 := by omega
  rcases hk with rfl | rfl | rfl | rfl | rfl <;> (repeat' split) <;> simp_all [Cv.write, Cv.hold, Ck.wS, Ck.wM, Ck.wH, Ck.wD, Ck.wT, Ck.wC, Ck.top]
theorem got (v : Cv) (n x : Int) (bd : 0 ≤ v.d ∧ v.d < 512) (bx : Ck.B x) (m : Int) (hm : (n = 0 ∧ m = 63) ∨ (n = 1 ∧ m = 63) ∨ (n = 2 ∧ m = 31) ∨ (n = 3 ∧ m = 255) ∨ (n = 4 ∧ m = 193)) : Ck.rd n (v.write n x).hold.a0 (v.write n x).hold.a1 (v.write n x).hold.a2 (v.write n x).hold.a3 (v.write n x).hold.a4 = bits .and .u8 x m := by
  have e63 := Ck.m63 bx
  have e31 := Ck.m31 bx
  have e255 : bits .and .u8 x 255 = x := by
    have key : ∀ a : Nat, a < 256 → bits .and .u8 (a : Int) 255 = (a : Int) := by decide +kernel
    obtain ⟨k, rfl⟩ := Int.eq_ofNat_of_zero_le bx.1
    exact key k (by have := bx.2; omega)
  have e193 := Ck.top4 x v.d bx
  obtain ⟨x1, x2⟩ := bx
  have e3 : (v.d / 256 * 256 + x) % 256 = x := by omega
  rcases hm with ⟨rfl, rfl⟩ | ⟨rfl, rfl⟩ | ⟨rfl, rfl⟩ | ⟨rfl, rfl⟩ | ⟨rfl, rfl⟩
  · rw [e63]; simp [Ck.rd, Cv.write, Cv.hold, Ck.wS]
  · rw [e63]; simp [Ck.rd, Cv.write, Cv.hold, Ck.wM]
  · rw [e31]; simp [Ck.rd, Cv.write, Cv.hold, Ck.wH]
  · rw [e255]; simp [Ck.rd, Cv.write, Cv.hold, Ck.wD, e3]
  · rw [← e193]; simp [Ck.rd, Cv.write, Cv.hold, Ck.wT, Ck.wC]
set_option maxHeartbeats 8000000 in
theorem reads_walk (w : World) (A : Option Addr) (K M X : Nat → Int) (len cap : Nat) (part xx cyc : Int) (hX : XOk w A (opCell K M X) 3 len) (hB : ∀ i, i < len → Ck.B (X i)) (bp : Ck.B part) (bx : Ck.B xx) (bc : 0 ≤ cyc ∧ cyc < 4294967296) : Calls Try.prog 7 #[.slice A len cap, .int .u8 part, .int .u8 xx, .int .u32 cyc] w fun e w' => e = .returned (.bool true) ∧ Below w.heap.size w w' := by
  have hl : LcsOk Try.prog w (lpOf Try.prog [l7Lp A K M X len cap, r7Lp]) := lps_ok fun l hl => by
    simp only [List.mem_cons, List.not_mem_nil, or_false] at hl
    rcases hl with rfl | rfl
    · exact l7Lp_ok w A K M X len cap hX hB
    · exact r7Lp_ok w
  refine val_eq base2 (tableF_ok w) hl (reads_tree w A K M X len cap part xx cyc) rfl ?_
  have en : IntKind.i64.wrap (part.tmod 5) = part % 5 := by
    rw [Int.tmod_eq_emod_of_nonneg bp.1]; exact Ck.wi64 _ (by have := bp.1; omega) (by have := bp.1; omega)
  have bn : 0 ≤ part % 5 ∧ part % 5 < 5 := by have := bp.1; omega
  simp only [T.holds, and_self, true_and, and_true]
  rw [en]
  generalize part % 5 = n at bn
  refine ⟨fun _ => ⟨rfl, rfl⟩, fun h => ⟨⟨by show (0:Int) ≤ 0; omega, by show (0:Int) ≤ (len : Int); omega, by simp at h; omega, ⟨⟨by decide, by decide⟩, ⟨by decide, by decide⟩, ⟨by decide, by decide⟩, ⟨by decide, by decide⟩⟩, ⟨by decide, by decide⟩⟩, fun y => ?_⟩⟩
  obtain ⟨⟨yi, ys, ym, yh, yd, yu, yt, yc, y0, y1, y2, y3, y4⟩, ok, hu⟩ := y
  dsimp only at ok hu ⊢
  obtain ⟨V, hV⟩ : ∃ V : Cv, V = mkCv ys ym yh yd yu yt yc y0 y1 y2 y3 y4 := ⟨_, rfl⟩
  have okV : Ck.Ok V.hd := by rw [hV]; exact ok
  have hu' : 0 ≤ V.u ∧ V.u < 1048576 := by rw [hV]; exact hu
  have bdV : 0 ≤ V.d ∧ V.d < 512 := okV.d
  have bdy : 0 ≤ yd ∧ yd < 512 := ok.d
  refine ⟨⟨ok.s, ok.m, ok.h, bdy.1, bdy.2, bx⟩, fun x1 => ?_⟩
  obtain ⟨x1, q1⟩ := x1
  replace q1 : x1 = V.write n xx := by rw [hV]; exact q1
  dsimp only
  have okW : Ck.Ok (V.write n xx).hd := Ck.w_ok (a := V.hd) bx okV
  have bW : 0 ≤ x1.d ∧ x1.d < 512 := by rw [q1]; exact okW.d
  refine ⟨bW, fun x2 => ?_⟩
  obtain ⟨x2, q2⟩ := x2
  replace q2 : x2 = (V.write n xx).hold := q2.trans (by rw [mk_it, q1])
  dsimp only
  refine ⟨bdy, fun x3 => ?_⟩
  obtain ⟨x3, q3⟩ := x3
  replace q3 : x3 = V.hold := by rw [hV]; exact q3
  dsimp only
  have hap := apart V n xx bn bdV bx
  have hgot := got V n xx bdV bx
  rw [← q2, ← q3] at hap
  rw [← q2] at hgot
  have inv : ∀ (a b c d e : Int) (t f : Bool) (a0 a1 a2 a3 a4 : Int), r7Inv ⟨cyc, n, a, b, c, d, e, t, f, a0, a1, a2, a3, a4, x2.s, x2.m, x2.h, x2.d, x2.u, x2.t, x2.c, x2.a0, x2.a1, x2.a2, x2.a3, x2.a4, x3.s, x3.m, x3.h, x3.d, x3.u, x3.t, x3.c, x3.a0, x3.a1, x3.a2, x3.a3, x3.a4⟩ ⟨0⟩ := fun _ _ _ _ _ _ _ _ _ _ _ _ =>
    ⟨by show (0 : Int) ≤ 0; omega, by show (0 : Int) ≤ 5; omega, by rw [q2]; exact okW, by rw [q2]; exact Ck.wU_ok (by decide) ⟨hu'.1, by omega⟩, hap⟩
  clear hap q1 q2 q3
  refine ⟨⟨bn.1, by show n < 5; omega⟩, fun g => ⟨fun q => ?_, fun _ => ⟨inv .., fun _ => ⟨rfl, rfl⟩⟩⟩, fun g => ⟨fun g1 => ⟨fun q => ?_, fun _ => ⟨inv .., fun _ => ⟨rfl, rfl⟩⟩⟩, fun g1 => ⟨fun g2 => ⟨fun q => ?_, fun _ => ⟨inv .., fun _ => ⟨rfl, rfl⟩⟩⟩, fun g2 => ⟨fun g3 => ⟨fun q => ?_, fun _ => ⟨inv .., fun _ => ⟨rfl, rfl⟩⟩⟩, fun g3 => ⟨fun q => ?_, fun _ => ⟨inv .., fun _ => ⟨rfl, rfl⟩⟩⟩⟩⟩⟩⟩
  · rw [hgot 63 (Or.inl ⟨by simpa using g, rfl⟩)] at q; simp at q
  · rw [hgot 63 (Or.inr (Or.inl ⟨by simpa using g1, rfl⟩))] at q; simp at q
  · rw [hgot 31 (Or.inr (Or.inr (Or.inl ⟨by simpa using g2, rfl⟩)))] at q; simp at q
  · rw [hgot 255 (Or.inr (Or.inr (Or.inr (Or.inl ⟨by simpa using g3, rfl⟩))))] at q; simp at q
  · have e4 : n = 4 := by simp at g g1 g2 g3; omega
    rw [hgot 193 (Or.inr (Or.inr (Or.inr (Or.inr ⟨e4, rfl⟩))))] at q; simp at q
end Go.Proofs.Ytpmgaoigelplgaa
