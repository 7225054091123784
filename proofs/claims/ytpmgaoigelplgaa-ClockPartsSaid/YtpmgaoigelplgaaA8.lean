/-
  Walk of a statement of the clock, by computing, with its rounds: cycles that go by in parts. Bytes are below 256, words below 4294967296; no other condition.
-/
import Derived.Test.YtpmgaoigelplgaaA4
import Derived.Test.YtpmgaoigelplgaaSymA
namespace Go.Proofs.Ytpmgaoigelplgaa
open Go.RowKit sym
set_option linter.unusedVariables false
set_option linter.unusedSimpArgs false
set_option maxRecDepth 100000
def opCell (K M X : Nat → Int) : Nat → Nat → Sc := fun i q => match q with
  | 0 => .int false .i64 (K i)
  | 1 => .int false .i64 (M i)
  | _ => .int false .u8 (X i)
def wordCell (P : Nat → Int) : Nat → Nat → Sc := fun i _ => .int false .u32 (P i)
structure l6P where
structure l6X where
  i : Int
  s : Int
  m : Int
  h_ : Int
  d : Int
  u : Int
  t : Bool
  c : Bool
  a0 : Int
  a1 : Int
  a2 : Int
  a3 : Int
  a4 : Int
def l6St (A : Option Addr) (K M X : Nat → Int) (len cap : Nat) (A2 : Option Addr) (P : Nat → Int) (len2 cap2 : Nat) : l6P → l6X → ASt := fun ⟨⟩ ⟨i, s, m, h_, d, u, t, c, a0, a1, a2, a3, a4⟩ => ⟨slots (List.replicate 66 .any) [(0, .v (.one (.xs A (opCell K M X) 3 len cap))), (1, .v (.one (.xs A2 (wordCell P) 1 len2 cap2))), (5, .v (.one (.ptr 0 0))), (26, .v (.one (.int false .i64 (len : Int)))), (27, .v (.one (.int false .i64 i)))], [⟨[.int false .u8 s, .int false .u8 m, .int false .u8 h_, .int false .i64 d, .int false .i64 u, .bool false t, .bool false c, .int false .u8 a0, .int false .u8 a1, .int false .u8 a2, .int false .u8 a3, .int false .u8 a4], 26⟩]⟩
def l6Fin (A : Option Addr) (K M X : Nat → Int) (len cap : Nat) (A2 : Option Addr) (P : Nat → Int) (len2 cap2 : Nat) : l6P → l6X → ASt := fun ⟨⟩ ⟨i, s, m, h_, d, u, t, c, a0, a1, a2, a3, a4⟩ => ⟨slots (List.replicate 66 .any) [(0, .v (.one (.xs A (opCell K M X) 3 len cap))), (1, .v (.one (.xs A2 (wordCell P) 1 len2 cap2))), (5, .v (.one (.ptr 0 0))), (26, .v (.one (.int false .i64 (len : Int)))), (27, .v (.one (.int false .i64 i)))], [⟨[.int false .u8 s, .int false .u8 m, .int false .u8 h_, .int false .i64 d, .int false .i64 u, .bool false t, .bool false c, .int false .u8 a0, .int false .u8 a1, .int false .u8 a2, .int false .u8 a3, .int false .u8 a4], 26⟩]⟩
def l6NxP : ASt → Option l6P := fun st_ => some ⟨⟩
def l6NxX : ASt → Option l6X := fun st_ => match gI st_ 27 with | none => none | some i => match hI st_ 0 0 with | none => none | some s => match hI st_ 0 1 with | none => none | some m => match hI st_ 0 2 with | none => none | some h_ => match hI st_ 0 3 with | none => none | some d => match hI st_ 0 4 with | none => none | some u => match hB st_ 0 5 with | none => none | some t => match hB st_ 0 6 with | none => none | some c => match hI st_ 0 7 with | none => none | some a0 => match hI st_ 0 8 with | none => none | some a1 => match hI st_ 0 9 with | none => none | some a2 => match hI st_ 0 10 with | none => none | some a3 => match hI st_ 0 11 with | none => none | some a4 => some ⟨i, s, m, h_, d, u, t, c, a0, a1, a2, a3, a4⟩
structure l6Inv (A : Option Addr) (K M X : Nat → Int) (len cap : Nat) (A2 : Option Addr) (P : Nat → Int) (len2 cap2 : Nat) (p : l6P) (x : l6X) : Prop where
  i0 : 0 ≤ x.i
  i1 : x.i ≤ len
  lm : len ≤ 60
  ok : Ck.Ok (⟨x.s, x.m, x.h_, x.d, x.c⟩ : Ck.Hd)
  u : 0 ≤ x.u ∧ x.u < 1048576
structure l6Post (A : Option Addr) (K M X : Nat → Int) (len cap : Nat) (A2 : Option Addr) (P : Nat → Int) (len2 cap2 : Nat) (p : l6P) (x : l6X) : Prop where
  ok : Ck.Ok (⟨x.s, x.m, x.h_, x.d, x.c⟩ : Ck.Hd)
  u : 0 ≤ x.u ∧ x.u < 1048576
def l6Lp (A : Option Addr) (K M X : Nat → Int) (len cap : Nat) (A2 : Option Addr) (P : Nat → Int) (len2 cap2 : Nat) : Lp := ⟨6, 0, fun s => match l6NxP s with
  | some p => match l6NxX s with
    | some x => some (loopT 0 1 (l6St A K M X len cap A2 P len2 cap2 p) (l6Fin A K M X len cap A2 P len2 cap2 p) (l6Inv A K M X len cap A2 P len2 cap2 p) (l6Post A K M X len cap A2 P len2 cap2 p) s x)
    | none => none
  | none => none⟩
structure m6P where
  s0 : Int
  m0 : Int
  h0 : Int
  d0 : Int
  u0 : Int
  t0 : Bool
  c0 : Bool
  a00 : Int
  a10 : Int
  a20 : Int
  a30 : Int
  a40 : Int
structure m6X where
  j : Int
  sum : Int
  s : Int
  m : Int
  h_ : Int
  d : Int
  u : Int
  t : Bool
  c : Bool
  a0 : Int
  a1 : Int
  a2 : Int
  a3 : Int
  a4 : Int
def m6St (A : Option Addr) (K M X : Nat → Int) (len cap : Nat) (A2 : Option Addr) (P : Nat → Int) (len2 cap2 : Nat) : m6P → m6X → ASt := fun ⟨s0, m0, h0, d0, u0, t0, c0, a00, a10, a20, a30, a40⟩ ⟨j, sum, s, m, h_, d, u, t, c, a0, a1, a2, a3, a4⟩ => ⟨slots (List.replicate 66 .any) [(1, .v (.one (.xs A2 (wordCell P) 1 len2 cap2))), (5, .v (.one (.ptr 0 0))), (7, .v (.one (.ptr 1 0))), (8, .v (.one (.int false .i64 sum))), (39, .v (.one (.int false .i64 (len2 : Int)))), (40, .v (.one (.int false .i64 j)))], [⟨[.int false .u8 s0, .int false .u8 m0, .int false .u8 h0, .int false .i64 d0, .int false .i64 u0, .bool false t0, .bool false c0, .int false .u8 a00, .int false .u8 a10, .int false .u8 a20, .int false .u8 a30, .int false .u8 a40], 26⟩, ⟨[.int false .u8 s, .int false .u8 m, .int false .u8 h_, .int false .i64 d, .int false .i64 u, .bool false t, .bool false c, .int false .u8 a0, .int false .u8 a1, .int false .u8 a2, .int false .u8 a3, .int false .u8 a4], 26⟩]⟩
def m6Fin (A : Option Addr) (K M X : Nat → Int) (len cap : Nat) (A2 : Option Addr) (P : Nat → Int) (len2 cap2 : Nat) : m6P → m6X → ASt := fun ⟨s0, m0, h0, d0, u0, t0, c0, a00, a10, a20, a30, a40⟩ ⟨j, sum, s, m, h_, d, u, t, c, a0, a1, a2, a3, a4⟩ => ⟨slots (List.replicate 66 .any) [(1, .v (.one (.xs A2 (wordCell P) 1 len2 cap2))), (5, .v (.one (.ptr 0 0))), (7, .v (.one (.ptr 1 0))), (8, .v (.one (.int false .i64 sum))), (39, .v (.one (.int false .i64 (len2 : Int)))), (40, .v (.one (.int false .i64 j)))], [⟨[.int false .u8 s0, .int false .u8 m0, .int false .u8 h0, .int false .i64 d0, .int false .i64 u0, .bool false t0, .bool false c0, .int false .u8 a00, .int false .u8 a10, .int false .u8 a20, .int false .u8 a30, .int false .u8 a40], 26⟩, ⟨[.int false .u8 s, .int false .u8 m, .int false .u8 h_, .int false .i64 d, .int false .i64 u, .bool false t, .bool false c, .int false .u8 a0, .int false .u8 a1, .int false .u8 a2, .int false .u8 a3, .int false .u8 a4], 26⟩]⟩
def m6NxP : ASt → Option m6P := fun st_ => match hI st_ 0 0 with | none => none | some s0 => match hI st_ 0 1 with | none => none | some m0 => match hI st_ 0 2 with | none => none | some h0 => match hI st_ 0 3 with | none => none | some d0 => match hI st_ 0 4 with | none => none | some u0 => match hB st_ 0 5 with | none => none | some t0 => match hB st_ 0 6 with | none => none | some c0 => match hI st_ 0 7 with | none => none | some a00 => match hI st_ 0 8 with | none => none | some a10 => match hI st_ 0 9 with | none => none | some a20 => match hI st_ 0 10 with | none => none | some a30 => match hI st_ 0 11 with | none => none | some a40 => some ⟨s0, m0, h0, d0, u0, t0, c0, a00, a10, a20, a30, a40⟩
def m6NxX : ASt → Option m6X := fun st_ => match gI st_ 40 with | none => none | some j => match gI st_ 8 with | none => none | some sum => match hI st_ 1 0 with | none => none | some s => match hI st_ 1 1 with | none => none | some m => match hI st_ 1 2 with | none => none | some h_ => match hI st_ 1 3 with | none => none | some d => match hI st_ 1 4 with | none => none | some u => match hB st_ 1 5 with | none => none | some t => match hB st_ 1 6 with | none => none | some c => match hI st_ 1 7 with | none => none | some a0 => match hI st_ 1 8 with | none => none | some a1 => match hI st_ 1 9 with | none => none | some a2 => match hI st_ 1 10 with | none => none | some a3 => match hI st_ 1 11 with | none => none | some a4 => some ⟨j, sum, s, m, h_, d, u, t, c, a0, a1, a2, a3, a4⟩
structure m6Inv (A : Option Addr) (K M X : Nat → Int) (len cap : Nat) (A2 : Option Addr) (P : Nat → Int) (len2 cap2 : Nat) (p : m6P) (x : m6X) : Prop where
  j0 : 0 ≤ x.j
  j1 : x.j ≤ len2
  lm : len2 ≤ 20
  ok : Ck.Ok (⟨p.s0, p.m0, p.h0, p.d0, p.c0⟩ : Ck.Hd)
  u : 0 ≤ p.u0 ∧ p.u0 < 1048576
  sb : 0 ≤ x.sum ∧ x.sum ≤ 20971520 * x.j
  hd : (⟨x.s, x.m, x.h_, x.d, x.c⟩ : Ck.Hd) = Ck.tkH p.t0 p.u0 x.sum (⟨p.s0, p.m0, p.h0, p.d0, p.c0⟩ : Ck.Hd)
  us : x.u = Ck.tkU p.t0 p.u0 x.sum
  ts : x.t = p.t0
  e0 : x.a0 = p.a00
  e1 : x.a1 = p.a10
  e2 : x.a2 = p.a20
  e3 : x.a3 = p.a30
  e4 : x.a4 = p.a40
structure m6Post (A : Option Addr) (K M X : Nat → Int) (len cap : Nat) (A2 : Option Addr) (P : Nat → Int) (len2 cap2 : Nat) (p : m6P) (x : m6X) : Prop where
  sb : 0 ≤ x.sum ∧ x.sum ≤ 419430400
  hd : (⟨x.s, x.m, x.h_, x.d, x.c⟩ : Ck.Hd) = Ck.tkH p.t0 p.u0 x.sum (⟨p.s0, p.m0, p.h0, p.d0, p.c0⟩ : Ck.Hd)
  us : x.u = Ck.tkU p.t0 p.u0 x.sum
  ts : x.t = p.t0
  e0 : x.a0 = p.a00
  e1 : x.a1 = p.a10
  e2 : x.a2 = p.a20
  e3 : x.a3 = p.a30
  e4 : x.a4 = p.a40
def m6Lp (A : Option Addr) (K M X : Nat → Int) (len cap : Nat) (A2 : Option Addr) (P : Nat → Int) (len2 cap2 : Nat) : Lp := ⟨6, 2, fun s => match m6NxP s with
  | some p => match m6NxX s with
    | some x => some (loopT 2 2 (m6St A K M X len cap A2 P len2 cap2 p) (m6Fin A K M X len cap A2 P len2 cap2 p) (m6Inv A K M X len cap A2 P len2 cap2 p) (m6Post A K M X len cap A2 P len2 cap2 p) s x)
    | none => none
  | none => none⟩
theorem l6step_tree (w : World) (A : Option Addr) (K M X : Nat → Int) (len cap : Nat) (A2 : Option Addr) (P : Nat → Int) (len2 cap2 : Nat) (i : Int) (s : Int) (m : Int) (h_ : Int) (d : Int) (u : Int) (t : Bool) (c : Bool) (a0 : Int) (a1 : Int) (a2 : Int) (a3 : Int) (a4 : Int) :
    roundT Try.prog w (flatT Try.prog) (ctrOf table) (callT Try.prog w (flatT Try.prog) (ctrOf table) (noLoop) 20) ((noLoop) 6) (roundOf (bodyAt Try.prog 6 0)) 0 (l6St A K M X len cap A2 P len2 cap2 ⟨⟩) (l6Fin A K M X len cap A2 P len2 cap2 ⟨⟩) l6NxX l6NxX ⟨i, s, m, h_, d, u, t, c, a0, a1, a2, a3, a4⟩ =
(.br (decide (i < (↑len : Int)))
 (.chk (sym.XOk w A (opCell K M X) (3 : Nat) len ∧
  (0 : Int) ≤ i ∧ i < (↑len : Int) ∧ (0 : Nat) < (3 : Nat))
 (.chk (sym.XOk w A (opCell K M X) (3 : Nat) len ∧
  (0 : Nat) < (3 : Nat) ∧ i.toNat < len ∧ (3 : Nat) ≤ (3 : Nat))
 (.chk (Ck.Ok { s := s, m := m, h := h_, d := d, cy := c } ∧
  ((0 : Int) ≤ u ∧ u ≤ (1048576 : Int)) ∧ Ck.B (X i.toNat))
 (.chk (A = A ∧
  opCell K M X = opCell K M X ∧
    (3 : Nat) = (3 : Nat) ∧ len = len ∧ cap = cap)
 (.chk (A2 = A2 ∧
  wordCell P = wordCell P ∧
    (1 : Nat) = (1 : Nat) ∧ len2 = len2 ∧ cap2 = cap2)
 (.chk (IntKind.i64 = IntKind.i64 ∧ (↑len : Int) = (↑len : Int))
 (.chk (IntKind.i64 = IntKind.i64 ∧ IntKind.i64.wrap (i + (1 : Int)) = IntKind.i64.wrap (i + (1 : Int)))
 (.chk (IntKind.u8 = IntKind.u8 ∧
  (Ck.doH (K i.toNat) (M i.toNat) (X i.toNat) t u
        { s := s, m := m, h := h_, d := d, cy := c }).s =
    (Ck.doH (K i.toNat) (M i.toNat) (X i.toNat) t u
        { s := s, m := m, h := h_, d := d, cy := c }).s)
 (.chk (IntKind.u8 = IntKind.u8 ∧
  (Ck.doH (K i.toNat) (M i.toNat) (X i.toNat) t u
        { s := s, m := m, h := h_, d := d, cy := c }).m =
    (Ck.doH (K i.toNat) (M i.toNat) (X i.toNat) t u
        { s := s, m := m, h := h_, d := d, cy := c }).m)
 (.chk (IntKind.u8 = IntKind.u8 ∧
  (Ck.doH (K i.toNat) (M i.toNat) (X i.toNat) t u
        { s := s, m := m, h := h_, d := d, cy := c }).h =
    (Ck.doH (K i.toNat) (M i.toNat) (X i.toNat) t u
        { s := s, m := m, h := h_, d := d, cy := c }).h)
 (.chk (IntKind.i64 = IntKind.i64 ∧
  (Ck.doH (K i.toNat) (M i.toNat) (X i.toNat) t u
        { s := s, m := m, h := h_, d := d, cy := c }).d =
    (Ck.doH (K i.toNat) (M i.toNat) (X i.toNat) t u
        { s := s, m := m, h := h_, d := d, cy := c }).d)
 (.chk (IntKind.i64 = IntKind.i64 ∧
  Ck.doU (K i.toNat) (M i.toNat) t u =
    Ck.doU (K i.toNat) (M i.toNat) t u)
 (.chk (Ck.doT (K i.toNat) (M i.toNat) (X i.toNat) t =
  Ck.doT (K i.toNat) (M i.toNat) (X i.toNat) t)
 (.chk ((Ck.doH (K i.toNat) (M i.toNat) (X i.toNat) t u
      { s := s, m := m, h := h_, d := d, cy := c }).cy =
  (Ck.doH (K i.toNat) (M i.toNat) (X i.toNat) t u
      { s := s, m := m, h := h_, d := d, cy := c }).cy)
 (.chk (IntKind.u8 = IntKind.u8 ∧
  Ck.doA (K i.toNat) s a0 = Ck.doA (K i.toNat) s a0)
 (.chk (IntKind.u8 = IntKind.u8 ∧
  Ck.doA (K i.toNat) m a1 = Ck.doA (K i.toNat) m a1)
 (.chk (IntKind.u8 = IntKind.u8 ∧
  Ck.doA (K i.toNat) h_ a2 = Ck.doA (K i.toNat) h_ a2)
 (.chk (IntKind.u8 = IntKind.u8 ∧
  Ck.doA (K i.toNat) (d % (256 : Int)) a3 =
    Ck.doA (K i.toNat) (d % (256 : Int)) a3)
 (.chk (IntKind.u8 = IntKind.u8 ∧
  Ck.doA (K i.toNat) (Ck.top d t c) a4 =
    Ck.doA (K i.toNat) (Ck.top d t c) a4)
 (.leaf (.inl ⟨IntKind.i64.wrap (i + (1 : Int)), (Ck.doH (K i.toNat) (M i.toNat) (X i.toNat) t u
    { s := s, m := m, h := h_, d := d, cy := c }).s, (Ck.doH (K i.toNat) (M i.toNat) (X i.toNat) t u
    { s := s, m := m, h := h_, d := d, cy := c }).m, (Ck.doH (K i.toNat) (M i.toNat) (X i.toNat) t u
    { s := s, m := m, h := h_, d := d, cy := c }).h, (Ck.doH (K i.toNat) (M i.toNat) (X i.toNat) t u
    { s := s, m := m, h := h_, d := d, cy := c }).d, Ck.doU (K i.toNat) (M i.toNat) t u, Ck.doT (K i.toNat) (M i.toNat) (X i.toNat) t, (Ck.doH (K i.toNat) (M i.toNat) (X i.toNat) t u
    { s := s, m := m, h := h_, d := d, cy := c }).cy, Ck.doA (K i.toNat) s a0, Ck.doA (K i.toNat) m a1, Ck.doA (K i.toNat) h_ a2, Ck.doA (K i.toNat) (d % (256 : Int)) a3, Ck.doA (K i.toNat) (Ck.top d t c) a4⟩)))))))))))))))))))))
 (.chk (A = A ∧
  opCell K M X = opCell K M X ∧
    (3 : Nat) = (3 : Nat) ∧ len = len ∧ cap = cap)
 (.chk (A2 = A2 ∧
  wordCell P = wordCell P ∧
    (1 : Nat) = (1 : Nat) ∧ len2 = len2 ∧ cap2 = cap2)
 (.chk (IntKind.i64 = IntKind.i64 ∧ (↑len : Int) = (↑len : Int))
 (.chk (IntKind.i64 = IntKind.i64 ∧ i = i)
 (.chk (IntKind.u8 = IntKind.u8 ∧ s = s)
 (.chk (IntKind.u8 = IntKind.u8 ∧ m = m)
 (.chk (IntKind.u8 = IntKind.u8 ∧ h_ = h_)
 (.chk (IntKind.i64 = IntKind.i64 ∧ d = d)
 (.chk (IntKind.i64 = IntKind.i64 ∧ u = u)
 (.chk (t = t)
 (.chk (c = c)
 (.chk (IntKind.u8 = IntKind.u8 ∧ a0 = a0)
 (.chk (IntKind.u8 = IntKind.u8 ∧ a1 = a1)
 (.chk (IntKind.u8 = IntKind.u8 ∧ a2 = a2)
 (.chk (IntKind.u8 = IntKind.u8 ∧ a3 = a3)
 (.chk (IntKind.u8 = IntKind.u8 ∧ a4 = a4)
 (.leaf (.inr ⟨i, s, m, h_, d, u, t, c, a0, a1, a2, a3, a4⟩))))))))))))))))))) := by kernel_rfl
theorem m6step_tree (w : World) (A : Option Addr) (K M X : Nat → Int) (len cap : Nat) (A2 : Option Addr) (P : Nat → Int) (len2 cap2 : Nat) (s0 : Int) (m0 : Int) (h0 : Int) (d0 : Int) (u0 : Int) (t0 : Bool) (c0 : Bool) (a00 : Int) (a10 : Int) (a20 : Int) (a30 : Int) (a40 : Int) (j : Int) (sum : Int) (s : Int) (m : Int) (h_ : Int) (d : Int) (u : Int) (t : Bool) (c : Bool) (a0 : Int) (a1 : Int) (a2 : Int) (a3 : Int) (a4 : Int) :
    roundT Try.prog w (flatT Try.prog) (ctrOf table) (callT Try.prog w (flatT Try.prog) (ctrOf table) (noLoop) 20) ((noLoop) 6) (roundOf (bodyAt Try.prog 6 2)) 2 (m6St A K M X len cap A2 P len2 cap2 ⟨s0, m0, h0, d0, u0, t0, c0, a00, a10, a20, a30, a40⟩) (m6Fin A K M X len cap A2 P len2 cap2 ⟨s0, m0, h0, d0, u0, t0, c0, a00, a10, a20, a30, a40⟩) m6NxX m6NxX ⟨j, sum, s, m, h_, d, u, t, c, a0, a1, a2, a3, a4⟩ =
(.br (decide (j < (↑len2 : Int)))
 (.chk (sym.XOk w A2 (wordCell P) (1 : Nat) len2 ∧
  (0 : Int) ≤ j ∧ j < (↑len2 : Int) ∧ (0 : Nat) < (1 : Nat))
 (.chk (sym.XOk w A2 (wordCell P) (1 : Nat) len2 ∧
  j.toNat < len2 ∧ (1 : Nat) ≤ (1 : Nat))
 (.chk (Ck.Ok { s := s, m := m, h := h_, d := d, cy := c } ∧ (0 : Int) ≤ u ∧ u ≤ (1048576 : Int))
 (.chk (A2 = A2 ∧
  wordCell P = wordCell P ∧
    (1 : Nat) = (1 : Nat) ∧ len2 = len2 ∧ cap2 = cap2)
 (.chk (IntKind.i64 = IntKind.i64 ∧
  IntKind.i64.wrap (sum + IntKind.i64.wrap ((P j.toNat).tmod (20971520 : Int))) =
    IntKind.i64.wrap (sum + IntKind.i64.wrap ((P j.toNat).tmod (20971520 : Int))))
 (.chk (IntKind.i64 = IntKind.i64 ∧ (↑len2 : Int) = (↑len2 : Int))
 (.chk (IntKind.i64 = IntKind.i64 ∧ IntKind.i64.wrap (j + (1 : Int)) = IntKind.i64.wrap (j + (1 : Int)))
 (.chk (IntKind.u8 = IntKind.u8 ∧ s0 = s0)
 (.chk (IntKind.u8 = IntKind.u8 ∧ m0 = m0)
 (.chk (IntKind.u8 = IntKind.u8 ∧ h0 = h0)
 (.chk (IntKind.i64 = IntKind.i64 ∧ d0 = d0)
 (.chk (IntKind.i64 = IntKind.i64 ∧ u0 = u0)
 (.chk (t0 = t0)
 (.chk (c0 = c0)
 (.chk (IntKind.u8 = IntKind.u8 ∧ a00 = a00)
 (.chk (IntKind.u8 = IntKind.u8 ∧ a10 = a10)
 (.chk (IntKind.u8 = IntKind.u8 ∧ a20 = a20)
 (.chk (IntKind.u8 = IntKind.u8 ∧ a30 = a30)
 (.chk (IntKind.u8 = IntKind.u8 ∧ a40 = a40)
 (.chk (IntKind.u8 = IntKind.u8 ∧
  (Ck.tkH t u (IntKind.i64.wrap ((P j.toNat).tmod (20971520 : Int)))
        { s := s, m := m, h := h_, d := d, cy := c }).s =
    (Ck.tkH t u (IntKind.i64.wrap ((P j.toNat).tmod (20971520 : Int)))
        { s := s, m := m, h := h_, d := d, cy := c }).s)
 (.chk (IntKind.u8 = IntKind.u8 ∧
  (Ck.tkH t u (IntKind.i64.wrap ((P j.toNat).tmod (20971520 : Int)))
        { s := s, m := m, h := h_, d := d, cy := c }).m =
    (Ck.tkH t u (IntKind.i64.wrap ((P j.toNat).tmod (20971520 : Int)))
        { s := s, m := m, h := h_, d := d, cy := c }).m)
 (.chk (IntKind.u8 = IntKind.u8 ∧
  (Ck.tkH t u (IntKind.i64.wrap ((P j.toNat).tmod (20971520 : Int)))
        { s := s, m := m, h := h_, d := d, cy := c }).h =
    (Ck.tkH t u (IntKind.i64.wrap ((P j.toNat).tmod (20971520 : Int)))
        { s := s, m := m, h := h_, d := d, cy := c }).h)
 (.chk (IntKind.i64 = IntKind.i64 ∧
  (Ck.tkH t u (IntKind.i64.wrap ((P j.toNat).tmod (20971520 : Int)))
        { s := s, m := m, h := h_, d := d, cy := c }).d =
    (Ck.tkH t u (IntKind.i64.wrap ((P j.toNat).tmod (20971520 : Int)))
        { s := s, m := m, h := h_, d := d, cy := c }).d)
 (.chk (IntKind.i64 = IntKind.i64 ∧
  Ck.tkU t u (IntKind.i64.wrap ((P j.toNat).tmod (20971520 : Int))) =
    Ck.tkU t u (IntKind.i64.wrap ((P j.toNat).tmod (20971520 : Int))))
 (.chk (t = t)
 (.chk ((Ck.tkH t u (IntKind.i64.wrap ((P j.toNat).tmod (20971520 : Int)))
      { s := s, m := m, h := h_, d := d, cy := c }).cy =
  (Ck.tkH t u (IntKind.i64.wrap ((P j.toNat).tmod (20971520 : Int)))
      { s := s, m := m, h := h_, d := d, cy := c }).cy)
 (.chk (IntKind.u8 = IntKind.u8 ∧ a0 = a0)
 (.chk (IntKind.u8 = IntKind.u8 ∧ a1 = a1)
 (.chk (IntKind.u8 = IntKind.u8 ∧ a2 = a2)
 (.chk (IntKind.u8 = IntKind.u8 ∧ a3 = a3)
 (.chk (IntKind.u8 = IntKind.u8 ∧ a4 = a4)
 (.leaf (.inl ⟨IntKind.i64.wrap (j + (1 : Int)), IntKind.i64.wrap (sum + IntKind.i64.wrap ((P j.toNat).tmod (20971520 : Int))), (Ck.tkH t u (IntKind.i64.wrap ((P j.toNat).tmod (20971520 : Int)))
    { s := s, m := m, h := h_, d := d, cy := c }).s, (Ck.tkH t u (IntKind.i64.wrap ((P j.toNat).tmod (20971520 : Int)))
    { s := s, m := m, h := h_, d := d, cy := c }).m, (Ck.tkH t u (IntKind.i64.wrap ((P j.toNat).tmod (20971520 : Int)))
    { s := s, m := m, h := h_, d := d, cy := c }).h, (Ck.tkH t u (IntKind.i64.wrap ((P j.toNat).tmod (20971520 : Int)))
    { s := s, m := m, h := h_, d := d, cy := c }).d, Ck.tkU t u (IntKind.i64.wrap ((P j.toNat).tmod (20971520 : Int))), t, (Ck.tkH t u (IntKind.i64.wrap ((P j.toNat).tmod (20971520 : Int)))
    { s := s, m := m, h := h_, d := d, cy := c }).cy, a0, a1, a2, a3, a4⟩)))))))))))))))))))))))))))))))))
 (.chk (A2 = A2 ∧
  wordCell P = wordCell P ∧
    (1 : Nat) = (1 : Nat) ∧ len2 = len2 ∧ cap2 = cap2)
 (.chk (IntKind.i64 = IntKind.i64 ∧ sum = sum)
 (.chk (IntKind.i64 = IntKind.i64 ∧ (↑len2 : Int) = (↑len2 : Int))
 (.chk (IntKind.i64 = IntKind.i64 ∧ j = j)
 (.chk (IntKind.u8 = IntKind.u8 ∧ s0 = s0)
 (.chk (IntKind.u8 = IntKind.u8 ∧ m0 = m0)
 (.chk (IntKind.u8 = IntKind.u8 ∧ h0 = h0)
 (.chk (IntKind.i64 = IntKind.i64 ∧ d0 = d0)
 (.chk (IntKind.i64 = IntKind.i64 ∧ u0 = u0)
 (.chk (t0 = t0)
 (.chk (c0 = c0)
 (.chk (IntKind.u8 = IntKind.u8 ∧ a00 = a00)
 (.chk (IntKind.u8 = IntKind.u8 ∧ a10 = a10)
 (.chk (IntKind.u8 = IntKind.u8 ∧ a20 = a20)
 (.chk (IntKind.u8 = IntKind.u8 ∧ a30 = a30)
 (.chk (IntKind.u8 = IntKind.u8 ∧ a40 = a40)
 (.chk (IntKind.u8 = IntKind.u8 ∧ s = s)
 (.chk (IntKind.u8 = IntKind.u8 ∧ m = m)
 (.chk (IntKind.u8 = IntKind.u8 ∧ h_ = h_)
 (.chk (IntKind.i64 = IntKind.i64 ∧ d = d)
 (.chk (IntKind.i64 = IntKind.i64 ∧ u = u)
 (.chk (t = t)
 (.chk (c = c)
 (.chk (IntKind.u8 = IntKind.u8 ∧ a0 = a0)
 (.chk (IntKind.u8 = IntKind.u8 ∧ a1 = a1)
 (.chk (IntKind.u8 = IntKind.u8 ∧ a2 = a2)
 (.chk (IntKind.u8 = IntKind.u8 ∧ a3 = a3)
 (.chk (IntKind.u8 = IntKind.u8 ∧ a4 = a4)
 (.leaf (.inr ⟨j, sum, s, m, h_, d, u, t, c, a0, a1, a2, a3, a4⟩))))))))))))))))))))))))))))))) := by kernel_rfl
theorem parts_tree (w : World) (A : Option Addr) (K M X : Nat → Int) (len cap : Nat) (A2 : Option Addr) (P : Nat → Int) (len2 cap2 : Nat) :
    callV Try.prog w (flatT Try.prog) (ctrOf table) (lpOf Try.prog [l6Lp A K M X len cap A2 P len2 cap2, m6Lp A K M X len cap A2 P len2 cap2]) 20 6 [.v (.one (.xs A (opCell K M X) 3 len cap)), .v (.one (.xs A2 (wordCell P) 1 len2 cap2))] =
(.chk (True)
(.br (decide ((↑len : Int) > (60 : Int)))
 (.chk (True)
 (.leaf (.v (.one (.bool true true)))))
 (.br (decide ((↑len2 : Int) > (20 : Int)))
  (.chk (True)
  (.leaf (.v (.one (.bool true true)))))
  (.chk (sym.bodyAt Go.Proofs.Try.prog (6 : Go.FuncId) (0 : Nat) = sym.bodyAt Go.Proofs.Try.prog (6 : Go.FuncId) (0 : Nat))
  (.chk (A = A ∧
  opCell K M X = opCell K M X ∧
    (3 : Nat) = (3 : Nat) ∧ len = len ∧ cap = cap)
  (.chk (A2 = A2 ∧
  wordCell P = wordCell P ∧
    (1 : Nat) = (1 : Nat) ∧ len2 = len2 ∧ cap2 = cap2)
  (.chk (IntKind.i64 = IntKind.i64 ∧ (↑len : Int) = (↑len : Int))
  (.chk (IntKind.i64 = IntKind.i64 ∧ (0 : Int) = (0 : Int))
  (.chk (IntKind.u8 = IntKind.u8 ∧ (0 : Int) = (0 : Int))
  (.chk (IntKind.u8 = IntKind.u8 ∧ (0 : Int) = (0 : Int))
  (.chk (IntKind.u8 = IntKind.u8 ∧ (0 : Int) = (0 : Int))
  (.chk (IntKind.i64 = IntKind.i64 ∧ (0 : Int) = (0 : Int))
  (.chk (IntKind.i64 = IntKind.i64 ∧ (0 : Int) = (0 : Int))
  (.chk (false = false)
  (.chk (false = false)
  (.chk (IntKind.u8 = IntKind.u8 ∧ (0 : Int) = (0 : Int))
  (.chk (IntKind.u8 = IntKind.u8 ∧ (0 : Int) = (0 : Int))
  (.chk (IntKind.u8 = IntKind.u8 ∧ (0 : Int) = (0 : Int))
  (.chk (IntKind.u8 = IntKind.u8 ∧ (0 : Int) = (0 : Int))
  (.chk (IntKind.u8 = IntKind.u8 ∧ (0 : Int) = (0 : Int))
  (.chk (l6Inv A K M X len cap A2 P len2 cap2 { }
  { i := (0 : Int), s := (0 : Int), m := (0 : Int), h_ := (0 : Int), d := (0 : Int), u := (0 : Int), t := false,
    c := false, a0 := (0 : Int), a1 := (0 : Int), a2 := (0 : Int), a3 := (0 : Int), a4 := (0 : Int) })
  (.all fun x : sym.Got l6X
  (l6Post A K M X len cap A2 P len2 cap2 { }) =>
   (.chk (sym.bodyAt Go.Proofs.Try.prog (6 : Go.FuncId) (2 : Nat) = sym.bodyAt Go.Proofs.Try.prog (6 : Go.FuncId) (2 : Nat))
   (.chk (A2 = A2 ∧
  wordCell P = wordCell P ∧
    (1 : Nat) = (1 : Nat) ∧ len2 = len2 ∧ cap2 = cap2)
   (.chk (IntKind.i64 = IntKind.i64 ∧ (0 : Int) = (0 : Int))
   (.chk (IntKind.i64 = IntKind.i64 ∧ (↑len2 : Int) = (↑len2 : Int))
   (.chk (IntKind.i64 = IntKind.i64 ∧ (0 : Int) = (0 : Int))
   (.chk (IntKind.u8 = IntKind.u8 ∧ x.1.2 = x.1.2)
   (.chk (IntKind.u8 = IntKind.u8 ∧ x.1.3 = x.1.3)
   (.chk (IntKind.u8 = IntKind.u8 ∧ x.1.4 = x.1.4)
   (.chk (IntKind.i64 = IntKind.i64 ∧ x.1.5 = x.1.5)
   (.chk (IntKind.i64 = IntKind.i64 ∧ x.1.6 = x.1.6)
   (.chk (x.1.7 = x.1.7)
   (.chk (x.1.8 = x.1.8)
   (.chk (IntKind.u8 = IntKind.u8 ∧ x.1.9 = x.1.9)
   (.chk (IntKind.u8 = IntKind.u8 ∧ x.1.10 = x.1.10)
   (.chk (IntKind.u8 = IntKind.u8 ∧ x.1.11 = x.1.11)
   (.chk (IntKind.u8 = IntKind.u8 ∧ x.1.12 = x.1.12)
   (.chk (IntKind.u8 = IntKind.u8 ∧ x.1.13 = x.1.13)
   (.chk (IntKind.u8 = IntKind.u8 ∧ x.1.2 = x.1.2)
   (.chk (IntKind.u8 = IntKind.u8 ∧ x.1.3 = x.1.3)
   (.chk (IntKind.u8 = IntKind.u8 ∧ x.1.4 = x.1.4)
   (.chk (IntKind.i64 = IntKind.i64 ∧ x.1.5 = x.1.5)
   (.chk (IntKind.i64 = IntKind.i64 ∧ x.1.6 = x.1.6)
   (.chk (x.1.7 = x.1.7)
   (.chk (x.1.8 = x.1.8)
   (.chk (IntKind.u8 = IntKind.u8 ∧ x.1.9 = x.1.9)
   (.chk (IntKind.u8 = IntKind.u8 ∧ x.1.10 = x.1.10)
   (.chk (IntKind.u8 = IntKind.u8 ∧ x.1.11 = x.1.11)
   (.chk (IntKind.u8 = IntKind.u8 ∧ x.1.12 = x.1.12)
   (.chk (IntKind.u8 = IntKind.u8 ∧ x.1.13 = x.1.13)
   (.chk (m6Inv A K M X len cap A2 P len2 cap2
  { s0 := x.1.2, m0 := x.1.3, h0 := x.1.4, d0 := x.1.5, u0 := x.1.6, t0 := x.1.7, c0 := x.1.8, a00 := x.1.9,
    a10 := x.1.10, a20 := x.1.11, a30 := x.1.12, a40 := x.1.13 }
  { j := (0 : Int), sum := (0 : Int), s := x.1.2, m := x.1.3, h_ := x.1.4, d := x.1.5, u := x.1.6, t := x.1.7,
    c := x.1.8, a0 := x.1.9, a1 := x.1.10, a2 := x.1.11, a3 := x.1.12, a4 := x.1.13 })
   (.all fun x_1 : sym.Got m6X
  (m6Post A K M X len cap A2 P len2 cap2
    { s0 := x.1.2, m0 := x.1.3, h0 := x.1.4, d0 := x.1.5, u0 := x.1.6, t0 := x.1.7, c0 := x.1.8, a00 := x.1.9,
      a10 := x.1.10, a20 := x.1.11, a30 := x.1.12, a40 := x.1.13 }) =>
    (.chk (Ck.Ok { s := x.1.2, m := x.1.3, h := x.1.4, d := x.1.5, cy := x.1.8 } ∧
  (0 : Int) ≤ x.1.6 ∧ x.1.6 ≤ (1048576 : Int))
    (.br (x_1.1.3 ==
    (Ck.tkH x.1.7 x.1.6 x_1.1.2
        { s := x.1.2, m := x.1.3, h := x.1.4, d := x.1.5, cy := x.1.8 }).s &&
  (x_1.1.4 ==
      (Ck.tkH x.1.7 x.1.6 x_1.1.2
          { s := x.1.2, m := x.1.3, h := x.1.4, d := x.1.5, cy := x.1.8 }).m &&
    (x_1.1.5 ==
        (Ck.tkH x.1.7 x.1.6 x_1.1.2
            { s := x.1.2, m := x.1.3, h := x.1.4, d := x.1.5, cy := x.1.8 }).h &&
      (x_1.1.6 ==
          (Ck.tkH x.1.7 x.1.6 x_1.1.2
              { s := x.1.2, m := x.1.3, h := x.1.4, d := x.1.5, cy := x.1.8 }).d &&
        (x_1.1.7 == Ck.tkU x.1.7 x.1.6 x_1.1.2 &&
          (x_1.1.8 == x.1.7 &&
            (x_1.1.9 ==
                (Ck.tkH x.1.7 x.1.6 x_1.1.2
                    { s := x.1.2, m := x.1.3, h := x.1.4, d := x.1.5, cy := x.1.8 }).cy &&
              (x_1.1.10 == x.1.9 &&
                (x_1.1.11 == x.1.10 &&
                  (x_1.1.12 == x.1.11 && (x_1.1.13 == x.1.12 && (x_1.1.14 == x.1.13 && true))))))))))))
     (.leaf (.v (.one (.bool false (decide (x_1.1.7 < (1048576 : Int)))))))
     (.leaf (.v (.one (.bool true false))))))))))))))))))))))))))))))))))))))))))))))))))))))))))) := by kernel_rfl
def l6Mu (A : Option Addr) (K M X : Nat → Int) (len cap : Nat) (A2 : Option Addr) (P : Nat → Int) (len2 cap2 : Nat) (p : l6P) (x : l6X) : Nat := ((len : Int) - x.i).toNat
theorem l6_step (w : World) (A : Option Addr) (K M X : Nat → Int) (len cap : Nat) (A2 : Option Addr) (P : Nat → Int) (len2 cap2 : Nat) (p : l6P) (x : l6X) (hX : XOk w A (opCell K M X) 3 len) (hB : ∀ i, i < len → Ck.B (X i)) (h : l6Inv A K M X len cap A2 P len2 cap2 p x) : Hid (roundT Try.prog w (flatT Try.prog) (ctrOf table) (callT Try.prog w (flatT Try.prog) (ctrOf table) (noLoop) 20) ((noLoop) 6) (roundOf (bodyAt Try.prog 6 0)) 0 (l6St A K M X len cap A2 P len2 cap2 p) (l6Fin A K M X len cap A2 P len2 cap2 p) l6NxX l6NxX x) (Kept (l6Inv A K M X len cap A2 P len2 cap2 p) (l6Post A K M X len cap A2 P len2 cap2 p) (l6Mu A K M X len cap A2 P len2 cap2 p) x) := by
  obtain ⟨⟩ := p
  obtain ⟨i, s, m, h_, d, u, t, c, a0, a1, a2, a3, a4⟩ := x
  constructor
  rw [l6step_tree]
  simp only [T.holds, Kept, l6Mu, and_self, true_and, and_true]
  try simp only [beq_self_eq_true, bne_self_eq_false, Bool.and_true, Bool.true_and, Bool.and_self, Bool.not_true, Bool.not_false, Bool.false_eq_true, Bool.true_eq_false, false_implies, forall_const, and_self, true_and, and_true, if_true, if_false, reduceIte]
  obtain ⟨h1, h2, hl, hk, hu⟩ := h
  simp only at h1 h2 hl hk hu
  have next : i < (len : Int) → IntKind.i64.wrap (i + 1) = i + 1 := fun hi => Ck.wi64 _ (by omega) (by omega)
  refine ⟨fun h => ?_, fun h => ⟨hk, hu⟩⟩
  have hi : i < (len : Int) := by simpa using h
  have hx : XOk w A (opCell K M X) 3 len ∧ 0 ≤ i ∧ i < (len : Int) ∧ 0 < 3 := ⟨hX, h1, hi, by decide⟩
  have hx2 : XOk w A (opCell K M X) 3 len ∧ 0 < 3 ∧ i.toNat < len ∧ 3 ≤ 3 := ⟨hX, by decide, by omega, by decide⟩
  have bX := hB i.toNat (by omega)
  have hu' : 0 ≤ u ∧ u ≤ 1048576 := ⟨hu.1, by omega⟩
  have ask : Ck.Ok ⟨s, m, h_, d, c⟩ ∧ (0 ≤ u ∧ u ≤ 1048576) ∧ Ck.B (X i.toNat) := ⟨hk, hu', bX⟩
  rw [next hi]
  exact ⟨hx, hx2, ask, ⟨by show 0 ≤ i + 1; omega, by show i + 1 ≤ (len : Int); omega, hl, Ck.doH_ok bX hk, Ck.doU_lt hu⟩, by show ((len : Int) - (i + 1)).toNat < ((len : Int) - i).toNat; omega⟩
theorem l6Lp_ok (w : World) (A : Option Addr) (K M X : Nat → Int) (len cap : Nat) (A2 : Option Addr) (P : Nat → Int) (len2 cap2 : Nat) (hX : XOk w A (opCell K M X) 3 len) (hB : ∀ i, i < len → Ck.B (X i)) : (l6Lp A K M X len cap A2 P len2 cap2).ok Try.prog w := by
  intro s t h
  unfold l6Lp at h
  simp only at h
  split at h
  · rename_i p _
    split at h
    · rename_i x _
      cases h
      exact loop_ok base2 (table_ok w) (callT_ok base2.mixed base2.names base2.eqs (table_ok w).ok (table_ok w).there (loops_none _ _) 20) ((loops_none _ _) 6) (c := roundOf (bodyAt Try.prog 6 0)) (by kernel_rfl) (id := 0) (n := 1) (st := l6St A K M X len cap A2 P len2 cap2 p) (fin := l6Fin A K M X len cap A2 P len2 cap2 p) (inv := l6Inv A K M X len cap A2 P len2 cap2 p) (post := l6Post A K M X len cap A2 P len2 cap2 p) (nx := l6NxX) (fx := l6NxX) (l6Mu A K M X len cap A2 P len2 cap2 p) (fun x => by kernel_rfl) (fun y => by kernel_rfl) (fun x hx => l6_step w A K M X len cap A2 P len2 cap2 p x hX hB hx) s x
    · cases h
  · cases h
def m6Mu (A : Option Addr) (K M X : Nat → Int) (len cap : Nat) (A2 : Option Addr) (P : Nat → Int) (len2 cap2 : Nat) (p : m6P) (x : m6X) : Nat := ((len2 : Int) - x.j).toNat
theorem m6_step (w : World) (A : Option Addr) (K M X : Nat → Int) (len cap : Nat) (A2 : Option Addr) (P : Nat → Int) (len2 cap2 : Nat) (p : m6P) (x : m6X) (hP : XOk w A2 (wordCell P) 1 len2) (hQ : ∀ i, i < len2 → 0 ≤ P i ∧ P i < 4294967296) (h : m6Inv A K M X len cap A2 P len2 cap2 p x) : Hid (roundT Try.prog w (flatT Try.prog) (ctrOf table) (callT Try.prog w (flatT Try.prog) (ctrOf table) (noLoop) 20) ((noLoop) 6) (roundOf (bodyAt Try.prog 6 2)) 2 (m6St A K M X len cap A2 P len2 cap2 p) (m6Fin A K M X len cap A2 P len2 cap2 p) m6NxX m6NxX x) (Kept (m6Inv A K M X len cap A2 P len2 cap2 p) (m6Post A K M X len cap A2 P len2 cap2 p) (m6Mu A K M X len cap A2 P len2 cap2 p) x) := by
  obtain ⟨s0, m0, h0, d0, u0, t0, c0, a00, a10, a20, a30, a40⟩ := p
  obtain ⟨j, sum, s, m, h_, d, u, t, c, a0, a1, a2, a3, a4⟩ := x
  constructor
  rw [m6step_tree]
  simp only [T.holds, Kept, m6Mu, and_self, true_and, and_true]
  try simp only [beq_self_eq_true, bne_self_eq_false, Bool.and_true, Bool.true_and, Bool.and_self, Bool.not_true, Bool.not_false, Bool.false_eq_true, Bool.true_eq_false, false_implies, forall_const, and_self, true_and, and_true, if_true, if_false, reduceIte]
  obtain ⟨h1, h2, hl, hk, hu, hs, hhd, hus, hts, e0, e1, e2, e3, e4⟩ := h
  simp only at h1 h2 hl hk hu hs hhd hus hts e0 e1 e2 e3 e4
  refine ⟨fun h => ?_, fun h => ⟨⟨hs.1, by show sum ≤ 419430400; omega⟩, hhd, hus, hts, e0, e1, e2, e3, e4⟩⟩
  have hi : j < (len2 : Int) := by simpa using h
  have hx : XOk w A2 (wordCell P) 1 len2 ∧ 0 ≤ j ∧ j < (len2 : Int) ∧ 0 < 1 := ⟨hP, h1, hi, by decide⟩
  have hx2 : XOk w A2 (wordCell P) 1 len2 ∧ j.toNat < len2 ∧ 1 ≤ 1 := ⟨hP, by omega, by decide⟩
  have bp := hQ j.toNat (by omega)
  have ok : Ck.Ok ⟨s, m, h_, d, c⟩ := by rw [hhd]; exact Ck.tkH_ok hk
  have hub : 0 ≤ u ∧ u < 1048576 := by rw [hus]; exact Ck.tkU_lt hu
  have ew : IntKind.i64.wrap (j + 1) = j + 1 := Ck.wi64 _ (by omega) (by omega)
  have en : IntKind.i64.wrap ((P j.toNat).tmod 20971520) = P j.toNat % 20971520 := by
    rw [Int.tmod_eq_emod_of_nonneg bp.1]; exact Ck.wi64 _ (by omega) (by omega)
  rw [en, ew]
  have bn : 0 ≤ P j.toNat % 20971520 ∧ P j.toNat % 20971520 < 20971520 := by omega
  generalize P j.toNat % 20971520 = n at bn
  have es : IntKind.i64.wrap (sum + n) = sum + n := Ck.wi64 _ (by omega) (by omega)
  rw [es]
  obtain ⟨q1, q2⟩ := Ck.tk_add t0 u0 sum n ⟨s0, m0, h0, d0, c0⟩ hu hs.1 bn.1 (by omega)
  refine ⟨hx, hx2, ⟨ok, hub.1, by omega⟩, ⟨by show 0 ≤ j + 1; omega, by show j + 1 ≤ (len2 : Int); omega, hl, hk, hu, ⟨by show 0 ≤ sum + n; omega, by show sum + n ≤ 20971520 * (j + 1); omega⟩, ?_, ?_, hts, e0, e1, e2, e3, e4⟩, by show ((len2 : Int) - (j + 1)).toNat < ((len2 : Int) - j).toNat; omega⟩
  · show Ck.tkH t u n ⟨s, m, h_, d, c⟩ = Ck.tkH t0 u0 (sum + n) ⟨s0, m0, h0, d0, c0⟩
    rw [hhd, hus, hts, q1]
  · show Ck.tkU t u n = Ck.tkU t0 u0 (sum + n)
    rw [hus, hts, q2]
theorem m6Lp_ok (w : World) (A : Option Addr) (K M X : Nat → Int) (len cap : Nat) (A2 : Option Addr) (P : Nat → Int) (len2 cap2 : Nat) (hP : XOk w A2 (wordCell P) 1 len2) (hQ : ∀ i, i < len2 → 0 ≤ P i ∧ P i < 4294967296) : (m6Lp A K M X len cap A2 P len2 cap2).ok Try.prog w := by
  intro s t h
  unfold m6Lp at h
  simp only at h
  split at h
  · rename_i p _
    split at h
    · rename_i x _
      cases h
      exact loop_ok base2 (table_ok w) (callT_ok base2.mixed base2.names base2.eqs (table_ok w).ok (table_ok w).there (loops_none _ _) 20) ((loops_none _ _) 6) (c := roundOf (bodyAt Try.prog 6 2)) (by kernel_rfl) (id := 2) (n := 2) (st := m6St A K M X len cap A2 P len2 cap2 p) (fin := m6Fin A K M X len cap A2 P len2 cap2 p) (inv := m6Inv A K M X len cap A2 P len2 cap2 p) (post := m6Post A K M X len cap A2 P len2 cap2 p) (nx := m6NxX) (fx := m6NxX) (m6Mu A K M X len cap A2 P len2 cap2 p) (fun x => by kernel_rfl) (fun y => by kernel_rfl) (fun x hx => m6_step w A K M X len cap A2 P len2 cap2 p x hP hQ hx) s x
    · cases h
  · cases h
set_option maxHeartbeats 4000000 in
theorem parts_walk (w : World) (A : Option Addr) (K M X : Nat → Int) (len cap : Nat) (A2 : Option Addr) (P : Nat → Int) (len2 cap2 : Nat) (hX : XOk w A (opCell K M X) 3 len) (hB : ∀ i, i < len → Ck.B (X i)) (hP : XOk w A2 (wordCell P) 1 len2) (hQ : ∀ i, i < len2 → 0 ≤ P i ∧ P i < 4294967296) : Calls Try.prog 6 #[.slice A len cap, .slice A2 len2 cap2] w fun e w' => e = .returned (.bool true) ∧ Below w.heap.size w w' := by
  have hl : LcsOk Try.prog w (lpOf Try.prog [l6Lp A K M X len cap A2 P len2 cap2, m6Lp A K M X len cap A2 P len2 cap2]) := lps_ok fun l hl => by
    simp only [List.mem_cons, List.not_mem_nil, or_false] at hl
    rcases hl with rfl | rfl
    · exact l6Lp_ok w A K M X len cap A2 P len2 cap2 hX hB
    · exact m6Lp_ok w A K M X len cap A2 P len2 cap2 hP hQ
  refine val_eq base2 (table_ok w) hl (parts_tree w A K M X len cap A2 P len2 cap2) rfl ?_
  simp only [T.holds, and_self, true_and, and_true]
  refine ⟨fun _ => ⟨rfl, rfl⟩, fun h => ⟨fun _ => ⟨rfl, rfl⟩, fun g => ⟨⟨by show (0:Int) ≤ 0; omega, by show (0:Int) ≤ (len : Int); omega, by simp at h; omega, ⟨⟨by decide, by decide⟩, ⟨by decide, by decide⟩, ⟨by decide, by decide⟩, ⟨by decide, by decide⟩⟩, ⟨by decide, by decide⟩⟩, fun y => ?_⟩⟩⟩
  obtain ⟨⟨yi, ys, ym, yh, yd, yu, yt, yc, y0, y1, y2, y3, y4⟩, ok, hu⟩ := y
  dsimp only at ok hu ⊢
  obtain ⟨z1, z2⟩ := Ck.tk_zero yt yu ⟨ys, ym, yh, yd, yc⟩
  refine ⟨⟨by show (0:Int) ≤ 0; omega, by show (0:Int) ≤ (len2 : Int); omega, by simp at g; omega, ok, hu, ⟨by show (0:Int) ≤ 0; omega, by show (0:Int) ≤ 20971520 * 0; omega⟩, z1.symm, z2.symm, rfl, rfl, rfl, rfl, rfl, rfl⟩, fun x => ⟨⟨ok, hu.1, by omega⟩, ?_⟩⟩
  obtain ⟨⟨xj, xs, bs, bm, bh, bd, au, bt, bc, a0, a1, a2, a3, a4⟩, hs, hd, hus, hts, e0, e1, e2, e3, e4⟩ := x
  dsimp only at hs hd hus hts e0 e1 e2 e3 e4 ⊢
  have bu := Ck.tkU_lt (t := yt) (n := xs) hu
  rw [← hus] at bu
  simp only [← hd, ← hus, hts, e0, e1, e2, e3, e4, beq_self_eq_true, Bool.and_self, Bool.and_true, forall_const, Bool.true_eq_false, false_implies, and_true, show au < 1048576 from bu.2, decide_true]
  exact ⟨rfl, rfl⟩
end Go.Proofs.Ytpmgaoigelplgaa
