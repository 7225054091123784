/-
  Walk of a statement of the clock, by computing, with its rounds: whatever time goes by, and whatever is written and held. Bytes are below 256; no other condition.
-/
import Derived.Test.YtpmgaoigelplgaaA4
import Derived.Test.YtpmgaoigelplgaaSymA
namespace Go.Proofs.Ytpmgaoigelplgaa
open Go.RowKit sym
set_option linter.unusedVariables false
set_option linter.unusedSimpArgs false
set_option maxRecDepth 100000
def opCell (K M X : Nat → Int) : Nat → Nat → Sc := fun i q => match q with
  | 0 => .int false .i64 (K i)
  | 1 => .int false .i64 (M i)
  | _ => .int false .u8 (X i)
structure l4P where
structure l4X where
  i : Int
  s : Int
  m : Int
  h_ : Int
  d : Int
  u : Int
  t : Bool
  c : Bool
  a0 : Int
  a1 : Int
  a2 : Int
  a3 : Int
  a4 : Int
def l4St (A : Option Addr) (K M X : Nat → Int) (len cap : Nat) : l4P → l4X → ASt := fun ⟨⟩ ⟨i, s, m, h_, d, u, t, c, a0, a1, a2, a3, a4⟩ => ⟨slots (List.replicate 54 .any) [(0, .v (.one (.xs A (opCell K M X) 3 len cap))), (3, .v (.one (.ptr 0 0))), (4, .v (.one (.ptr 1 0))), (17, .v (.one (.int false .i64 (len : Int)))), (18, .v (.one (.int false .i64 i)))], [⟨[.int false .u8 s, .int false .u8 m, .int false .u8 h_, .int false .i64 d, .int false .i64 u, .bool false t, .bool false c, .int false .u8 a0, .int false .u8 a1, .int false .u8 a2, .int false .u8 a3, .int false .u8 a4], 26⟩, ⟨[.int false .u8 s, .int false .u8 m, .int false .u8 h_, .int false .i64 d, .int false .i64 u, .bool false t, .bool false c, .int false .u8 a0, .int false .u8 a1, .int false .u8 a2, .int false .u8 a3, .int false .u8 a4], 30⟩]⟩
def l4Fin (A : Option Addr) (K M X : Nat → Int) (len cap : Nat) : l4P → l4X → ASt := fun ⟨⟩ ⟨i, s, m, h_, d, u, t, c, a0, a1, a2, a3, a4⟩ => ⟨slots (List.replicate 54 .any) [(0, .v (.one (.xs A (opCell K M X) 3 len cap))), (3, .v (.one (.ptr 0 0))), (4, .v (.one (.ptr 1 0))), (17, .v (.one (.int false .i64 (len : Int)))), (18, .v (.one (.int false .i64 i)))], [⟨[.int false .u8 s, .int false .u8 m, .int false .u8 h_, .int false .i64 d, .int false .i64 u, .bool false t, .bool false c, .int false .u8 a0, .int false .u8 a1, .int false .u8 a2, .int false .u8 a3, .int false .u8 a4], 26⟩, ⟨[.int false .u8 s, .int false .u8 m, .int false .u8 h_, .int false .i64 d, .int false .i64 u, .bool false t, .bool false c, .int false .u8 a0, .int false .u8 a1, .int false .u8 a2, .int false .u8 a3, .int false .u8 a4], 30⟩]⟩
def l4NxP : ASt → Option l4P := fun st_ => some ⟨⟩
def l4NxX : ASt → Option l4X := fun st_ => match gI st_ 18 with | none => none | some i => match hI st_ 0 0 with | none => none | some s => match hI st_ 0 1 with | none => none | some m => match hI st_ 0 2 with | none => none | some h_ => match hI st_ 0 3 with | none => none | some d => match hI st_ 0 4 with | none => none | some u => match hB st_ 0 5 with | none => none | some t => match hB st_ 0 6 with | none => none | some c => match hI st_ 0 7 with | none => none | some a0 => match hI st_ 0 8 with | none => none | some a1 => match hI st_ 0 9 with | none => none | some a2 => match hI st_ 0 10 with | none => none | some a3 => match hI st_ 0 11 with | none => none | some a4 => some ⟨i, s, m, h_, d, u, t, c, a0, a1, a2, a3, a4⟩
structure l4Inv (A : Option Addr) (K M X : Nat → Int) (len cap : Nat) (p : l4P) (x : l4X) : Prop where
  i0 : 0 ≤ x.i
  i1 : x.i ≤ len
  lm : len ≤ 60
  ok : Ck.Ok (⟨x.s, x.m, x.h_, x.d, x.c⟩ : Ck.Hd)
  u : 0 ≤ x.u ∧ x.u < 1048576
structure l4Post (A : Option Addr) (K M X : Nat → Int) (len cap : Nat) (p : l4P) (x : l4X) : Prop where
  ok : Ck.Ok (⟨x.s, x.m, x.h_, x.d, x.c⟩ : Ck.Hd)
  u : 0 ≤ x.u ∧ x.u < 1048576
def l4Lp (A : Option Addr) (K M X : Nat → Int) (len cap : Nat) : Lp := ⟨4, 0, fun s => match l4NxP s with
  | some p => match l4NxX s with
    | some x => some (loopT 0 2 (l4St A K M X len cap p) (l4Fin A K M X len cap p) (l4Inv A K M X len cap p) (l4Post A K M X len cap p) s x)
    | none => none
  | none => none⟩
theorem l4step_tree (w : World) (A : Option Addr) (K M X : Nat → Int) (len cap : Nat) (i : Int) (s : Int) (m : Int) (h_ : Int) (d : Int) (u : Int) (t : Bool) (c : Bool) (a0 : Int) (a1 : Int) (a2 : Int) (a3 : Int) (a4 : Int) :
    roundT Try.prog w (flatT Try.prog) (ctrOf table) (callT Try.prog w (flatT Try.prog) (ctrOf table) (noLoop) 20) ((noLoop) 4) (roundOf (bodyAt Try.prog 4 0)) 0 (l4St A K M X len cap ⟨⟩) (l4Fin A K M X len cap ⟨⟩) l4NxX l4NxX ⟨i, s, m, h_, d, u, t, c, a0, a1, a2, a3, a4⟩ =
(.br (decide (i < (↑len : Int)))
 (.chk (sym.XOk w A (opCell K M X) (3 : Nat) len ∧
  (0 : Int) ≤ i ∧ i < (↑len : Int) ∧ (0 : Nat) < (3 : Nat))
 (.chk (sym.XOk w A (opCell K M X) (3 : Nat) len ∧
  (0 : Nat) < (3 : Nat) ∧ i.toNat < len ∧ (3 : Nat) ≤ (3 : Nat))
 (.chk (Ck.Ok { s := s, m := m, h := h_, d := d, cy := c } ∧
  ((0 : Int) ≤ u ∧ u ≤ (1048576 : Int)) ∧ Ck.B (X i.toNat))
 (.chk (sym.XOk w A (opCell K M X) (3 : Nat) len ∧
  (0 : Int) ≤ i ∧ i < (↑len : Int) ∧ (0 : Nat) < (3 : Nat))
 (.chk (sym.XOk w A (opCell K M X) (3 : Nat) len ∧
  (0 : Nat) < (3 : Nat) ∧ i.toNat < len ∧ (3 : Nat) ≤ (3 : Nat))
 (.chk (Ck.Ok { s := s, m := m, h := h_, d := d, cy := c } ∧
  ((0 : Int) ≤ u ∧ u ≤ (1048576 : Int)) ∧ Ck.B (X i.toNat))
 (.br (!((Ck.doH (K i.toNat) (M i.toNat) (X i.toNat) t u
          { s := s, m := m, h := h_, d := d, cy := c }).s ==
      (Ck.doH (K i.toNat) (M i.toNat) (X i.toNat) t u
          { s := s, m := m, h := h_, d := d, cy := c }).s &&
    ((Ck.doH (K i.toNat) (M i.toNat) (X i.toNat) t u
            { s := s, m := m, h := h_, d := d, cy := c }).m ==
        (Ck.doH (K i.toNat) (M i.toNat) (X i.toNat) t u
            { s := s, m := m, h := h_, d := d, cy := c }).m &&
      ((Ck.doH (K i.toNat) (M i.toNat) (X i.toNat) t u
              { s := s, m := m, h := h_, d := d, cy := c }).h ==
          (Ck.doH (K i.toNat) (M i.toNat) (X i.toNat) t u
              { s := s, m := m, h := h_, d := d, cy := c }).h &&
        ((Ck.doH (K i.toNat) (M i.toNat) (X i.toNat) t u
                { s := s, m := m, h := h_, d := d, cy := c }).d ==
            (Ck.doH (K i.toNat) (M i.toNat) (X i.toNat) t u
                { s := s, m := m, h := h_, d := d, cy := c }).d &&
          (Ck.doU (K i.toNat) (M i.toNat) t u ==
              Ck.doU (K i.toNat) (M i.toNat) t u &&
            (Ck.doT (K i.toNat) (M i.toNat) (X i.toNat) t ==
                Ck.doT (K i.toNat) (M i.toNat) (X i.toNat) t &&
              ((Ck.doH (K i.toNat) (M i.toNat) (X i.toNat) t u
                      { s := s, m := m, h := h_, d := d, cy := c }).cy ==
                  (Ck.doH (K i.toNat) (M i.toNat) (X i.toNat) t u
                      { s := s, m := m, h := h_, d := d, cy := c }).cy &&
                (Ck.doA (K i.toNat) s a0 ==
                    Ck.doA (K i.toNat) s a0 &&
                  (Ck.doA (K i.toNat) m a1 ==
                      Ck.doA (K i.toNat) m a1 &&
                    (Ck.doA (K i.toNat) h_ a2 ==
                        Ck.doA (K i.toNat) h_ a2 &&
                      (Ck.doA (K i.toNat) (d % (256 : Int)) a3 ==
                          Ck.doA (K i.toNat) (d % (256 : Int)) a3 &&
                        (Ck.doA (K i.toNat) (Ck.top d t c) a4 ==
                            Ck.doA (K i.toNat) (Ck.top d t c)
                              a4 &&
                          true)))))))))))))
  (.fail "ret")
  (.chk (sym.XOk w A (opCell K M X) (3 : Nat) len ∧
  (0 : Int) ≤ i ∧ i < (↑len : Int) ∧ (0 : Nat) < (3 : Nat))
  (.chk (sym.XOk w A (opCell K M X) (3 : Nat) len ∧
  (0 : Nat) < len ∧ (0 : Nat) < (3 : Nat))
  (.chk (sym.XOk w A (opCell K M X) (3 : Nat) len ∧
  i.toNat < len ∧ (2 : Nat) ≤ (3 : Nat))
  (.chk (True)
  (.chk (sym.XOk w A (opCell K M X) (3 : Nat) len ∧
  (0 : Int) ≤ i ∧ i < (↑len : Int) ∧ (0 : Nat) < (3 : Nat))
  (.chk (sym.XOk w A (opCell K M X) (3 : Nat) len ∧
  (0 : Nat) < len ∧ (0 : Nat) < (3 : Nat))
  (.chk (sym.XOk w A (opCell K M X) (3 : Nat) len ∧
  i.toNat < len ∧ (2 : Nat) ≤ (3 : Nat))
  (.chk (True)
  (.br (Ck.rd (M i.toNat) (Ck.doA (K i.toNat) s a0)
    (Ck.doA (K i.toNat) m a1) (Ck.doA (K i.toNat) h_ a2)
    (Ck.doA (K i.toNat) (d % (256 : Int)) a3)
    (Ck.doA (K i.toNat) (Ck.top d t c) a4) !=
  Ck.rd (M i.toNat) (Ck.doA (K i.toNat) s a0)
    (Ck.doA (K i.toNat) m a1) (Ck.doA (K i.toNat) h_ a2)
    (Ck.doA (K i.toNat) (d % (256 : Int)) a3)
    (Ck.doA (K i.toNat) (Ck.top d t c) a4))
   (.fail "ret")
   (.chk (A = A ∧
  opCell K M X = opCell K M X ∧
    (3 : Nat) = (3 : Nat) ∧ len = len ∧ cap = cap)
   (.chk (IntKind.i64 = IntKind.i64 ∧ (↑len : Int) = (↑len : Int))
   (.chk (IntKind.i64 = IntKind.i64 ∧ IntKind.i64.wrap (i + (1 : Int)) = IntKind.i64.wrap (i + (1 : Int)))
   (.chk (IntKind.u8 = IntKind.u8 ∧
  (Ck.doH (K i.toNat) (M i.toNat) (X i.toNat) t u
        { s := s, m := m, h := h_, d := d, cy := c }).s =
    (Ck.doH (K i.toNat) (M i.toNat) (X i.toNat) t u
        { s := s, m := m, h := h_, d := d, cy := c }).s)
   (.chk (IntKind.u8 = IntKind.u8 ∧
  (Ck.doH (K i.toNat) (M i.toNat) (X i.toNat) t u
        { s := s, m := m, h := h_, d := d, cy := c }).m =
    (Ck.doH (K i.toNat) (M i.toNat) (X i.toNat) t u
        { s := s, m := m, h := h_, d := d, cy := c }).m)
   (.chk (IntKind.u8 = IntKind.u8 ∧
  (Ck.doH (K i.toNat) (M i.toNat) (X i.toNat) t u
        { s := s, m := m, h := h_, d := d, cy := c }).h =
    (Ck.doH (K i.toNat) (M i.toNat) (X i.toNat) t u
        { s := s, m := m, h := h_, d := d, cy := c }).h)
   (.chk (IntKind.i64 = IntKind.i64 ∧
  (Ck.doH (K i.toNat) (M i.toNat) (X i.toNat) t u
        { s := s, m := m, h := h_, d := d, cy := c }).d =
    (Ck.doH (K i.toNat) (M i.toNat) (X i.toNat) t u
        { s := s, m := m, h := h_, d := d, cy := c }).d)
   (.chk (IntKind.i64 = IntKind.i64 ∧
  Ck.doU (K i.toNat) (M i.toNat) t u =
    Ck.doU (K i.toNat) (M i.toNat) t u)
   (.chk (Ck.doT (K i.toNat) (M i.toNat) (X i.toNat) t =
  Ck.doT (K i.toNat) (M i.toNat) (X i.toNat) t)
   (.chk ((Ck.doH (K i.toNat) (M i.toNat) (X i.toNat) t u
      { s := s, m := m, h := h_, d := d, cy := c }).cy =
  (Ck.doH (K i.toNat) (M i.toNat) (X i.toNat) t u
      { s := s, m := m, h := h_, d := d, cy := c }).cy)
   (.chk (IntKind.u8 = IntKind.u8 ∧
  Ck.doA (K i.toNat) s a0 = Ck.doA (K i.toNat) s a0)
   (.chk (IntKind.u8 = IntKind.u8 ∧
  Ck.doA (K i.toNat) m a1 = Ck.doA (K i.toNat) m a1)
   (.chk (IntKind.u8 = IntKind.u8 ∧
  Ck.doA (K i.toNat) h_ a2 = Ck.doA (K i.toNat) h_ a2)
   (.chk (IntKind.u8 = IntKind.u8 ∧
  Ck.doA (K i.toNat) (d % (256 : Int)) a3 =
    Ck.doA (K i.toNat) (d % (256 : Int)) a3)
   (.chk (IntKind.u8 = IntKind.u8 ∧
  Ck.doA (K i.toNat) (Ck.top d t c) a4 =
    Ck.doA (K i.toNat) (Ck.top d t c) a4)
   (.chk (IntKind.u8 = IntKind.u8 ∧
  (Ck.doH (K i.toNat) (M i.toNat) (X i.toNat) t u
        { s := s, m := m, h := h_, d := d, cy := c }).s =
    (Ck.doH (K i.toNat) (M i.toNat) (X i.toNat) t u
        { s := s, m := m, h := h_, d := d, cy := c }).s)
   (.chk (IntKind.u8 = IntKind.u8 ∧
  (Ck.doH (K i.toNat) (M i.toNat) (X i.toNat) t u
        { s := s, m := m, h := h_, d := d, cy := c }).m =
    (Ck.doH (K i.toNat) (M i.toNat) (X i.toNat) t u
        { s := s, m := m, h := h_, d := d, cy := c }).m)
   (.chk (IntKind.u8 = IntKind.u8 ∧
  (Ck.doH (K i.toNat) (M i.toNat) (X i.toNat) t u
        { s := s, m := m, h := h_, d := d, cy := c }).h =
    (Ck.doH (K i.toNat) (M i.toNat) (X i.toNat) t u
        { s := s, m := m, h := h_, d := d, cy := c }).h)
   (.chk (IntKind.i64 = IntKind.i64 ∧
  (Ck.doH (K i.toNat) (M i.toNat) (X i.toNat) t u
        { s := s, m := m, h := h_, d := d, cy := c }).d =
    (Ck.doH (K i.toNat) (M i.toNat) (X i.toNat) t u
        { s := s, m := m, h := h_, d := d, cy := c }).d)
   (.chk (IntKind.i64 = IntKind.i64 ∧
  Ck.doU (K i.toNat) (M i.toNat) t u =
    Ck.doU (K i.toNat) (M i.toNat) t u)
   (.chk (Ck.doT (K i.toNat) (M i.toNat) (X i.toNat) t =
  Ck.doT (K i.toNat) (M i.toNat) (X i.toNat) t)
   (.chk ((Ck.doH (K i.toNat) (M i.toNat) (X i.toNat) t u
      { s := s, m := m, h := h_, d := d, cy := c }).cy =
  (Ck.doH (K i.toNat) (M i.toNat) (X i.toNat) t u
      { s := s, m := m, h := h_, d := d, cy := c }).cy)
   (.chk (IntKind.u8 = IntKind.u8 ∧
  Ck.doA (K i.toNat) s a0 = Ck.doA (K i.toNat) s a0)
   (.chk (IntKind.u8 = IntKind.u8 ∧
  Ck.doA (K i.toNat) m a1 = Ck.doA (K i.toNat) m a1)
   (.chk (IntKind.u8 = IntKind.u8 ∧
  Ck.doA (K i.toNat) h_ a2 = Ck.doA (K i.toNat) h_ a2)
   (.chk (IntKind.u8 = IntKind.u8 ∧
  Ck.doA (K i.toNat) (d % (256 : Int)) a3 =
    Ck.doA (K i.toNat) (d % (256 : Int)) a3)
   (.chk (IntKind.u8 = IntKind.u8 ∧
  Ck.doA (K i.toNat) (Ck.top d t c) a4 =
    Ck.doA (K i.toNat) (Ck.top d t c) a4)
   (.leaf (.inl ⟨IntKind.i64.wrap (i + (1 : Int)), (Ck.doH (K i.toNat) (M i.toNat) (X i.toNat) t u
    { s := s, m := m, h := h_, d := d, cy := c }).s, (Ck.doH (K i.toNat) (M i.toNat) (X i.toNat) t u
    { s := s, m := m, h := h_, d := d, cy := c }).m, (Ck.doH (K i.toNat) (M i.toNat) (X i.toNat) t u
    { s := s, m := m, h := h_, d := d, cy := c }).h, (Ck.doH (K i.toNat) (M i.toNat) (X i.toNat) t u
    { s := s, m := m, h := h_, d := d, cy := c }).d, Ck.doU (K i.toNat) (M i.toNat) t u, Ck.doT (K i.toNat) (M i.toNat) (X i.toNat) t, (Ck.doH (K i.toNat) (M i.toNat) (X i.toNat) t u
    { s := s, m := m, h := h_, d := d, cy := c }).cy, Ck.doA (K i.toNat) s a0, Ck.doA (K i.toNat) m a1, Ck.doA (K i.toNat) h_ a2, Ck.doA (K i.toNat) (d % (256 : Int)) a3, Ck.doA (K i.toNat) (Ck.top d t c) a4⟩)))))))))))))))))))))))))))))))))))))))))))))
 (.chk (A = A ∧
  opCell K M X = opCell K M X ∧
    (3 : Nat) = (3 : Nat) ∧ len = len ∧ cap = cap)
 (.chk (IntKind.i64 = IntKind.i64 ∧ (↑len : Int) = (↑len : Int))
 (.chk (IntKind.i64 = IntKind.i64 ∧ i = i)
 (.chk (IntKind.u8 = IntKind.u8 ∧ s = s)
 (.chk (IntKind.u8 = IntKind.u8 ∧ m = m)
 (.chk (IntKind.u8 = IntKind.u8 ∧ h_ = h_)
 (.chk (IntKind.i64 = IntKind.i64 ∧ d = d)
 (.chk (IntKind.i64 = IntKind.i64 ∧ u = u)
 (.chk (t = t)
 (.chk (c = c)
 (.chk (IntKind.u8 = IntKind.u8 ∧ a0 = a0)
 (.chk (IntKind.u8 = IntKind.u8 ∧ a1 = a1)
 (.chk (IntKind.u8 = IntKind.u8 ∧ a2 = a2)
 (.chk (IntKind.u8 = IntKind.u8 ∧ a3 = a3)
 (.chk (IntKind.u8 = IntKind.u8 ∧ a4 = a4)
 (.chk (IntKind.u8 = IntKind.u8 ∧ s = s)
 (.chk (IntKind.u8 = IntKind.u8 ∧ m = m)
 (.chk (IntKind.u8 = IntKind.u8 ∧ h_ = h_)
 (.chk (IntKind.i64 = IntKind.i64 ∧ d = d)
 (.chk (IntKind.i64 = IntKind.i64 ∧ u = u)
 (.chk (t = t)
 (.chk (c = c)
 (.chk (IntKind.u8 = IntKind.u8 ∧ a0 = a0)
 (.chk (IntKind.u8 = IntKind.u8 ∧ a1 = a1)
 (.chk (IntKind.u8 = IntKind.u8 ∧ a2 = a2)
 (.chk (IntKind.u8 = IntKind.u8 ∧ a3 = a3)
 (.chk (IntKind.u8 = IntKind.u8 ∧ a4 = a4)
 (.leaf (.inr ⟨i, s, m, h_, d, u, t, c, a0, a1, a2, a3, a4⟩)))))))))))))))))))))))))))))) := by kernel_rfl
theorem plays_tree (w : World) (A : Option Addr) (K M X : Nat → Int) (len cap : Nat) :
    callV Try.prog w (flatT Try.prog) (ctrOf table) (lpOf Try.prog [l4Lp A K M X len cap]) 20 4 [.v (.one (.xs A (opCell K M X) 3 len cap))] =
(.chk (True)
(.br (decide ((↑len : Int) > (60 : Int)))
 (.chk (True)
 (.leaf (.v (.one (.bool true true)))))
 (.chk (sym.bodyAt Go.Proofs.Try.prog (4 : Go.FuncId) (0 : Nat) = sym.bodyAt Go.Proofs.Try.prog (4 : Go.FuncId) (0 : Nat))
 (.chk (A = A ∧
  opCell K M X = opCell K M X ∧
    (3 : Nat) = (3 : Nat) ∧ len = len ∧ cap = cap)
 (.chk (IntKind.i64 = IntKind.i64 ∧ (↑len : Int) = (↑len : Int))
 (.chk (IntKind.i64 = IntKind.i64 ∧ (0 : Int) = (0 : Int))
 (.chk (IntKind.u8 = IntKind.u8 ∧ (0 : Int) = (0 : Int))
 (.chk (IntKind.u8 = IntKind.u8 ∧ (0 : Int) = (0 : Int))
 (.chk (IntKind.u8 = IntKind.u8 ∧ (0 : Int) = (0 : Int))
 (.chk (IntKind.i64 = IntKind.i64 ∧ (0 : Int) = (0 : Int))
 (.chk (IntKind.i64 = IntKind.i64 ∧ (0 : Int) = (0 : Int))
 (.chk (false = false)
 (.chk (false = false)
 (.chk (IntKind.u8 = IntKind.u8 ∧ (0 : Int) = (0 : Int))
 (.chk (IntKind.u8 = IntKind.u8 ∧ (0 : Int) = (0 : Int))
 (.chk (IntKind.u8 = IntKind.u8 ∧ (0 : Int) = (0 : Int))
 (.chk (IntKind.u8 = IntKind.u8 ∧ (0 : Int) = (0 : Int))
 (.chk (IntKind.u8 = IntKind.u8 ∧ (0 : Int) = (0 : Int))
 (.chk (IntKind.u8 = IntKind.u8 ∧ (0 : Int) = (0 : Int))
 (.chk (IntKind.u8 = IntKind.u8 ∧ (0 : Int) = (0 : Int))
 (.chk (IntKind.u8 = IntKind.u8 ∧ (0 : Int) = (0 : Int))
 (.chk (IntKind.i64 = IntKind.i64 ∧ (0 : Int) = (0 : Int))
 (.chk (IntKind.i64 = IntKind.i64 ∧ (0 : Int) = (0 : Int))
 (.chk (false = false)
 (.chk (false = false)
 (.chk (IntKind.u8 = IntKind.u8 ∧ (0 : Int) = (0 : Int))
 (.chk (IntKind.u8 = IntKind.u8 ∧ (0 : Int) = (0 : Int))
 (.chk (IntKind.u8 = IntKind.u8 ∧ (0 : Int) = (0 : Int))
 (.chk (IntKind.u8 = IntKind.u8 ∧ (0 : Int) = (0 : Int))
 (.chk (IntKind.u8 = IntKind.u8 ∧ (0 : Int) = (0 : Int))
 (.chk (l4Inv A K M X len cap { }
  { i := (0 : Int), s := (0 : Int), m := (0 : Int), h_ := (0 : Int), d := (0 : Int), u := (0 : Int), t := false,
    c := false, a0 := (0 : Int), a1 := (0 : Int), a2 := (0 : Int), a3 := (0 : Int), a4 := (0 : Int) })
 (.all fun x : sym.Got l4X
  (l4Post A K M X len cap { }) =>
  (.leaf (.v (.one (.bool true true)))))))))))))))))))))))))))))))))))) := by kernel_rfl
def l4Mu (A : Option Addr) (K M X : Nat → Int) (len cap : Nat) (p : l4P) (x : l4X) : Nat := ((len : Int) - x.i).toNat
theorem l4_step (w : World) (A : Option Addr) (K M X : Nat → Int) (len cap : Nat) (p : l4P) (x : l4X) (hX : XOk w A (opCell K M X) 3 len) (hB : ∀ i, i < len → Ck.B (X i)) (h : l4Inv A K M X len cap p x) : Hid (roundT Try.prog w (flatT Try.prog) (ctrOf table) (callT Try.prog w (flatT Try.prog) (ctrOf table) (noLoop) 20) ((noLoop) 4) (roundOf (bodyAt Try.prog 4 0)) 0 (l4St A K M X len cap p) (l4Fin A K M X len cap p) l4NxX l4NxX x) (Kept (l4Inv A K M X len cap p) (l4Post A K M X len cap p) (l4Mu A K M X len cap p) x) := by
  obtain ⟨⟩ := p
  obtain ⟨i, s, m, h_, d, u, t, c, a0, a1, a2, a3, a4⟩ := x
  constructor
  rw [l4step_tree]
  simp only [T.holds, Kept, l4Mu, and_self, true_and, and_true]
  try simp only [beq_self_eq_true, bne_self_eq_false, Bool.and_true, Bool.true_and, Bool.and_self, Bool.not_true, Bool.not_false, Bool.false_eq_true, Bool.true_eq_false, false_implies, forall_const, and_self, true_and, and_true, if_true, if_false, reduceIte]
  obtain ⟨h1, h2, hl, hk, hu⟩ := h
  simp only at h1 h2 hl hk hu
  have next : i < (len : Int) → IntKind.i64.wrap (i + 1) = i + 1 := fun hi => Ck.wi64 _ (by omega) (by omega)
  refine ⟨fun h => ?_, fun h => ⟨hk, hu⟩⟩
  have hi : i < (len : Int) := by simpa using h
  have hx : XOk w A (opCell K M X) 3 len ∧ 0 ≤ i ∧ i < (len : Int) ∧ 0 < 3 := ⟨hX, h1, hi, by decide⟩
  have hx2 : XOk w A (opCell K M X) 3 len ∧ 0 < 3 ∧ i.toNat < len ∧ 3 ≤ 3 := ⟨hX, by decide, by omega, by decide⟩
  have bX := hB i.toNat (by omega)
  have hu' : 0 ≤ u ∧ u ≤ 1048576 := ⟨hu.1, by omega⟩
  have ask : Ck.Ok ⟨s, m, h_, d, c⟩ ∧ (0 ≤ u ∧ u ≤ 1048576) ∧ Ck.B (X i.toNat) := ⟨hk, hu', bX⟩
  have hx3 : XOk w A (opCell K M X) 3 len ∧ 0 < len ∧ 0 < 3 := ⟨hX, by omega, by decide⟩
  have hx4 : XOk w A (opCell K M X) 3 len ∧ i.toNat < len ∧ 2 ≤ 3 := ⟨hX, by omega, by decide⟩
  rw [next hi]
  exact ⟨hx, hx2, ask, hx, hx2, ask, hx, hx3, hx4, hx, hx3, hx4, ⟨by show 0 ≤ i + 1; omega, by show i + 1 ≤ (len : Int); omega, hl, Ck.doH_ok bX hk, Ck.doU_lt hu⟩, by show ((len : Int) - (i + 1)).toNat < ((len : Int) - i).toNat; omega⟩
theorem l4Lp_ok (w : World) (A : Option Addr) (K M X : Nat → Int) (len cap : Nat) (hX : XOk w A (opCell K M X) 3 len) (hB : ∀ i, i < len → Ck.B (X i)) : (l4Lp A K M X len cap).ok Try.prog w := by
  intro s t h
  unfold l4Lp at h
  simp only at h
  split at h
  · rename_i p _
    split at h
    · rename_i x _
      cases h
      exact loop_ok base2 (table_ok w) (callT_ok base2.mixed base2.names base2.eqs (table_ok w).ok (table_ok w).there (loops_none _ _) 20) ((loops_none _ _) 4) (c := roundOf (bodyAt Try.prog 4 0)) (by kernel_rfl) (id := 0) (n := 2) (st := l4St A K M X len cap p) (fin := l4Fin A K M X len cap p) (inv := l4Inv A K M X len cap p) (post := l4Post A K M X len cap p) (nx := l4NxX) (fx := l4NxX) (l4Mu A K M X len cap p) (fun x => by kernel_rfl) (fun y => by kernel_rfl) (fun x hx => l4_step w A K M X len cap p x hX hB hx) s x
    · cases h
  · cases h
theorem plays_walk (w : World) (A : Option Addr) (K M X : Nat → Int) (len cap : Nat) (hX : XOk w A (opCell K M X) 3 len) (hB : ∀ i, i < len → Ck.B (X i)) : Calls Try.prog 4 #[.slice A len cap] w fun e w' => e = .returned (.bool true) ∧ Below w.heap.size w w' := by
  have hl : LcsOk Try.prog w (lpOf Try.prog [l4Lp A K M X len cap]) := lps_ok fun l hl => by
    simp only [List.mem_cons, List.not_mem_nil, or_false] at hl
    subst hl
    exact l4Lp_ok w A K M X len cap hX hB
  refine val_eq base2 (table_ok w) hl (plays_tree w A K M X len cap) rfl ?_
  simp only [T.holds, and_self, true_and, and_true]
  refine ⟨fun _ => ⟨rfl, rfl⟩, fun h => ⟨⟨by show (0:Int) ≤ 0; omega, by show (0:Int) ≤ (len : Int); omega, by simp at h; omega, ⟨⟨by decide, by decide⟩, ⟨by decide, by decide⟩, ⟨by decide, by decide⟩, ⟨by decide, by decide⟩⟩, ⟨by decide, by decide⟩⟩, fun _ => ⟨rfl, rfl⟩⟩⟩
end Go.Proofs.Ytpmgaoigelplgaa
