/-
  Walks of two statements of the timer, by computing, with their rounds: how often it counts, and when it goes over. Bytes are below 256, the counter below 65536; no other condition.
-/
import Derived.Test.YtobenphpjphdlaaA5
namespace Go.Proofs.Ytobenphpjphdlaa
open Go.RowKit sym
set_option linter.unusedVariables false
set_option linter.unusedSimpArgs false
set_option maxRecDepth 100000
namespace Tm
/-- Each so many cycles. -/
def ev (k : Int) : Int := if k = 0 then 256 else if k = 1 then 4 else if k = 2 then 16 else 64
/-- How often it counted, i cycles behind fr. -/
def cnt (m fr i : Int) : Int := if m / 4 % 2 = 1 then (fr + i) / ev (m % 4) - fr / ev (m % 4) else 0
end Tm

/-- Does it count in this cycle? -/
def Tm.go (c m : Int) : Prop := m / 4 % 2 = 1 ∧ (c / 4 + 1) % Tm.ev (m % 4) = 0
instance (c m : Int) : Decidable (Tm.go c m) := by unfold Tm.go; infer_instance
theorem Tm.fell_eq {c m : Int} (bc : Tm.W c) (hc : c % 4 = 0) (bm : Tm.B m) : (Tm.sg c m && !Tm.sg (Tm.tkC c) m) = decide (Tm.go c m) := by
  obtain ⟨c1, c2⟩ := bc
  obtain ⟨m1, m2⟩ := bm
  unfold Tm.sg Tm.tkC Tm.go Tm.ev Tm.bitV
  rcases (show m % 4 = 0 ∨ m % 4 = 1 ∨ m % 4 = 2 ∨ m % 4 = 3 by omega) with hk | hk | hk | hk <;> by_cases h4 : m / 4 % 2 = 1
  all_goals simp [hk, h4]
  all_goals (rw [Bool.eq_iff_iff]; simp; omega)
theorem Tm.tkT_eq {c tima tma m : Int} (bc : Tm.W c) (hc : c % 4 = 0) (bm : Tm.B m) (bt : Tm.B tima) : Tm.tkT c tima tma m false = if Tm.go c m then (tima + 1) % 256 else tima := by
  simp only [Tm.tkT, Tm.aT, Tm.fT, Tm.fell_eq bc hc bm]
  by_cases h : Tm.go c m <;> simp [h]
theorem Tm.tkO_eq {c tima tma m : Int} (bc : Tm.W c) (hc : c % 4 = 0) (bm : Tm.B m) (bt : Tm.B tima) : Tm.tkO c tima tma m false = (decide (Tm.go c m) && decide ((tima + 1) % 256 = 0)) := by
  simp only [Tm.tkO, Tm.aT, Tm.fO, Tm.fell_eq bc hc bm]
  simp
theorem Tm.ev_cases (m : Int) : Tm.ev (m % 4) = 256 ∨ Tm.ev (m % 4) = 4 ∨ Tm.ev (m % 4) = 16 ∨ Tm.ev (m % 4) = 64 := by
  unfold Tm.ev
  rcases (show m % 4 = 0 ∨ m % 4 = 1 ∨ m % 4 = 2 ∨ m % 4 = 3 by omega) with hk | hk | hk | hk <;> simp [hk]
theorem Tm.cnt_succ {m fr i c : Int} (h0 : 0 ≤ fr) (h1 : fr < 16384) (hi : 0 ≤ i) (hc : c = (4 * fr + 4 * i) % 65536) : Tm.cnt m fr (i + 1) = Tm.cnt m fr i + if Tm.go c m then 1 else 0 := by
  by_cases hg : Tm.go c m
  · rw [if_pos hg]
    obtain ⟨g1, g2⟩ := hg
    unfold Tm.cnt
    rw [if_pos g1, if_pos g1]
    rcases Tm.ev_cases m with e | e | e | e <;> rw [e] at g2 ⊢ <;> omega
  · rw [if_neg hg]
    unfold Tm.cnt
    by_cases g1 : m / 4 % 2 = 1
    · rw [if_pos g1, if_pos g1]
      have g2 : ¬ (c / 4 + 1) % Tm.ev (m % 4) = 0 := fun g => hg ⟨g1, g⟩
      rcases Tm.ev_cases m with e | e | e | e <;> rw [e] at g2 ⊢ <;> omega
    · rw [if_neg g1, if_neg g1]; rfl
theorem Tm.cnt_B {m fr i : Int} (h0 : 0 ≤ fr) (hi : 0 ≤ i) : 0 ≤ Tm.cnt m fr i ∧ Tm.cnt m fr i ≤ i := by
  unfold Tm.cnt
  split
  · rcases Tm.ev_cases m with e | e | e | e <;> rw [e] <;> constructor <;> omega
  · omega
theorem Tm.cnt_0 {m fr : Int} : Tm.cnt m fr 0 = 0 := by
  unfold Tm.cnt
  split
  · rw [Int.add_zero]; omega
  · rfl
structure d3P where
  tac : Int
  n : Int
  fr : Int
  want : Int
structure d3X where
  i : Int
  got : Int
  last : Int
  c : Int
  tima : Int
  tma : Int
  m : Int
  ov : Bool
def d3St : d3P → d3X → ASt := fun ⟨tac, n, fr, want⟩ ⟨i, got, last, c, tima, tma, m, ov⟩ => ⟨slots (List.replicate 83 .any) [(1, .v (.one (.int false .u8 tac))), (7, .v (.one (.ptr 0 0))), (8, .v (.one (.int false .i64 n))), (10, .v (.one (.int false .i64 fr))), (11, .v (.one (.int false .i64 want))), (12, .v (.one (.int false .i64 got))), (13, .v (.one (.int false .u8 last))), (44, .v (.one (.int false .i64 n))), (45, .v (.one (.int false .i64 i)))], [⟨[.int false .u16 c, .int false .u8 tima, .int false .u8 tma, .int false .u8 m, .bool false ov], 25⟩, ⟨[.int true .i64 256, .int true .i64 4, .int true .i64 16, .int true .i64 64], 3⟩]⟩
def d3Fin : d3P → d3X → ASt := fun ⟨tac, n, fr, want⟩ ⟨i, got, last, c, tima, tma, m, ov⟩ => ⟨slots (List.replicate 83 .any) [(1, .v (.one (.int false .u8 tac))), (7, .v (.one (.ptr 0 0))), (8, .v (.one (.int false .i64 n))), (10, .v (.one (.int false .i64 fr))), (11, .v (.one (.int false .i64 want))), (12, .v (.one (.int false .i64 got))), (13, .v (.one (.int false .u8 last))), (44, .v (.one (.int false .i64 n))), (45, .v (.one (.int false .i64 i)))], [⟨[.int false .u16 c, .int false .u8 tima, .int false .u8 tma, .int false .u8 m, .bool false ov], 25⟩, ⟨[.int true .i64 256, .int true .i64 4, .int true .i64 16, .int true .i64 64], 3⟩]⟩
def d3NxP : ASt → Option d3P := fun s => match gI s 1 with | none => none | some tac => match gI s 8 with | none => none | some n => match gI s 10 with | none => none | some fr => match gI s 11 with | none => none | some want => some ⟨tac, n, fr, want⟩
def d3NxX : ASt → Option d3X := fun s => match gI s 45 with | none => none | some i => match gI s 12 with | none => none | some got => match gI s 13 with | none => none | some last => match hI s 0 0 with | none => none | some c => match hI s 0 1 with | none => none | some tima => match hI s 0 2 with | none => none | some tma => match hI s 0 3 with | none => none | some m => match hB s 0 4 with | none => none | some ov => some ⟨i, got, last, c, tima, tma, m, ov⟩
structure d3Inv (p : d3P) (x : d3X) : Prop where
  i0 : 0 ≤ x.i
  i1 : x.i ≤ p.n
  n1 : p.n < 4000
  f0 : 0 ≤ p.fr
  f1 : p.fr < 16384
  tb : TB x.c x.tima x.tma x.m
  o : x.ov = false
  la : x.last = x.tima
  hc : x.c = (4 * p.fr + 4 * x.i) % 65536
  hm : x.m = p.tac % 8
  hg : x.got = Tm.cnt x.m p.fr x.i
structure d3Post (p : d3P) (x : d3X) : Prop where
  hg : x.got = Tm.cnt (p.tac % 8) p.fr p.n
def d3Lp : Lp := ⟨3, 0, fun s => match d3NxP s with
  | some p => match d3NxX s with
    | some x => some (loopT 0 2 (d3St p) (d3Fin p) (d3Inv p) (d3Post p) s x)
    | none => none
  | none => none⟩
structure d4P where
  wr : Bool
  xx : Int
structure d4X where
  n : Int
  irq : Bool
  c : Int
  tima : Int
  tma : Int
  m : Int
  ov : Bool
def d4St : d4P → d4X → ASt := fun ⟨wr, xx⟩ ⟨n, irq, c, tima, tma, m, ov⟩ => ⟨slots (List.replicate 87 .any) [(2, .v (.one (.bool false wr))), (3, .v (.one (.int false .u8 xx))), (9, .v (.one (.ptr 0 0))), (10, .v (.one (.int false .i64 n))), (11, .v (.one (.bool false irq)))], [⟨[.int false .u16 c, .int false .u8 tima, .int false .u8 tma, .int false .u8 m, .bool false ov], 25⟩]⟩
def d4Fin : d4P → d4X → ASt := fun ⟨wr, xx⟩ ⟨n, irq, c, tima, tma, m, ov⟩ => ⟨slots (List.replicate 87 .any) [(2, .v (.one (.bool false wr))), (3, .v (.one (.int false .u8 xx))), (9, .v (.one (.ptr 0 0))), (10, .v (.one (.int false .i64 n))), (11, .v (.one (.bool false irq)))], [⟨[.int false .u16 c, .int false .u8 tima, .int false .u8 tma, .int false .u8 m, .bool false ov], 25⟩]⟩
def d4NxP : ASt → Option d4P := fun s => match gB s 2 with | none => none | some wr => match gI s 3 with | none => none | some xx => some ⟨wr, xx⟩
def d4NxX : ASt → Option d4X := fun s => match gI s 10 with | none => none | some n => match gB s 11 with | none => none | some irq => match hI s 0 0 with | none => none | some c => match hI s 0 1 with | none => none | some tima => match hI s 0 2 with | none => none | some tma => match hI s 0 3 with | none => none | some m => match hB s 0 4 with | none => none | some ov => some ⟨n, irq, c, tima, tma, m, ov⟩
structure d4Inv (p : d4P) (x : d4X) : Prop where
  i0 : 0 ≤ x.n
  i1 : x.n ≤ Tm.ev (x.m % 4)
  r : x.irq = false
  tb : TB x.c x.tima x.tma x.m
  m4 : x.m / 4 % 2 = 1
  hc : x.c = 4 * x.n
  ho : (x.ov = false ∧ x.tima = 255 ∧ x.n < Tm.ev (x.m % 4)) ∨ (x.ov = true ∧ x.tima = 0 ∧ x.n = Tm.ev (x.m % 4))
structure d4Post (p : d4P) (x : d4X) : Prop where
  tb : TB x.c x.tima x.tma x.m
  m4 : x.m / 4 % 2 = 1
  hc : x.c = 4 * Tm.ev (x.m % 4)
  ho : x.ov = true
  ht : x.tima = 0
def d4Lp : Lp := ⟨4, 0, fun s => match d4NxP s with
  | some p => match d4NxX s with
    | some x => some (loopT 0 1 (d4St p) (d4Fin p) (d4Inv p) (d4Post p) s x)
    | none => none
  | none => none⟩
theorem d4step_tree (w : World) (wr : Bool) (xx : Int) (n : Int) (irq : Bool) (c : Int) (tima : Int) (tma : Int) (m : Int) (ov : Bool) :
    roundT Try.prog w (flatT Try.prog) (ctrOf table) (callT Try.prog w (flatT Try.prog) (ctrOf table) (noLoop) 20) ((noLoop) 4) (roundOf (bodyAt Try.prog 4 0)) 0 (d4St ⟨wr, xx⟩) (d4Fin ⟨wr, xx⟩) d4NxX d4NxX ⟨n, irq, c, tima, tma, m, ov⟩ =
(.br (!ov)
 (.br (decide (n < (400 : Int)))
  (.chk (TB c tima tma m)
  (.br (ov)
   (.fail "ret")
   (.chk (wr = wr)
   (.chk (IntKind.u8 = IntKind.u8 ∧ xx = xx)
   (.chk (IntKind.i64 = IntKind.i64 ∧ IntKind.i64.wrap (n + (1 : Int)) = IntKind.i64.wrap (n + (1 : Int)))
   (.chk (ov = ov)
   (.chk (IntKind.u16 = IntKind.u16 ∧ Tm.tkC c = Tm.tkC c)
   (.chk (IntKind.u8 = IntKind.u8 ∧
  Tm.tkT c tima tma m ov = Tm.tkT c tima tma m ov)
   (.chk (IntKind.u8 = IntKind.u8 ∧ tma = tma)
   (.chk (IntKind.u8 = IntKind.u8 ∧ m = m)
   (.chk (Tm.tkO c tima tma m ov = Tm.tkO c tima tma m ov)
   (.leaf (.inl ⟨IntKind.i64.wrap (n + (1 : Int)), ov, Tm.tkC c, Tm.tkT c tima tma m ov, tma, m, Tm.tkO c tima tma m ov⟩)))))))))))))
  (.chk (wr = wr)
  (.chk (IntKind.u8 = IntKind.u8 ∧ xx = xx)
  (.chk (IntKind.i64 = IntKind.i64 ∧ n = n)
  (.chk (irq = irq)
  (.chk (IntKind.u16 = IntKind.u16 ∧ c = c)
  (.chk (IntKind.u8 = IntKind.u8 ∧ tima = tima)
  (.chk (IntKind.u8 = IntKind.u8 ∧ tma = tma)
  (.chk (IntKind.u8 = IntKind.u8 ∧ m = m)
  (.chk (ov = ov)
  (.leaf (.inr ⟨n, irq, c, tima, tma, m, ov⟩))))))))))))
 (.chk (wr = wr)
 (.chk (IntKind.u8 = IntKind.u8 ∧ xx = xx)
 (.chk (IntKind.i64 = IntKind.i64 ∧ n = n)
 (.chk (irq = irq)
 (.chk (IntKind.u16 = IntKind.u16 ∧ c = c)
 (.chk (IntKind.u8 = IntKind.u8 ∧ tima = tima)
 (.chk (IntKind.u8 = IntKind.u8 ∧ tma = tma)
 (.chk (IntKind.u8 = IntKind.u8 ∧ m = m)
 (.chk (ov = ov)
 (.leaf (.inr ⟨n, irq, c, tima, tma, m, ov⟩)))))))))))) := by kernel_rfl
theorem over_tree (w : World) (tma tac x : Int) (wr : Bool) :
    callV Try.prog w (flatT Try.prog) (ctrOf table) (lpOf Try.prog [d4Lp]) 20 4 [.v (.one (.int false .u8 tma)), .v (.one (.int false .u8 tac)), .v (.one (.bool false wr)), .v (.one (.int false .u8 x))] =
(.chk (sym.bodyAt Go.Proofs.Try.prog (4 : Go.FuncId) (0 : Nat) = sym.bodyAt Go.Proofs.Try.prog (4 : Go.FuncId) (0 : Nat))
(.chk (wr = wr)
(.chk (IntKind.u8 = IntKind.u8 ∧ x = x)
(.chk (IntKind.i64 = IntKind.i64 ∧ (0 : Int) = (0 : Int))
(.chk (false = false)
(.chk (IntKind.u16 = IntKind.u16 ∧ (0 : Int) = (0 : Int))
(.chk (IntKind.u8 = IntKind.u8 ∧ (255 : Int) = (255 : Int))
(.chk (IntKind.u8 = IntKind.u8 ∧ tma = tma)
(.chk (IntKind.u8 = IntKind.u8 ∧
  bits BinOp.or IntKind.u8 (4 : Int) (bits BinOp.and IntKind.u8 tac (3 : Int)) =
    bits BinOp.or IntKind.u8 (4 : Int) (bits BinOp.and IntKind.u8 tac (3 : Int)))
(.chk (false = false)
(.chk (d4Inv { wr := wr, xx := x }
  { n := (0 : Int), irq := false, c := (0 : Int), tima := (255 : Int), tma := tma,
    m := bits BinOp.or IntKind.u8 (4 : Int) (bits BinOp.and IntKind.u8 tac (3 : Int)),
    ov := false })
(.all fun x_1 : sym.Got d4X
  (d4Post { wr := wr, xx := x }) =>
 (.br (!x_1.1.7)
  (.leaf (.v (.one (.bool true false))))
  (.br (x_1.1.4 != (0 : Int))
   (.leaf (.v (.one (.bool true false))))
   (.br (wr)
    (.chk (TB x_1.1.3 x_1.1.4 x_1.1.5 x_1.1.6 ∧ Tm.B x)
    (.chk (TB (Tm.wC (1 : Int) x_1.1.3)
  (Tm.wT (1 : Int) x x_1.1.3 x_1.1.4 x_1.1.6)
  (Tm.wM (1 : Int) x x_1.1.5) (Tm.wA (1 : Int) x x_1.1.6))
    (.br (!Tm.wO (1 : Int) x x_1.1.3 x_1.1.4 x_1.1.6 x_1.1.7)
     (.br (!Tm.tkO (Tm.wC (1 : Int) x_1.1.3)
    (Tm.wT (1 : Int) x x_1.1.3 x_1.1.4 x_1.1.6)
    (Tm.wM (1 : Int) x x_1.1.5) (Tm.wA (1 : Int) x x_1.1.6)
    (Tm.wO (1 : Int) x x_1.1.3 x_1.1.4 x_1.1.6 x_1.1.7))
      (.leaf (.v (.one (.bool false (Tm.tkT (Tm.wC (1 : Int) x_1.1.3)
    (Tm.wT (1 : Int) x x_1.1.3 x_1.1.4 x_1.1.6)
    (Tm.wM (1 : Int) x x_1.1.5) (Tm.wA (1 : Int) x x_1.1.6)
    (Tm.wO (1 : Int) x x_1.1.3 x_1.1.4 x_1.1.6 x_1.1.7) ==
  x)))))
      (.leaf (.v (.one (.bool true false)))))
     (.leaf (.v (.one (.bool true false)))))))
    (.chk (TB x_1.1.3 x_1.1.4 x_1.1.5 x_1.1.6 ∧ Tm.B x)
    (.chk (TB (Tm.wC (2 : Int) x_1.1.3)
  (Tm.wT (2 : Int) x x_1.1.3 x_1.1.4 x_1.1.6)
  (Tm.wM (2 : Int) x x_1.1.5) (Tm.wA (2 : Int) x x_1.1.6))
    (.br (Tm.wO (2 : Int) x x_1.1.3 x_1.1.4 x_1.1.6 x_1.1.7)
     (.br (Tm.tkT (Tm.wC (2 : Int) x_1.1.3)
    (Tm.wT (2 : Int) x x_1.1.3 x_1.1.4 x_1.1.6)
    (Tm.wM (2 : Int) x x_1.1.5) (Tm.wA (2 : Int) x x_1.1.6)
    (Tm.wO (2 : Int) x x_1.1.3 x_1.1.4 x_1.1.6 x_1.1.7) ==
  x)
      (.leaf (.v (.one (.bool false (!Tm.tkO (Tm.wC (2 : Int) x_1.1.3)
    (Tm.wT (2 : Int) x x_1.1.3 x_1.1.4 x_1.1.6)
    (Tm.wM (2 : Int) x x_1.1.5) (Tm.wA (2 : Int) x x_1.1.6)
    (Tm.wO (2 : Int) x x_1.1.3 x_1.1.4 x_1.1.6 x_1.1.7))))))
      (.leaf (.v (.one (.bool true false)))))
     (.leaf (.v (.one (.bool true false)))))))))))))))))))))) := by kernel_rfl
theorem d3step_tree (w : World) (tac : Int) (n : Int) (fr : Int) (want : Int) (i : Int) (got : Int) (last : Int) (c : Int) (tima : Int) (tma : Int) (m : Int) (ov : Bool) :
    roundT Try.prog w (flatT Try.prog) (ctrOf table) (callT Try.prog w (flatT Try.prog) (ctrOf table) (noLoop) 20) ((noLoop) 3) (roundOf (bodyAt Try.prog 3 0)) 0 (d3St ⟨tac, n, fr, want⟩) (d3Fin ⟨tac, n, fr, want⟩) d3NxX d3NxX ⟨i, got, last, c, tima, tma, m, ov⟩ =
(.br (decide (i < n))
 (.chk (TB c tima tma m)
 (.br (Tm.tkO c tima tma m ov)
  (.chk (TB (Tm.tkC c) (Tm.tkT c tima tma m ov)
    tma m ∧
  Tm.B (0 : Int))
  (.chk (IntKind.u8 = IntKind.u8 ∧ tac = tac)
  (.chk (IntKind.i64 = IntKind.i64 ∧ n = n)
  (.chk (IntKind.i64 = IntKind.i64 ∧ fr = fr)
  (.chk (IntKind.i64 = IntKind.i64 ∧ want = want)
  (.chk (IntKind.i64 = IntKind.i64 ∧
  IntKind.i64.wrap
      (got + IntKind.i64.wrap (IntKind.u8.wrap (Tm.tkT c tima tma m ov - last))) =
    IntKind.i64.wrap
      (got + IntKind.i64.wrap (IntKind.u8.wrap (Tm.tkT c tima tma m ov - last))))
  (.chk (IntKind.u8 = IntKind.u8 ∧ (0 : Int) = (0 : Int))
  (.chk (IntKind.i64 = IntKind.i64 ∧ n = n)
  (.chk (IntKind.i64 = IntKind.i64 ∧ IntKind.i64.wrap (i + (1 : Int)) = IntKind.i64.wrap (i + (1 : Int)))
  (.chk (IntKind.u16 = IntKind.u16 ∧
  Tm.wC (1 : Int) (Tm.tkC c) =
    Tm.wC (1 : Int) (Tm.tkC c))
  (.chk (IntKind.u8 = IntKind.u8 ∧
  Tm.wT (1 : Int) (0 : Int) (Tm.tkC c)
      (Tm.tkT c tima tma m ov) m =
    Tm.wT (1 : Int) (0 : Int) (Tm.tkC c)
      (Tm.tkT c tima tma m ov) m)
  (.chk (IntKind.u8 = IntKind.u8 ∧
  Tm.wM (1 : Int) (0 : Int) tma = Tm.wM (1 : Int) (0 : Int) tma)
  (.chk (IntKind.u8 = IntKind.u8 ∧
  Tm.wA (1 : Int) (0 : Int) m = Tm.wA (1 : Int) (0 : Int) m)
  (.chk (Tm.wO (1 : Int) (0 : Int) (Tm.tkC c)
    (Tm.tkT c tima tma m ov) m (Tm.tkO c tima tma m ov) =
  Tm.wO (1 : Int) (0 : Int) (Tm.tkC c)
    (Tm.tkT c tima tma m ov) m (Tm.tkO c tima tma m ov))
  (.chk (IntKind.i64 = IntKind.i64 ∧ (256 : Int) = (256 : Int))
  (.chk (IntKind.i64 = IntKind.i64 ∧ (4 : Int) = (4 : Int))
  (.chk (IntKind.i64 = IntKind.i64 ∧ (16 : Int) = (16 : Int))
  (.chk (IntKind.i64 = IntKind.i64 ∧ (64 : Int) = (64 : Int))
  (.leaf (.inl ⟨IntKind.i64.wrap (i + (1 : Int)), IntKind.i64.wrap
  (got + IntKind.i64.wrap (IntKind.u8.wrap (Tm.tkT c tima tma m ov - last))), (0 : Int), Tm.wC (1 : Int) (Tm.tkC c), Tm.wT (1 : Int) (0 : Int) (Tm.tkC c)
  (Tm.tkT c tima tma m ov) m, Tm.wM (1 : Int) (0 : Int) tma, Tm.wA (1 : Int) (0 : Int) m, Tm.wO (1 : Int) (0 : Int) (Tm.tkC c)
  (Tm.tkT c tima tma m ov) m (Tm.tkO c tima tma m ov)⟩))))))))))))))))))))
  (.chk (IntKind.u8 = IntKind.u8 ∧ tac = tac)
  (.chk (IntKind.i64 = IntKind.i64 ∧ n = n)
  (.chk (IntKind.i64 = IntKind.i64 ∧ fr = fr)
  (.chk (IntKind.i64 = IntKind.i64 ∧ want = want)
  (.chk (IntKind.i64 = IntKind.i64 ∧
  IntKind.i64.wrap
      (got + IntKind.i64.wrap (IntKind.u8.wrap (Tm.tkT c tima tma m ov - last))) =
    IntKind.i64.wrap
      (got + IntKind.i64.wrap (IntKind.u8.wrap (Tm.tkT c tima tma m ov - last))))
  (.chk (IntKind.u8 = IntKind.u8 ∧
  Tm.tkT c tima tma m ov = Tm.tkT c tima tma m ov)
  (.chk (IntKind.i64 = IntKind.i64 ∧ n = n)
  (.chk (IntKind.i64 = IntKind.i64 ∧ IntKind.i64.wrap (i + (1 : Int)) = IntKind.i64.wrap (i + (1 : Int)))
  (.chk (IntKind.u16 = IntKind.u16 ∧ Tm.tkC c = Tm.tkC c)
  (.chk (IntKind.u8 = IntKind.u8 ∧
  Tm.tkT c tima tma m ov = Tm.tkT c tima tma m ov)
  (.chk (IntKind.u8 = IntKind.u8 ∧ tma = tma)
  (.chk (IntKind.u8 = IntKind.u8 ∧ m = m)
  (.chk (Tm.tkO c tima tma m ov = Tm.tkO c tima tma m ov)
  (.chk (IntKind.i64 = IntKind.i64 ∧ (256 : Int) = (256 : Int))
  (.chk (IntKind.i64 = IntKind.i64 ∧ (4 : Int) = (4 : Int))
  (.chk (IntKind.i64 = IntKind.i64 ∧ (16 : Int) = (16 : Int))
  (.chk (IntKind.i64 = IntKind.i64 ∧ (64 : Int) = (64 : Int))
  (.leaf (.inl ⟨IntKind.i64.wrap (i + (1 : Int)), IntKind.i64.wrap
  (got + IntKind.i64.wrap (IntKind.u8.wrap (Tm.tkT c tima tma m ov - last))), Tm.tkT c tima tma m ov, Tm.tkC c, Tm.tkT c tima tma m ov, tma, m, Tm.tkO c tima tma m ov⟩)))))))))))))))))))))
 (.chk (IntKind.u8 = IntKind.u8 ∧ tac = tac)
 (.chk (IntKind.i64 = IntKind.i64 ∧ n = n)
 (.chk (IntKind.i64 = IntKind.i64 ∧ fr = fr)
 (.chk (IntKind.i64 = IntKind.i64 ∧ want = want)
 (.chk (IntKind.i64 = IntKind.i64 ∧ got = got)
 (.chk (IntKind.u8 = IntKind.u8 ∧ last = last)
 (.chk (IntKind.i64 = IntKind.i64 ∧ n = n)
 (.chk (IntKind.i64 = IntKind.i64 ∧ i = i)
 (.chk (IntKind.u16 = IntKind.u16 ∧ c = c)
 (.chk (IntKind.u8 = IntKind.u8 ∧ tima = tima)
 (.chk (IntKind.u8 = IntKind.u8 ∧ tma = tma)
 (.chk (IntKind.u8 = IntKind.u8 ∧ m = m)
 (.chk (ov = ov)
 (.chk (IntKind.i64 = IntKind.i64 ∧ (256 : Int) = (256 : Int))
 (.chk (IntKind.i64 = IntKind.i64 ∧ (4 : Int) = (4 : Int))
 (.chk (IntKind.i64 = IntKind.i64 ∧ (16 : Int) = (16 : Int))
 (.chk (IntKind.i64 = IntKind.i64 ∧ (64 : Int) = (64 : Int))
 (.leaf (.inr ⟨i, got, last, c, tima, tma, m, ov⟩)))))))))))))))))))) := by kernel_rfl
theorem counts_tree (w : World) (count tac cyc : Int) :
    callV Try.prog w (flatT Try.prog) (ctrOf table) (lpOf Try.prog [d3Lp]) 20 3 [.v (.one (.int false .u16 count)), .v (.one (.int false .u8 tac)), .v (.one (.int false .u16 cyc))] =
(.chk ((0 : Int) ≤ bits BinOp.and IntKind.u8 tac (3 : Int) ∧
  bits BinOp.and IntKind.u8 tac (3 : Int) < ↑(4 : Nat))
(.br (bits BinOp.and IntKind.u8 tac (3 : Int) == ↑(0 : Nat))
 (.chk (sym.bodyAt Go.Proofs.Try.prog (3 : Go.FuncId) (0 : Nat) = sym.bodyAt Go.Proofs.Try.prog (3 : Go.FuncId) (0 : Nat))
 (.chk (IntKind.u8 = IntKind.u8 ∧ tac = tac)
 (.chk (IntKind.i64 = IntKind.i64 ∧
  (IntKind.i64.wrap cyc).tmod (4000 : Int) = (IntKind.i64.wrap cyc).tmod (4000 : Int))
 (.chk (IntKind.i64 = IntKind.i64 ∧
  IntKind.i64.wrap ((IntKind.i64.wrap (bits BinOp.andNot IntKind.u16 count (3 : Int))).tdiv (4 : Int)) =
    IntKind.i64.wrap ((IntKind.i64.wrap (bits BinOp.andNot IntKind.u16 count (3 : Int))).tdiv (4 : Int)))
 (.chk (IntKind.i64 = IntKind.i64 ∧
  IntKind.i64.wrap
      (IntKind.i64.wrap
          ((IntKind.i64.wrap
                (IntKind.i64.wrap
                    ((IntKind.i64.wrap (bits BinOp.andNot IntKind.u16 count (3 : Int))).tdiv (4 : Int)) +
                  (IntKind.i64.wrap cyc).tmod (4000 : Int))).tdiv
            (256 : Int)) -
        IntKind.i64.wrap
          ((IntKind.i64.wrap
                ((IntKind.i64.wrap (bits BinOp.andNot IntKind.u16 count (3 : Int))).tdiv (4 : Int))).tdiv
            (256 : Int))) =
    IntKind.i64.wrap
      (IntKind.i64.wrap
          ((IntKind.i64.wrap
                (IntKind.i64.wrap
                    ((IntKind.i64.wrap (bits BinOp.andNot IntKind.u16 count (3 : Int))).tdiv (4 : Int)) +
                  (IntKind.i64.wrap cyc).tmod (4000 : Int))).tdiv
            (256 : Int)) -
        IntKind.i64.wrap
          ((IntKind.i64.wrap
                ((IntKind.i64.wrap (bits BinOp.andNot IntKind.u16 count (3 : Int))).tdiv (4 : Int))).tdiv
            (256 : Int))))
 (.chk (IntKind.i64 = IntKind.i64 ∧ (0 : Int) = (0 : Int))
 (.chk (IntKind.u8 = IntKind.u8 ∧ (0 : Int) = (0 : Int))
 (.chk (IntKind.i64 = IntKind.i64 ∧
  (IntKind.i64.wrap cyc).tmod (4000 : Int) = (IntKind.i64.wrap cyc).tmod (4000 : Int))
 (.chk (IntKind.i64 = IntKind.i64 ∧ (0 : Int) = (0 : Int))
 (.chk (IntKind.u16 = IntKind.u16 ∧
  bits BinOp.andNot IntKind.u16 count (3 : Int) = bits BinOp.andNot IntKind.u16 count (3 : Int))
 (.chk (IntKind.u8 = IntKind.u8 ∧ (0 : Int) = (0 : Int))
 (.chk (IntKind.u8 = IntKind.u8 ∧ (0 : Int) = (0 : Int))
 (.chk (IntKind.u8 = IntKind.u8 ∧
  bits BinOp.and IntKind.u8 tac (7 : Int) = bits BinOp.and IntKind.u8 tac (7 : Int))
 (.chk (false = false)
 (.chk (IntKind.i64 = IntKind.i64 ∧ (256 : Int) = (256 : Int))
 (.chk (IntKind.i64 = IntKind.i64 ∧ (4 : Int) = (4 : Int))
 (.chk (IntKind.i64 = IntKind.i64 ∧ (16 : Int) = (16 : Int))
 (.chk (IntKind.i64 = IntKind.i64 ∧ (64 : Int) = (64 : Int))
 (.chk (d3Inv
  { tac := tac, n := (IntKind.i64.wrap cyc).tmod (4000 : Int),
    fr :=
      IntKind.i64.wrap
        ((IntKind.i64.wrap (bits BinOp.andNot IntKind.u16 count (3 : Int))).tdiv (4 : Int)),
    want :=
      IntKind.i64.wrap
        (IntKind.i64.wrap
            ((IntKind.i64.wrap
                  (IntKind.i64.wrap
                      ((IntKind.i64.wrap (bits BinOp.andNot IntKind.u16 count (3 : Int))).tdiv (4 : Int)) +
                    (IntKind.i64.wrap cyc).tmod (4000 : Int))).tdiv
              (256 : Int)) -
          IntKind.i64.wrap
            ((IntKind.i64.wrap
                  ((IntKind.i64.wrap (bits BinOp.andNot IntKind.u16 count (3 : Int))).tdiv (4 : Int))).tdiv
              (256 : Int))) }
  { i := (0 : Int), got := (0 : Int), last := (0 : Int), c := bits BinOp.andNot IntKind.u16 count (3 : Int),
    tima := (0 : Int), tma := (0 : Int), m := bits BinOp.and IntKind.u8 tac (7 : Int), ov := false })
 (.all fun x : sym.Got d3X
  (d3Post
    { tac := tac, n := (IntKind.i64.wrap cyc).tmod (4000 : Int),
      fr :=
        IntKind.i64.wrap
          ((IntKind.i64.wrap (bits BinOp.andNot IntKind.u16 count (3 : Int))).tdiv (4 : Int)),
      want :=
        IntKind.i64.wrap
          (IntKind.i64.wrap
              ((IntKind.i64.wrap
                    (IntKind.i64.wrap
                        ((IntKind.i64.wrap (bits BinOp.andNot IntKind.u16 count (3 : Int))).tdiv
                          (4 : Int)) +
                      (IntKind.i64.wrap cyc).tmod (4000 : Int))).tdiv
                (256 : Int)) -
            IntKind.i64.wrap
              ((IntKind.i64.wrap
                    ((IntKind.i64.wrap (bits BinOp.andNot IntKind.u16 count (3 : Int))).tdiv
                      (4 : Int))).tdiv
                (256 : Int))) }) =>
  (.br (x.1.2 ==
  IntKind.i64.wrap
    (IntKind.i64.wrap
        ((IntKind.i64.wrap
              (IntKind.i64.wrap
                  ((IntKind.i64.wrap (bits BinOp.andNot IntKind.u16 count (3 : Int))).tdiv (4 : Int)) +
                (IntKind.i64.wrap cyc).tmod (4000 : Int))).tdiv
          (256 : Int)) -
      IntKind.i64.wrap
        ((IntKind.i64.wrap
              ((IntKind.i64.wrap (bits BinOp.andNot IntKind.u16 count (3 : Int))).tdiv (4 : Int))).tdiv
          (256 : Int))))
   (.br (bits BinOp.and IntKind.u8 tac (4 : Int) != (0 : Int))
    (.leaf (.v (.one (.bool true true))))
    (.br (x.1.2 == (0 : Int))
     (.leaf (.v (.one (.bool false (bits BinOp.and IntKind.u8 tac (4 : Int) == (0 : Int))))))
     (.leaf (.v (.one (.bool true false))))))
   (.br (x.1.2 == (0 : Int))
    (.leaf (.v (.one (.bool false (bits BinOp.and IntKind.u8 tac (4 : Int) == (0 : Int))))))
    (.leaf (.v (.one (.bool true false))))))))))))))))))))))))))
 (.br (bits BinOp.and IntKind.u8 tac (3 : Int) == ↑(1 : Nat))
  (.chk (sym.bodyAt Go.Proofs.Try.prog (3 : Go.FuncId) (0 : Nat) = sym.bodyAt Go.Proofs.Try.prog (3 : Go.FuncId) (0 : Nat))
  (.chk (IntKind.u8 = IntKind.u8 ∧ tac = tac)
  (.chk (IntKind.i64 = IntKind.i64 ∧
  (IntKind.i64.wrap cyc).tmod (4000 : Int) = (IntKind.i64.wrap cyc).tmod (4000 : Int))
  (.chk (IntKind.i64 = IntKind.i64 ∧
  IntKind.i64.wrap ((IntKind.i64.wrap (bits BinOp.andNot IntKind.u16 count (3 : Int))).tdiv (4 : Int)) =
    IntKind.i64.wrap ((IntKind.i64.wrap (bits BinOp.andNot IntKind.u16 count (3 : Int))).tdiv (4 : Int)))
  (.chk (IntKind.i64 = IntKind.i64 ∧
  IntKind.i64.wrap
      (IntKind.i64.wrap
          ((IntKind.i64.wrap
                (IntKind.i64.wrap
                    ((IntKind.i64.wrap (bits BinOp.andNot IntKind.u16 count (3 : Int))).tdiv (4 : Int)) +
                  (IntKind.i64.wrap cyc).tmod (4000 : Int))).tdiv
            (4 : Int)) -
        IntKind.i64.wrap
          ((IntKind.i64.wrap
                ((IntKind.i64.wrap (bits BinOp.andNot IntKind.u16 count (3 : Int))).tdiv (4 : Int))).tdiv
            (4 : Int))) =
    IntKind.i64.wrap
      (IntKind.i64.wrap
          ((IntKind.i64.wrap
                (IntKind.i64.wrap
                    ((IntKind.i64.wrap (bits BinOp.andNot IntKind.u16 count (3 : Int))).tdiv (4 : Int)) +
                  (IntKind.i64.wrap cyc).tmod (4000 : Int))).tdiv
            (4 : Int)) -
        IntKind.i64.wrap
          ((IntKind.i64.wrap
                ((IntKind.i64.wrap (bits BinOp.andNot IntKind.u16 count (3 : Int))).tdiv (4 : Int))).tdiv
            (4 : Int))))
  (.chk (IntKind.i64 = IntKind.i64 ∧ (0 : Int) = (0 : Int))
  (.chk (IntKind.u8 = IntKind.u8 ∧ (0 : Int) = (0 : Int))
  (.chk (IntKind.i64 = IntKind.i64 ∧
  (IntKind.i64.wrap cyc).tmod (4000 : Int) = (IntKind.i64.wrap cyc).tmod (4000 : Int))
  (.chk (IntKind.i64 = IntKind.i64 ∧ (0 : Int) = (0 : Int))
  (.chk (IntKind.u16 = IntKind.u16 ∧
  bits BinOp.andNot IntKind.u16 count (3 : Int) = bits BinOp.andNot IntKind.u16 count (3 : Int))
  (.chk (IntKind.u8 = IntKind.u8 ∧ (0 : Int) = (0 : Int))
  (.chk (IntKind.u8 = IntKind.u8 ∧ (0 : Int) = (0 : Int))
  (.chk (IntKind.u8 = IntKind.u8 ∧
  bits BinOp.and IntKind.u8 tac (7 : Int) = bits BinOp.and IntKind.u8 tac (7 : Int))
  (.chk (false = false)
  (.chk (IntKind.i64 = IntKind.i64 ∧ (256 : Int) = (256 : Int))
  (.chk (IntKind.i64 = IntKind.i64 ∧ (4 : Int) = (4 : Int))
  (.chk (IntKind.i64 = IntKind.i64 ∧ (16 : Int) = (16 : Int))
  (.chk (IntKind.i64 = IntKind.i64 ∧ (64 : Int) = (64 : Int))
  (.chk (d3Inv
  { tac := tac, n := (IntKind.i64.wrap cyc).tmod (4000 : Int),
    fr :=
      IntKind.i64.wrap
        ((IntKind.i64.wrap (bits BinOp.andNot IntKind.u16 count (3 : Int))).tdiv (4 : Int)),
    want :=
      IntKind.i64.wrap
        (IntKind.i64.wrap
            ((IntKind.i64.wrap
                  (IntKind.i64.wrap
                      ((IntKind.i64.wrap (bits BinOp.andNot IntKind.u16 count (3 : Int))).tdiv (4 : Int)) +
                    (IntKind.i64.wrap cyc).tmod (4000 : Int))).tdiv
              (4 : Int)) -
          IntKind.i64.wrap
            ((IntKind.i64.wrap
                  ((IntKind.i64.wrap (bits BinOp.andNot IntKind.u16 count (3 : Int))).tdiv (4 : Int))).tdiv
              (4 : Int))) }
  { i := (0 : Int), got := (0 : Int), last := (0 : Int), c := bits BinOp.andNot IntKind.u16 count (3 : Int),
    tima := (0 : Int), tma := (0 : Int), m := bits BinOp.and IntKind.u8 tac (7 : Int), ov := false })
  (.all fun x : sym.Got d3X
  (d3Post
    { tac := tac, n := (IntKind.i64.wrap cyc).tmod (4000 : Int),
      fr :=
        IntKind.i64.wrap
          ((IntKind.i64.wrap (bits BinOp.andNot IntKind.u16 count (3 : Int))).tdiv (4 : Int)),
      want :=
        IntKind.i64.wrap
          (IntKind.i64.wrap
              ((IntKind.i64.wrap
                    (IntKind.i64.wrap
                        ((IntKind.i64.wrap (bits BinOp.andNot IntKind.u16 count (3 : Int))).tdiv
                          (4 : Int)) +
                      (IntKind.i64.wrap cyc).tmod (4000 : Int))).tdiv
                (4 : Int)) -
            IntKind.i64.wrap
              ((IntKind.i64.wrap
                    ((IntKind.i64.wrap (bits BinOp.andNot IntKind.u16 count (3 : Int))).tdiv
                      (4 : Int))).tdiv
                (4 : Int))) }) =>
   (.br (x.1.2 ==
  IntKind.i64.wrap
    (IntKind.i64.wrap
        ((IntKind.i64.wrap
              (IntKind.i64.wrap
                  ((IntKind.i64.wrap (bits BinOp.andNot IntKind.u16 count (3 : Int))).tdiv (4 : Int)) +
                (IntKind.i64.wrap cyc).tmod (4000 : Int))).tdiv
          (4 : Int)) -
      IntKind.i64.wrap
        ((IntKind.i64.wrap
              ((IntKind.i64.wrap (bits BinOp.andNot IntKind.u16 count (3 : Int))).tdiv (4 : Int))).tdiv
          (4 : Int))))
    (.br (bits BinOp.and IntKind.u8 tac (4 : Int) != (0 : Int))
     (.leaf (.v (.one (.bool true true))))
     (.br (x.1.2 == (0 : Int))
      (.leaf (.v (.one (.bool false (bits BinOp.and IntKind.u8 tac (4 : Int) == (0 : Int))))))
      (.leaf (.v (.one (.bool true false))))))
    (.br (x.1.2 == (0 : Int))
     (.leaf (.v (.one (.bool false (bits BinOp.and IntKind.u8 tac (4 : Int) == (0 : Int))))))
     (.leaf (.v (.one (.bool true false))))))))))))))))))))))))))
  (.br (bits BinOp.and IntKind.u8 tac (3 : Int) == ↑(2 : Nat))
   (.chk (sym.bodyAt Go.Proofs.Try.prog (3 : Go.FuncId) (0 : Nat) = sym.bodyAt Go.Proofs.Try.prog (3 : Go.FuncId) (0 : Nat))
   (.chk (IntKind.u8 = IntKind.u8 ∧ tac = tac)
   (.chk (IntKind.i64 = IntKind.i64 ∧
  (IntKind.i64.wrap cyc).tmod (4000 : Int) = (IntKind.i64.wrap cyc).tmod (4000 : Int))
   (.chk (IntKind.i64 = IntKind.i64 ∧
  IntKind.i64.wrap ((IntKind.i64.wrap (bits BinOp.andNot IntKind.u16 count (3 : Int))).tdiv (4 : Int)) =
    IntKind.i64.wrap ((IntKind.i64.wrap (bits BinOp.andNot IntKind.u16 count (3 : Int))).tdiv (4 : Int)))
   (.chk (IntKind.i64 = IntKind.i64 ∧
  IntKind.i64.wrap
      (IntKind.i64.wrap
          ((IntKind.i64.wrap
                (IntKind.i64.wrap
                    ((IntKind.i64.wrap (bits BinOp.andNot IntKind.u16 count (3 : Int))).tdiv (4 : Int)) +
                  (IntKind.i64.wrap cyc).tmod (4000 : Int))).tdiv
            (16 : Int)) -
        IntKind.i64.wrap
          ((IntKind.i64.wrap
                ((IntKind.i64.wrap (bits BinOp.andNot IntKind.u16 count (3 : Int))).tdiv (4 : Int))).tdiv
            (16 : Int))) =
    IntKind.i64.wrap
      (IntKind.i64.wrap
          ((IntKind.i64.wrap
                (IntKind.i64.wrap
                    ((IntKind.i64.wrap (bits BinOp.andNot IntKind.u16 count (3 : Int))).tdiv (4 : Int)) +
                  (IntKind.i64.wrap cyc).tmod (4000 : Int))).tdiv
            (16 : Int)) -
        IntKind.i64.wrap
          ((IntKind.i64.wrap
                ((IntKind.i64.wrap (bits BinOp.andNot IntKind.u16 count (3 : Int))).tdiv (4 : Int))).tdiv
            (16 : Int))))
   (.chk (IntKind.i64 = IntKind.i64 ∧ (0 : Int) = (0 : Int))
   (.chk (IntKind.u8 = IntKind.u8 ∧ (0 : Int) = (0 : Int))
   (.chk (IntKind.i64 = IntKind.i64 ∧
  (IntKind.i64.wrap cyc).tmod (4000 : Int) = (IntKind.i64.wrap cyc).tmod (4000 : Int))
   (.chk (IntKind.i64 = IntKind.i64 ∧ (0 : Int) = (0 : Int))
   (.chk (IntKind.u16 = IntKind.u16 ∧
  bits BinOp.andNot IntKind.u16 count (3 : Int) = bits BinOp.andNot IntKind.u16 count (3 : Int))
   (.chk (IntKind.u8 = IntKind.u8 ∧ (0 : Int) = (0 : Int))
   (.chk (IntKind.u8 = IntKind.u8 ∧ (0 : Int) = (0 : Int))
   (.chk (IntKind.u8 = IntKind.u8 ∧
  bits BinOp.and IntKind.u8 tac (7 : Int) = bits BinOp.and IntKind.u8 tac (7 : Int))
   (.chk (false = false)
   (.chk (IntKind.i64 = IntKind.i64 ∧ (256 : Int) = (256 : Int))
   (.chk (IntKind.i64 = IntKind.i64 ∧ (4 : Int) = (4 : Int))
   (.chk (IntKind.i64 = IntKind.i64 ∧ (16 : Int) = (16 : Int))
   (.chk (IntKind.i64 = IntKind.i64 ∧ (64 : Int) = (64 : Int))
   (.chk (d3Inv
  { tac := tac, n := (IntKind.i64.wrap cyc).tmod (4000 : Int),
    fr :=
      IntKind.i64.wrap
        ((IntKind.i64.wrap (bits BinOp.andNot IntKind.u16 count (3 : Int))).tdiv (4 : Int)),
    want :=
      IntKind.i64.wrap
        (IntKind.i64.wrap
            ((IntKind.i64.wrap
                  (IntKind.i64.wrap
                      ((IntKind.i64.wrap (bits BinOp.andNot IntKind.u16 count (3 : Int))).tdiv (4 : Int)) +
                    (IntKind.i64.wrap cyc).tmod (4000 : Int))).tdiv
              (16 : Int)) -
          IntKind.i64.wrap
            ((IntKind.i64.wrap
                  ((IntKind.i64.wrap (bits BinOp.andNot IntKind.u16 count (3 : Int))).tdiv (4 : Int))).tdiv
              (16 : Int))) }
  { i := (0 : Int), got := (0 : Int), last := (0 : Int), c := bits BinOp.andNot IntKind.u16 count (3 : Int),
    tima := (0 : Int), tma := (0 : Int), m := bits BinOp.and IntKind.u8 tac (7 : Int), ov := false })
   (.all fun x : sym.Got d3X
  (d3Post
    { tac := tac, n := (IntKind.i64.wrap cyc).tmod (4000 : Int),
      fr :=
        IntKind.i64.wrap
          ((IntKind.i64.wrap (bits BinOp.andNot IntKind.u16 count (3 : Int))).tdiv (4 : Int)),
      want :=
        IntKind.i64.wrap
          (IntKind.i64.wrap
              ((IntKind.i64.wrap
                    (IntKind.i64.wrap
                        ((IntKind.i64.wrap (bits BinOp.andNot IntKind.u16 count (3 : Int))).tdiv
                          (4 : Int)) +
                      (IntKind.i64.wrap cyc).tmod (4000 : Int))).tdiv
                (16 : Int)) -
            IntKind.i64.wrap
              ((IntKind.i64.wrap
                    ((IntKind.i64.wrap (bits BinOp.andNot IntKind.u16 count (3 : Int))).tdiv
                      (4 : Int))).tdiv
                (16 : Int))) }) =>
    (.br (x.1.2 ==
  IntKind.i64.wrap
    (IntKind.i64.wrap
        ((IntKind.i64.wrap
              (IntKind.i64.wrap
                  ((IntKind.i64.wrap (bits BinOp.andNot IntKind.u16 count (3 : Int))).tdiv (4 : Int)) +
                (IntKind.i64.wrap cyc).tmod (4000 : Int))).tdiv
          (16 : Int)) -
      IntKind.i64.wrap
        ((IntKind.i64.wrap
              ((IntKind.i64.wrap (bits BinOp.andNot IntKind.u16 count (3 : Int))).tdiv (4 : Int))).tdiv
          (16 : Int))))
     (.br (bits BinOp.and IntKind.u8 tac (4 : Int) != (0 : Int))
      (.leaf (.v (.one (.bool true true))))
      (.br (x.1.2 == (0 : Int))
       (.leaf (.v (.one (.bool false (bits BinOp.and IntKind.u8 tac (4 : Int) == (0 : Int))))))
       (.leaf (.v (.one (.bool true false))))))
     (.br (x.1.2 == (0 : Int))
      (.leaf (.v (.one (.bool false (bits BinOp.and IntKind.u8 tac (4 : Int) == (0 : Int))))))
      (.leaf (.v (.one (.bool true false))))))))))))))))))))))))))
   (.chk (sym.bodyAt Go.Proofs.Try.prog (3 : Go.FuncId) (0 : Nat) = sym.bodyAt Go.Proofs.Try.prog (3 : Go.FuncId) (0 : Nat))
   (.chk (IntKind.u8 = IntKind.u8 ∧ tac = tac)
   (.chk (IntKind.i64 = IntKind.i64 ∧
  (IntKind.i64.wrap cyc).tmod (4000 : Int) = (IntKind.i64.wrap cyc).tmod (4000 : Int))
   (.chk (IntKind.i64 = IntKind.i64 ∧
  IntKind.i64.wrap ((IntKind.i64.wrap (bits BinOp.andNot IntKind.u16 count (3 : Int))).tdiv (4 : Int)) =
    IntKind.i64.wrap ((IntKind.i64.wrap (bits BinOp.andNot IntKind.u16 count (3 : Int))).tdiv (4 : Int)))
   (.chk (IntKind.i64 = IntKind.i64 ∧
  IntKind.i64.wrap
      (IntKind.i64.wrap
          ((IntKind.i64.wrap
                (IntKind.i64.wrap
                    ((IntKind.i64.wrap (bits BinOp.andNot IntKind.u16 count (3 : Int))).tdiv (4 : Int)) +
                  (IntKind.i64.wrap cyc).tmod (4000 : Int))).tdiv
            (64 : Int)) -
        IntKind.i64.wrap
          ((IntKind.i64.wrap
                ((IntKind.i64.wrap (bits BinOp.andNot IntKind.u16 count (3 : Int))).tdiv (4 : Int))).tdiv
            (64 : Int))) =
    IntKind.i64.wrap
      (IntKind.i64.wrap
          ((IntKind.i64.wrap
                (IntKind.i64.wrap
                    ((IntKind.i64.wrap (bits BinOp.andNot IntKind.u16 count (3 : Int))).tdiv (4 : Int)) +
                  (IntKind.i64.wrap cyc).tmod (4000 : Int))).tdiv
            (64 : Int)) -
        IntKind.i64.wrap
          ((IntKind.i64.wrap
                ((IntKind.i64.wrap (bits BinOp.andNot IntKind.u16 count (3 : Int))).tdiv (4 : Int))).tdiv
            (64 : Int))))
   (.chk (IntKind.i64 = IntKind.i64 ∧ (0 : Int) = (0 : Int))
   (.chk (IntKind.u8 = IntKind.u8 ∧ (0 : Int) = (0 : Int))
   (.chk (IntKind.i64 = IntKind.i64 ∧
  (IntKind.i64.wrap cyc).tmod (4000 : Int) = (IntKind.i64.wrap cyc).tmod (4000 : Int))
   (.chk (IntKind.i64 = IntKind.i64 ∧ (0 : Int) = (0 : Int))
   (.chk (IntKind.u16 = IntKind.u16 ∧
  bits BinOp.andNot IntKind.u16 count (3 : Int) = bits BinOp.andNot IntKind.u16 count (3 : Int))
   (.chk (IntKind.u8 = IntKind.u8 ∧ (0 : Int) = (0 : Int))
   (.chk (IntKind.u8 = IntKind.u8 ∧ (0 : Int) = (0 : Int))
   (.chk (IntKind.u8 = IntKind.u8 ∧
  bits BinOp.and IntKind.u8 tac (7 : Int) = bits BinOp.and IntKind.u8 tac (7 : Int))
   (.chk (false = false)
   (.chk (IntKind.i64 = IntKind.i64 ∧ (256 : Int) = (256 : Int))
   (.chk (IntKind.i64 = IntKind.i64 ∧ (4 : Int) = (4 : Int))
   (.chk (IntKind.i64 = IntKind.i64 ∧ (16 : Int) = (16 : Int))
   (.chk (IntKind.i64 = IntKind.i64 ∧ (64 : Int) = (64 : Int))
   (.chk (d3Inv
  { tac := tac, n := (IntKind.i64.wrap cyc).tmod (4000 : Int),
    fr :=
      IntKind.i64.wrap
        ((IntKind.i64.wrap (bits BinOp.andNot IntKind.u16 count (3 : Int))).tdiv (4 : Int)),
    want :=
      IntKind.i64.wrap
        (IntKind.i64.wrap
            ((IntKind.i64.wrap
                  (IntKind.i64.wrap
                      ((IntKind.i64.wrap (bits BinOp.andNot IntKind.u16 count (3 : Int))).tdiv (4 : Int)) +
                    (IntKind.i64.wrap cyc).tmod (4000 : Int))).tdiv
              (64 : Int)) -
          IntKind.i64.wrap
            ((IntKind.i64.wrap
                  ((IntKind.i64.wrap (bits BinOp.andNot IntKind.u16 count (3 : Int))).tdiv (4 : Int))).tdiv
              (64 : Int))) }
  { i := (0 : Int), got := (0 : Int), last := (0 : Int), c := bits BinOp.andNot IntKind.u16 count (3 : Int),
    tima := (0 : Int), tma := (0 : Int), m := bits BinOp.and IntKind.u8 tac (7 : Int), ov := false })
   (.all fun x : sym.Got d3X
  (d3Post
    { tac := tac, n := (IntKind.i64.wrap cyc).tmod (4000 : Int),
      fr :=
        IntKind.i64.wrap
          ((IntKind.i64.wrap (bits BinOp.andNot IntKind.u16 count (3 : Int))).tdiv (4 : Int)),
      want :=
        IntKind.i64.wrap
          (IntKind.i64.wrap
              ((IntKind.i64.wrap
                    (IntKind.i64.wrap
                        ((IntKind.i64.wrap (bits BinOp.andNot IntKind.u16 count (3 : Int))).tdiv
                          (4 : Int)) +
                      (IntKind.i64.wrap cyc).tmod (4000 : Int))).tdiv
                (64 : Int)) -
            IntKind.i64.wrap
              ((IntKind.i64.wrap
                    ((IntKind.i64.wrap (bits BinOp.andNot IntKind.u16 count (3 : Int))).tdiv
                      (4 : Int))).tdiv
                (64 : Int))) }) =>
    (.br (x.1.2 ==
  IntKind.i64.wrap
    (IntKind.i64.wrap
        ((IntKind.i64.wrap
              (IntKind.i64.wrap
                  ((IntKind.i64.wrap (bits BinOp.andNot IntKind.u16 count (3 : Int))).tdiv (4 : Int)) +
                (IntKind.i64.wrap cyc).tmod (4000 : Int))).tdiv
          (64 : Int)) -
      IntKind.i64.wrap
        ((IntKind.i64.wrap
              ((IntKind.i64.wrap (bits BinOp.andNot IntKind.u16 count (3 : Int))).tdiv (4 : Int))).tdiv
          (64 : Int))))
     (.br (bits BinOp.and IntKind.u8 tac (4 : Int) != (0 : Int))
      (.leaf (.v (.one (.bool true true))))
      (.br (x.1.2 == (0 : Int))
       (.leaf (.v (.one (.bool false (bits BinOp.and IntKind.u8 tac (4 : Int) == (0 : Int))))))
       (.leaf (.v (.one (.bool true false))))))
     (.br (x.1.2 == (0 : Int))
      (.leaf (.v (.one (.bool false (bits BinOp.and IntKind.u8 tac (4 : Int) == (0 : Int))))))
      (.leaf (.v (.one (.bool true false)))))))))))))))))))))))))))))) := by kernel_rfl
def d4Mu (p : d4P) (x : d4X) : Nat := (400 - x.n).toNat
theorem d4_step (w : World) (p : d4P) (x : d4X) (h : d4Inv p x) : Hid (roundT Try.prog w (flatT Try.prog) (ctrOf table) (callT Try.prog w (flatT Try.prog) (ctrOf table) (noLoop) 20) ((noLoop) 4) (roundOf (bodyAt Try.prog 4 0)) 0 (d4St p) (d4Fin p) d4NxX d4NxX x) (Kept (d4Inv p) (d4Post p) (d4Mu p) x) := by
  obtain ⟨wr, xx⟩ := p
  obtain ⟨n, irq, c, tima, tma, m, ov⟩ := x
  constructor
  rw [d4step_tree]
  simp only [T.holds, Kept, d4Mu, and_self, true_and, and_true]
  obtain ⟨h1, h2, h3, h4, h5, h6, h7⟩ := h
  simp only at h1 h2 h3 h4 h5 h6 h7
  subst h3
  have h4' := h4
  obtain ⟨bc, bt, bm, ba⟩ := h4'
  have hev := Tm.ev_cases m
  refine ⟨fun h => ⟨fun hn => ⟨h4, ?_, fun ho => ?_⟩, fun hn => ?_⟩, fun h => ?_⟩
  · intro ho
    rw [ho] at h; simp at h
  · subst ho
    have hn : n < 400 := by simpa using hn
    have hh : tima = 255 ∧ n < Tm.ev (m % 4) := by
      rcases h7 with ⟨_, h7⟩ | ⟨h7, _⟩
      · exact h7
      · cases h7
    obtain ⟨rfl, hn2⟩ := hh
    have e : IntKind.i64.wrap (n + 1) = n + 1 := Tm.wi64 _ (by omega) (by omega)
    have hc4 : c % 4 = 0 := by omega
    have hgo : Tm.go c m ↔ n + 1 = Tm.ev (m % 4) := by
      unfold Tm.go
      rcases hev with e | e | e | e <;> rw [e] at hn2 ⊢ <;> (constructor <;> intro h <;> first | omega | (refine ⟨h5, ?_⟩; omega))
    rw [e]
    refine ⟨⟨by show 0 ≤ n + 1; omega, by show n + 1 ≤ Tm.ev (m % 4); omega, rfl, TB_tick h4, h5, ?_, ?_⟩, ?_⟩
    · show Tm.tkC c = 4 * (n + 1)
      unfold Tm.tkC
      omega
    · show (Tm.tkO c 255 tma m false = false ∧ Tm.tkT c 255 tma m false = 255 ∧ n + 1 < Tm.ev (m % 4)) ∨ (Tm.tkO c 255 tma m false = true ∧ Tm.tkT c 255 tma m false = 0 ∧ n + 1 = Tm.ev (m % 4))
      rw [Tm.tkO_eq bc hc4 ba bt, Tm.tkT_eq bc hc4 ba bt]
      by_cases hg : Tm.go c m
      · have := hgo.1 hg
        right; simp [hg, this]
      · have : ¬ n + 1 = Tm.ev (m % 4) := fun h => hg (hgo.2 h)
        left; simp [hg]; omega
    · show (400 - (n + 1)).toNat < (400 - n).toNat
      omega
  · exfalso
    have hn : ¬ n < 400 := by simpa using hn
    simp at h
    subst h
    rcases h7 with ⟨_, _, h7⟩ | ⟨h7, _⟩
    · omega
    · cases h7
  · simp at h
    subst h
    rcases h7 with ⟨h7, _⟩ | ⟨_, h7, h8⟩
    · cases h7
    · exact ⟨h4, h5, by show c = 4 * Tm.ev (m % 4); omega, rfl, h7⟩
set_option maxHeartbeats 4000000 in
theorem d4Lp_ok (w0 : World) : d4Lp.ok Try.prog w0 := by
  intro s t h
  unfold d4Lp at h
  simp only at h
  split at h
  · rename_i p _
    split at h
    · rename_i x _
      cases h
      exact loop_ok base2 (table_ok w0) (callT_ok base2.mixed base2.names base2.eqs (table_ok w0).ok (table_ok w0).there (loops_none _ _) 20) ((loops_none _ _) 4) (c := roundOf (bodyAt Try.prog 4 0)) (by kernel_rfl) (id := 0) (n := 1) (st := d4St p) (fin := d4Fin p) (inv := d4Inv p) (post := d4Post p) (nx := d4NxX) (fx := d4NxX) (d4Mu p) (fun x => by kernel_rfl) (fun y => by kernel_rfl) (fun x hx => d4_step w0 p x hx) s x
    · cases h
  · cases h
theorem Tm.or4' : ∀ a : Nat, a < 256 → bits .or .u8 4 (bits .and .u8 (a : Int) 3) = ((4 + a % 4 : Nat) : Int) := by decide +kernel
theorem Tm.or4 {a : Int} (h : Tm.B a) : bits .or .u8 4 (bits .and .u8 a 3) = 4 + a % 4 := by
  obtain ⟨n, rfl⟩ := Int.eq_ofNat_of_zero_le h.1
  rw [Tm.or4' n (by have := h.2; omega)]; omega
theorem over_walk (w : World) (tma tac x : Int) (wr : Bool) (bm : Tm.B tma) (ba : Tm.B tac) (bx : Tm.B x) : Calls Try.prog 4 #[.int .u8 tma, .int .u8 tac, .bool wr, .int .u8 x] w fun e w' => e = .returned (.bool true) ∧ Below w.heap.size w w' := by
  have hl : LcsOk Try.prog w (lpOf Try.prog [d4Lp]) := lps_ok fun l hl => by
    simp only [List.mem_cons, List.not_mem_nil, or_false] at hl
    subst hl
    exact d4Lp_ok w
  refine val_eq base2 (table_ok w) hl (over_tree w tma tac x wr) rfl ?_
  have bm' : Tm.B (4 + tac % 4) := by obtain ⟨h1, h2⟩ := ba; exact ⟨by omega, by omega⟩
  have z : Tm.W 0 := ⟨by omega, by omega⟩
  have t : Tm.B 255 := ⟨by omega, by omega⟩
  simp only [T.holds, and_self, true_and, and_true, Tm.or4 ba]
  refine ⟨⟨by show (0:Int) ≤ 0; omega, ?_, rfl, ⟨z, t, bm, bm'⟩, ?_, by show (0:Int) = 4 * 0; rfl, .inl ⟨rfl, rfl, ?_⟩⟩, fun y => ?_⟩
  · show (0:Int) ≤ Tm.ev ((4 + tac % 4) % 4)
    have := Tm.ev_cases (4 + tac % 4)
    omega
  · show (4 + tac % 4) / 4 % 2 = 1
    obtain ⟨h1, h2⟩ := ba
    omega
  · show (0:Int) < Tm.ev ((4 + tac % 4) % 4)
    have := Tm.ev_cases (4 + tac % 4)
    omega
  · obtain ⟨⟨n, irq, c, tima, tma', m, ov⟩, hy⟩ := y
    obtain ⟨h1, h2, h3, h4, h5⟩ := hy
    simp only at h1 h2 h3 h4 h5 ⊢
    subst h4 h5
    have hb := h1
    obtain ⟨bc, bt, bq, bm2⟩ := h1
    have hev := Tm.ev_cases m
    have hc4 : c % 4 = 0 := by omega
    have ng : ¬ Tm.go c m := by
      unfold Tm.go
      rintro ⟨_, g⟩
      rcases hev with e | e | e | e <;> rw [e] at g h3 <;> omega
    have w1 := TB_write (n := 1) hb bx
    have w2 := TB_write (n := 2) hb bx
    refine ⟨fun h => by simp at h, fun _ => ⟨fun h => by simp at h, fun _ => ⟨fun hw => ⟨⟨hb, bx⟩, w1, ?_⟩, fun hw => ⟨⟨hb, bx⟩, w2, ?_⟩⟩⟩⟩
    · have eT := Tm.tkT_eq (tima := x) (tma := tma') bc hc4 bm2 bx
      have eO := Tm.tkO_eq (tima := x) (tma := tma') bc hc4 bm2 bx
      simp [Tm.wO, Tm.wC, Tm.wT, Tm.wM, Tm.wA, AV.γ, V.γ, Sc.γ, AV.own, AV.wf, V.wf, Sc.wf, eT, eO, ng]
    · have eT := Tm.tkT_eq (tima := x) (tma := x) bc hc4 bm2 bx
      have eO := Tm.tkO_eq (tima := x) (tma := x) bc hc4 bm2 bx
      have eT2 : Tm.tkT c 0 x m true = Tm.tkT c x x m false := by simp [Tm.tkT, Tm.aT]
      have eO2 : Tm.tkO c 0 x m true = Tm.tkO c x x m false := by simp [Tm.tkO, Tm.aT]
      simp [Tm.wO, Tm.wC, Tm.wT, Tm.wM, Tm.wA, Tm.fO, Tm.fT, AV.γ, V.γ, Sc.γ, AV.own, AV.wf, V.wf, Sc.wf, eT2, eO2, eT, eO, ng]
end Go.Proofs.Ytobenphpjphdlaa
