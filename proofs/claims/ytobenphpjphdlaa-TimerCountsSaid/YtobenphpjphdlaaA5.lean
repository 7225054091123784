/-
  Walk of a statement of the timer, by computing, with its rounds: the counter's higher byte. Bytes are below 256, the counter below 65536; no other condition.
-/
import Derived.Test.YtobenphpjphdlaaA3
import Derived.Test.YtobenphpjphdlaaSymA
namespace Go.Proofs.Ytobenphpjphdlaa
open Go.RowKit sym
set_option linter.unusedVariables false
set_option linter.unusedSimpArgs false
set_option maxRecDepth 100000
structure d5P where
  n : Int
  c0 : Int
  tima0 : Int
  tma : Int
  tac : Int
  ov0 : Bool
structure d5X where
  i : Int
  c : Int
  tima : Int
  ov : Bool
def d5St : d5P → d5X → ASt := fun ⟨n, c0, tima0, tma, tac, ov0⟩ ⟨i, c, tima, ov⟩ => ⟨slots (List.replicate 34 .any) [(2, .v (.one (.ptr 0 0))), (5, .v (.one (.ptr 1 0))), (6, .v (.one (.int false .i64 n))), (13, .v (.one (.int false .i64 n))), (14, .v (.one (.int false .i64 i)))], [⟨[.int false .u16 c0, .int false .u8 tima0, .int false .u8 tma, .int false .u8 tac, .bool false ov0], 32⟩, ⟨[.int false .u16 c, .int false .u8 tima, .int false .u8 tma, .int false .u8 tac, .bool false ov], 25⟩]⟩
def d5Fin : d5P → d5X → ASt := fun ⟨n, c0, tima0, tma, tac, ov0⟩ ⟨i, c, tima, ov⟩ => ⟨slots (List.replicate 34 .any) [(2, .v (.one (.ptr 0 0))), (5, .v (.one (.ptr 1 0))), (6, .v (.one (.int false .i64 n))), (13, .v (.one (.int false .i64 n))), (14, .v (.one (.int false .i64 i)))], [⟨[.int false .u16 c0, .int false .u8 tima0, .int false .u8 tma, .int false .u8 tac, .bool false ov0], 32⟩, ⟨[.int false .u16 c, .int false .u8 tima, .int false .u8 tma, .int false .u8 tac, .bool false ov], 25⟩]⟩
def d5NxP : ASt → Option d5P := fun s => match gI s 13 with | none => none | some n => match hI s 0 0 with | none => none | some c0 => match hI s 0 1 with | none => none | some tima0 => match hI s 0 2 with | none => none | some tma => match hI s 0 3 with | none => none | some tac => match hB s 0 4 with | none => none | some ov0 => some ⟨n, c0, tima0, tma, tac, ov0⟩
def d5NxX : ASt → Option d5X := fun s => match gI s 14 with | none => none | some i => match hI s 1 0 with | none => none | some c => match hI s 1 1 with | none => none | some tima => match hB s 1 4 with | none => none | some ov => some ⟨i, c, tima, ov⟩
structure d5Inv (p : d5P) (x : d5X) : Prop where
  i0 : 0 ≤ x.i
  i1 : x.i ≤ p.n
  n1 : p.n < 2000
  c0 : x.c = (p.c0 + 4 * x.i) % 65536
  tb : TB x.c x.tima p.tma p.tac
structure d5Post (p : d5P) (x : d5X) : Prop where
  c0 : x.c = (p.c0 + 4 * p.n) % 65536
  tb : TB x.c x.tima p.tma p.tac
def d5Lp : Lp := ⟨5, 0, fun s => match d5NxP s with
  | some p => match d5NxX s with
    | some x => some (loopT 0 2 (d5St p) (d5Fin p) (d5Inv p) (d5Post p) s x)
    | none => none
  | none => none⟩
theorem d5step_tree (w : World) (n : Int) (c0 : Int) (tima0 : Int) (tma : Int) (tac : Int) (ov0 : Bool) (i : Int) (c : Int) (tima : Int) (ov : Bool) :
    roundT Try.prog w (flatT Try.prog) (ctrOf table) (callT Try.prog w (flatT Try.prog) (ctrOf table) (noLoop) 20) ((noLoop) 5) (roundOf (bodyAt Try.prog 5 0)) 0 (d5St ⟨n, c0, tima0, tma, tac, ov0⟩) (d5Fin ⟨n, c0, tima0, tma, tac, ov0⟩) d5NxX d5NxX ⟨i, c, tima, ov⟩ =
(.br (decide (i < n))
 (.chk (TB c tima tma tac)
 (.chk (IntKind.i64 = IntKind.i64 ∧ n = n)
 (.chk (IntKind.i64 = IntKind.i64 ∧ n = n)
 (.chk (IntKind.i64 = IntKind.i64 ∧ IntKind.i64.wrap (i + (1 : Int)) = IntKind.i64.wrap (i + (1 : Int)))
 (.chk (IntKind.u16 = IntKind.u16 ∧ c0 = c0)
 (.chk (IntKind.u8 = IntKind.u8 ∧ tima0 = tima0)
 (.chk (IntKind.u8 = IntKind.u8 ∧ tma = tma)
 (.chk (IntKind.u8 = IntKind.u8 ∧ tac = tac)
 (.chk (ov0 = ov0)
 (.chk (IntKind.u16 = IntKind.u16 ∧ Tm.tkC c = Tm.tkC c)
 (.chk (IntKind.u8 = IntKind.u8 ∧
  Tm.tkT c tima tma tac ov = Tm.tkT c tima tma tac ov)
 (.chk (IntKind.u8 = IntKind.u8 ∧ tma = tma)
 (.chk (IntKind.u8 = IntKind.u8 ∧ tac = tac)
 (.chk (Tm.tkO c tima tma tac ov = Tm.tkO c tima tma tac ov)
 (.leaf (.inl ⟨IntKind.i64.wrap (i + (1 : Int)), Tm.tkC c, Tm.tkT c tima tma tac ov, Tm.tkO c tima tma tac ov⟩))))))))))))))))
 (.chk (IntKind.i64 = IntKind.i64 ∧ n = n)
 (.chk (IntKind.i64 = IntKind.i64 ∧ n = n)
 (.chk (IntKind.i64 = IntKind.i64 ∧ i = i)
 (.chk (IntKind.u16 = IntKind.u16 ∧ c0 = c0)
 (.chk (IntKind.u8 = IntKind.u8 ∧ tima0 = tima0)
 (.chk (IntKind.u8 = IntKind.u8 ∧ tma = tma)
 (.chk (IntKind.u8 = IntKind.u8 ∧ tac = tac)
 (.chk (ov0 = ov0)
 (.chk (IntKind.u16 = IntKind.u16 ∧ c = c)
 (.chk (IntKind.u8 = IntKind.u8 ∧ tima = tima)
 (.chk (IntKind.u8 = IntKind.u8 ∧ tma = tma)
 (.chk (IntKind.u8 = IntKind.u8 ∧ tac = tac)
 (.chk (ov = ov)
 (.leaf (.inr ⟨i, c, tima, ov⟩)))))))))))))))) := by kernel_rfl
theorem divides_tree (w : World) (c tima tma tac cyc : Int) (ov : Bool) :
    callV Try.prog w (flatT Try.prog) (ctrOf table) (lpOf Try.prog [d5Lp]) 20 5 [.v (.agg [.int false .u16 c, .int false .u8 tima, .int false .u8 tma, .int false .u8 tac, .bool false ov]), .v (.one (.int false .u16 cyc))] =
(.chk (sym.bodyAt Go.Proofs.Try.prog (5 : Go.FuncId) (0 : Nat) = sym.bodyAt Go.Proofs.Try.prog (5 : Go.FuncId) (0 : Nat))
(.chk (IntKind.i64 = IntKind.i64 ∧
  (IntKind.i64.wrap cyc).tmod (2000 : Int) = (IntKind.i64.wrap cyc).tmod (2000 : Int))
(.chk (IntKind.i64 = IntKind.i64 ∧
  (IntKind.i64.wrap cyc).tmod (2000 : Int) = (IntKind.i64.wrap cyc).tmod (2000 : Int))
(.chk (IntKind.i64 = IntKind.i64 ∧ (0 : Int) = (0 : Int))
(.chk (IntKind.u16 = IntKind.u16 ∧ c = c)
(.chk (IntKind.u8 = IntKind.u8 ∧ tima = tima)
(.chk (IntKind.u8 = IntKind.u8 ∧ tma = tma)
(.chk (IntKind.u8 = IntKind.u8 ∧ tac = tac)
(.chk (ov = ov)
(.chk (IntKind.u16 = IntKind.u16 ∧ c = c)
(.chk (IntKind.u8 = IntKind.u8 ∧ tima = tima)
(.chk (IntKind.u8 = IntKind.u8 ∧ tma = tma)
(.chk (IntKind.u8 = IntKind.u8 ∧ tac = tac)
(.chk (ov = ov)
(.chk (d5Inv
  { n := (IntKind.i64.wrap cyc).tmod (2000 : Int), c0 := c, tima0 := tima, tma := tma, tac := tac, ov0 := ov }
  { i := (0 : Int), c := c, tima := tima, ov := ov })
(.all fun x : sym.Got d5X
  (d5Post
    { n := (IntKind.i64.wrap cyc).tmod (2000 : Int), c0 := c, tima0 := tima, tma := tma, tac := tac, ov0 := ov }) =>
 (.chk (TB x.1.2 x.1.3 tma tac)
 (.leaf (.v (.one (.bool false (IntKind.i64.wrap (Tm.rd (0 : Int) x.1.2 x.1.3 tma tac) ==
  (IntKind.i64.wrap
        ((IntKind.i64.wrap
              (IntKind.i64.wrap c +
                IntKind.i64.wrap ((4 : Int) * (IntKind.i64.wrap cyc).tmod (2000 : Int)))).tdiv
          (256 : Int))).tmod
    (256 : Int))))))))))))))))))))))) := by kernel_rfl
def d5Mu (p : d5P) (x : d5X) : Nat := (p.n - x.i).toNat
theorem d5_step (w : World) (p : d5P) (x : d5X) (h : d5Inv p x) : Hid (roundT Try.prog w (flatT Try.prog) (ctrOf table) (callT Try.prog w (flatT Try.prog) (ctrOf table) (noLoop) 20) ((noLoop) 5) (roundOf (bodyAt Try.prog 5 0)) 0 (d5St p) (d5Fin p) d5NxX d5NxX x) (Kept (d5Inv p) (d5Post p) (d5Mu p) x) := by
  obtain ⟨n, c0, tima0, tma, tac, ov0⟩ := p
  obtain ⟨i, c, tima, ov⟩ := x
  constructor
  rw [d5step_tree]
  simp only [T.holds, Kept, d5Mu, and_self, true_and, and_true]
  obtain ⟨h1, h2, h3, h4, h5⟩ := h
  simp only at h1 h2 h3 h4 h5
  refine ⟨fun h => ⟨h5, ?_, ?_⟩, fun h => ?_⟩
  · have hi : i < n := by simpa using h
    have e : IntKind.i64.wrap (i + 1) = i + 1 := Tm.wi64 _ (by omega) (by omega)
    rw [e]
    exact ⟨by show 0 ≤ i + 1; omega, by show i + 1 ≤ n; omega, h3, by show Tm.tkC c = (c0 + 4 * (i + 1)) % 65536; unfold Tm.tkC; rw [h4]; omega, TB_tick h5⟩
  · have hi : i < n := by simpa using h
    have e : IntKind.i64.wrap (i + 1) = i + 1 := Tm.wi64 _ (by omega) (by omega)
    rw [e]
    show (n - (i + 1)).toNat < (n - i).toNat
    omega
  · have hi : ¬ i < n := by simpa using h
    have : i = n := by omega
    subst this
    exact ⟨h4, h5⟩
set_option maxHeartbeats 4000000 in
theorem d5Lp_ok (w0 : World) : d5Lp.ok Try.prog w0 := by
  intro s t h
  unfold d5Lp at h
  simp only at h
  split at h
  · rename_i p _
    split at h
    · rename_i x _
      cases h
      exact loop_ok base2 (table_ok w0) (callT_ok base2.mixed base2.names base2.eqs (table_ok w0).ok (table_ok w0).there (loops_none _ _) 20) ((loops_none _ _) 5) (c := roundOf (bodyAt Try.prog 5 0)) (by kernel_rfl) (id := 0) (n := 2) (st := d5St p) (fin := d5Fin p) (inv := d5Inv p) (post := d5Post p) (nx := d5NxX) (fx := d5NxX) (d5Mu p) (fun x => by kernel_rfl) (fun y => by kernel_rfl) (fun x hx => d5_step w0 p x hx) s x
    · cases h
  · cases h
theorem divides_walk (w : World) (c tima tma tac cyc : Int) (ov : Bool) (hb : TB c tima tma tac) (bx : Tm.W cyc) : Calls Try.prog 5 #[.agg #[.int .u16 c, .int .u8 tima, .int .u8 tma, .int .u8 tac, .bool ov], .int .u16 cyc] w fun e w' => e = .returned (.bool true) ∧ Below w.heap.size w w' := by
  have hl : LcsOk Try.prog w (lpOf Try.prog [d5Lp]) := lps_ok fun l hl => by
    simp only [List.mem_cons, List.not_mem_nil, or_false] at hl
    subst hl
    exact d5Lp_ok w
  refine val_eq base2 (table_ok w) hl (divides_tree w c tima tma tac cyc ov) rfl ?_
  obtain ⟨x1, x2⟩ := bx
  have e1 : IntKind.i64.wrap cyc = cyc := Tm.wi64 _ (by omega) (by omega)
  have em : (IntKind.i64.wrap cyc).tmod 2000 = cyc % 2000 := by rw [e1, Int.tmod_eq_emod_of_nonneg x1]
  simp only [T.holds, and_self, true_and, and_true]
  refine ⟨?_, fun y => ?_⟩
  · simp only [em]
    refine ⟨by show (0:Int) ≤ 0; omega, ?_, ?_, ?_, hb⟩
    · show 0 ≤ cyc % 2000; omega
    · show cyc % 2000 < 2000; omega
    · show c = (c + 4 * 0) % 65536
      obtain ⟨⟨c1, c2⟩, _⟩ := hb
      omega
  · obtain ⟨⟨i, c', tima', ov'⟩, hy⟩ := y
    obtain ⟨h4, h5⟩ := hy
    simp only [em] at h4 h5 ⊢
    have hm : 0 ≤ cyc % 2000 ∧ cyc % 2000 < 2000 := by omega
    generalize cyc % 2000 = m at h4 hm ⊢
    refine ⟨h5, rfl, ?_⟩
    obtain ⟨⟨c1, c2⟩, _⟩ := hb
    have e2 : IntKind.i64.wrap c = c := Tm.wi64 _ (by omega) (by omega)
    have e3 : IntKind.i64.wrap (4 * m) = 4 * m := Tm.wi64 _ (by omega) (by omega)
    have e4 : IntKind.i64.wrap (c + 4 * m) = c + 4 * m := Tm.wi64 _ (by omega) (by omega)
    have e5 : IntKind.i64.wrap ((c + 4 * m) / 256) = (c + 4 * m) / 256 := Tm.wi64 _ (by omega) (by omega)
    have e6 : IntKind.i64.wrap (Tm.rd 0 c' tima' tma tac) = Tm.rd 0 c' tima' tma tac := by
      have := Tm.rd_B (n := 0) h5
      exact Tm.wi64 _ (by omega) (by omega)
    simp only [e2, e3, e4, e6, Int.tdiv_eq_ediv_of_nonneg (show 0 ≤ c + 4 * m by omega), e5, Int.tmod_eq_emod_of_nonneg (show 0 ≤ (c + 4 * m) / 256 by omega)]
    have : Tm.rd 0 c' tima' tma tac = (c + 4 * m) / 256 % 256 := by
      simp only [Tm.rd, if_true, h4]
      omega
    rw [this]
    simp [AV.γ, V.γ, Sc.γ]
end Go.Proofs.Ytobenphpjphdlaa
