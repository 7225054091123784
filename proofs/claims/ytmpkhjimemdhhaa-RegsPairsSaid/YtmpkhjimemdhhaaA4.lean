/-
  Walk of the statement of the pairs: a pair set is the pair read, low nibble of flags gone; others stand.
-/
import Derived.Test.YtmpkhjimemdhhaaA3
namespace Go.Proofs.Ytmpkhjimemdhhaa
open Go.RowKit sym
set_option linter.unusedVariables false
set_option linter.unusedSimpArgs false
set_option maxRecDepth 100000
theorem nib (a : Nat) (h : a < 256) : a &&& 240 = a / 16 * 16 := by
  have : ∀ a : Fin 256, a.val &&& 240 = a.val / 16 * 16 := by decide
  exact this ⟨a, h⟩
theorem up8 {x : Int} (h : Rg.B x) : bits .andNot .u8 x 15 = Rg.up x := by
  obtain ⟨h1, h2⟩ := h
  rw [u8_andNot x 15 h1 h2 (by omega) (by omega)]
  show ((x.toNat &&& 240 : Nat) : Int) = x / 16 * 16
  rw [nib _ (by omega)]; omega
theorem join16 {x : Int} (h : Rg.W x) : bits .or .u16 (x / 256 % 65536 * 256 % 65536) (x % 256 % 65536) = x := by
  have e := Rg.borw (hi_B h) (lo_B h)
  rw [show (2 : Int) ^ 8 = 256 from rfl] at e
  rw [e]; unfold Rg.pw; omega
theorem byte_hi {x : Int} (hx : Rg.W x) : IntKind.u8.wrap (x.fdiv ((2 : Int) ^ (8 : Nat))) = x / 256 := by
  rw [Int.fdiv_eq_ediv_of_nonneg _ (by decide), Rg.wu8]
  have := hx.1; have := hx.2
  show x / 256 % 256 = x / 256
  omega

set_option maxHeartbeats 16000000 in
theorem pairs_walk (w : World) (a f b c d e h l sp pc n k x : Int) (hr : RB a f b c d e h l sp pc) (bn : Rg.B n) (bk : Rg.B k) (bx : Rg.W x) : Calls Try.prog 8 #[.agg #[.int .u8 a, .int .u8 f, .int .u8 b, .int .u8 c, .int .u8 d, .int .u8 e, .int .u8 h, .int .u8 l, .int .u16 sp, .int .u16 pc], .int .u8 n, .int .u8 k, .int .u16 x] w fun e w' => e = .returned (.bool true) ∧ Below w.heap.size w w' := by
  refine val_eq base2 (table_ok w) (loops_none _ _) (pairs_tree w a f b c d e h l sp pc n k x) rfl ?_
  have e16 : bits .andNot .u16 x 15 = Rg.up x := Rg.bandn bx
  have e8 : bits .andNot .u8 (IntKind.u8.wrap x) 15 = Rg.up (x % 256) := by rw [Rg.wu8]; exact up8 (lo_B bx)
  have ej : x / 256 * 256 + x % 256 = x := by omega
  have eo : bits .or .u16 (x / 256 % 65536 * 256 % 65536) (x % 256 % 65536) = x := join16 bx
  simp only [byte_hi bx, e16, e8]
  obtain ⟨x1, x2⟩ := bx
  have bx : Rg.W x := ⟨x1, x2⟩
  simp (disch := omega) only [T.holds, Int.tdiv_eq_ediv_of_nonneg, Int.tmod_eq_emod_of_nonneg, Rg.wu8, Rg.wu16, Rg.wi64, beq_iff_eq, decide_eq_true_eq, decide_eq_false_iff_not, beq_eq_false_iff_ne, Bool.not_eq_true', Bool.not_eq_false', ne_eq, Int.fdiv_eq_ediv_of_nonneg, bne_self_eq_false, beq_self_eq_true, Bool.not_true, Bool.and_true, Bool.true_and, Bool.false_eq_true, false_implies, true_implies, and_true, true_and, not_true_eq_false]
  have hi : 0 ≤ n % 5 ∧ n % 5 < 5 := by omega
  have hj : 0 ≤ k % 5 ∧ k % 5 < 5 := by omega
  generalize n % 5 = i at *
  generalize k % 5 = j at *
  have ci : i = 0 ∨ i = 1 ∨ i = 2 ∨ i = 3 ∨ i = 4 := by omega
  have cj : j = 0 ∨ j = 1 ∨ j = 2 ∨ j = 3 ∨ j = 4 := by omega
  have hs := tv_RB (n := i) hr bx
  clear hi hj
  rcases ci with rfl | rfl | rfl | rfl | rfl <;> rcases cj with rfl | rfl | rfl | rfl | rfl
  all_goals
    refine ⟨⟨hr, bx⟩, hs, hs, hr, ?_⟩
    simp [Rg.tv, Rg.pe] at hs
    simp [AV.γ, V.γ, Sc.γ, AV.own, AV.wf, V.wf, Sc.wf, Rg.tv, Rg.pe, Rg.pv, Rg.pw, Rg.gv, Rg.ge, e16, e8, ej, eo, hs]
  all_goals (repeat' (first | refine And.intro ?_ ?_ | intro _))
  all_goals first | exact hs | omega | (unfold Rg.up at *; omega)
end Go.Proofs.Ytmpkhjimemdhhaa
