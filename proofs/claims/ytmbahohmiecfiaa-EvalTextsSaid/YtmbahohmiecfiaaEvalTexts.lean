/-
  EvalTexts: the given statement: for every input the law returns true, and the input reads as it did. No conditions.
-/
import Derived.Test.YtmbahohmiecfiaaR15
import Derived.Test.YtmbahohmiecfiaaK2
import Derived.WalkKit
import Derived.ProofKit
import Derived.OpenShut
namespace Go.Proofs.Ytmbahohmiecfiaa.evalTexts
open Go.ChangeShapes Go.WideShapes Go.ChangeAt Go.RowKit
set_option linter.unusedVariables false

set_option maxRecDepth 100000 in
theorem contract (H : Type) (enc : TypeId × Value → H) (W : World) (base : Nat) (args : Array Value) (ds gs : List (DataW H)) (before : List MemPlace)
    (hval : ∀ (j : Nat) t v, Try.f4.params[j]? = some t → args[j]? = some v → Value.okWide Try.prog W .any base t v)
    (hW : DataW.Whole enc Try.prog Try.f4.params.toList Rows.evalTextsSpec.vars false W args.toList ds gs before) :
    Calls Try.prog 4 args W fun e W' => ∃ v, e = .returned v ∧ Rows.evalTextsSpec.post enc Try.prog Try.f4 false true false false W args v W' := by
  have hW' := hW
  obtain ⟨p, q, hA0, hV, hpq, hfz, hnd⟩ := hW
  have hA : DataW.TrodAll enc Try.prog W 0 (fun _ => true) true Try.f4.params.toList args.toList ds p := hA0
  rw [Try.params4] at hA hval
  obtain ⟨v0, vs0, d0, ds0, p0, q0, hargs, rfl, rfl, h0, r0⟩ := trodAll_cons hA
  obtain ⟨v1, vs1, d1, ds1, p1, q1, rfl, rfl, rfl, h1, r1⟩ := trodAll_cons r0
  obtain ⟨rfl, rfl, rfl⟩ := trodAll_nil r1
  obtain rfl : args = #[v0, v1] := by cases args; simp_all
  obtain ⟨cs1, rfl, len1, cell1⟩ := kit.open_row (ts := [5, 5, 5, 5, 5, 5, 5, 5, 23, 23, 3, 3, 3, 3, 26]) (by kernel_rfl) (by kernel_rfl) (by kernel_rfl) (hval 1 28 v1 rfl rfl)
  obtain ⟨c1_0, e1_0, k1_0⟩ := cell1 0 5 rfl
  obtain ⟨c1_1, e1_1, k1_1⟩ := cell1 1 5 rfl
  obtain ⟨c1_2, e1_2, k1_2⟩ := cell1 2 5 rfl
  obtain ⟨c1_3, e1_3, k1_3⟩ := cell1 3 5 rfl
  obtain ⟨c1_4, e1_4, k1_4⟩ := cell1 4 5 rfl
  obtain ⟨c1_5, e1_5, k1_5⟩ := cell1 5 5 rfl
  obtain ⟨c1_6, e1_6, k1_6⟩ := cell1 6 5 rfl
  obtain ⟨c1_7, e1_7, k1_7⟩ := cell1 7 5 rfl
  obtain ⟨c1_8, e1_8, k1_8⟩ := cell1 8 23 rfl
  obtain ⟨c1_9, e1_9, k1_9⟩ := cell1 9 23 rfl
  obtain ⟨c1_10, e1_10, k1_10⟩ := cell1 10 3 rfl
  obtain ⟨c1_11, e1_11, k1_11⟩ := cell1 11 3 rfl
  obtain ⟨c1_12, e1_12, k1_12⟩ := cell1 12 3 rfl
  obtain ⟨c1_13, e1_13, k1_13⟩ := cell1 13 3 rfl
  obtain ⟨c1_14, e1_14, k1_14⟩ := cell1 14 26 rfl
  obtain ⟨a1_0, rfl, w1_0⟩ := kit.cell_int Try.underlying5 k1_0
  obtain ⟨a1_1, rfl, w1_1⟩ := kit.cell_int Try.underlying5 k1_1
  obtain ⟨a1_2, rfl, w1_2⟩ := kit.cell_int Try.underlying5 k1_2
  obtain ⟨a1_3, rfl, w1_3⟩ := kit.cell_int Try.underlying5 k1_3
  obtain ⟨a1_4, rfl, w1_4⟩ := kit.cell_int Try.underlying5 k1_4
  obtain ⟨a1_5, rfl, w1_5⟩ := kit.cell_int Try.underlying5 k1_5
  obtain ⟨a1_6, rfl, w1_6⟩ := kit.cell_int Try.underlying5 k1_6
  obtain ⟨a1_7, rfl, w1_7⟩ := kit.cell_int Try.underlying5 k1_7
  obtain ⟨a1_8, rfl, w1_8⟩ := kit.cell_int Try.underlying23 k1_8
  obtain ⟨a1_9, rfl, w1_9⟩ := kit.cell_int Try.underlying23 k1_9
  obtain ⟨a1_10, rfl, w1_10⟩ := kit.cell_int Try.underlying3 k1_10
  obtain ⟨a1_11, rfl, w1_11⟩ := kit.cell_int Try.underlying3 k1_11
  obtain ⟨a1_12, rfl, w1_12⟩ := kit.cell_int Try.underlying3 k1_12
  obtain ⟨a1_13, rfl, w1_13⟩ := kit.cell_int Try.underlying3 k1_13
  obtain rfl : cs1 = [.int .u8 a1_0, .int .u8 a1_1, .int .u8 a1_2, .int .u8 a1_3, .int .u8 a1_4, .int .u8 a1_5, .int .u8 a1_6, .int .u8 a1_7, .int .u16 a1_8, .int .u16 a1_9, .int .i64 a1_10, .int .i64 a1_11, .int .i64 a1_12, .int .i64 a1_13, c1_14] := by
    refine List.ext_getElem? fun i => ?_
    match i with
    | 0 => exact e1_0
    | 1 => exact e1_1
    | 2 => exact e1_2
    | 3 => exact e1_3
    | 4 => exact e1_4
    | 5 => exact e1_5
    | 6 => exact e1_6
    | 7 => exact e1_7
    | 8 => exact e1_8
    | 9 => exact e1_9
    | 10 => exact e1_10
    | 11 => exact e1_11
    | 12 => exact e1_12
    | 13 => exact e1_13
    | 14 => exact e1_14
    | i + 15 => rw [List.getElem?_eq_none (by rw [len1]; simp), List.getElem?_eq_none (by simp)]
  obtain ⟨A1, n1, c1, z1, rfl, cm1, cl1, wz1, hz1⟩ := open_ints_cell (e := 5) (j := 5) (o := 14) Try.underlying28 rfl rfl rfl Try.underlying26 Try.underlying5 (by kernel_rfl) (by kernel_rfl) rfl h1
  obtain ⟨tx, rfl⟩ := okWide_string Try.underlying9 (hval 0 9 v0 rfl rfl)
  have hX1 : sym.XR W A1 [.u8] (ofF n1 z1) n1 := ⟨by simp [ofF_length], fun i hi => by
      rw [ofF_length] at hi
      obtain ⟨b, off, e, hb, hc⟩ := hz1 i hi
      refine ⟨b, off, e, hb, ?_⟩
      rw [ofF_get hi]
      simpa [Nat.mod_one] using hc i hi⟩
  have hB1 : Bs (ofF n1 z1) := ofF_B fun i => by
      have := wz1 i
      simp [Lit.wf, IntKind.min, IntKind.max, IntKind.signed, IntKind.bits] at this
      exact ⟨by omega, by omega⟩
  refine (texts_walk W tx a1_0 a1_1 a1_2 a1_3 a1_4 a1_5 a1_6 a1_7 a1_8 a1_9 a1_10 a1_11 a1_12 a1_13 A1 _ n1 c1 ⟨⟨(by have := w1_0; simp [Lit.wf, IntKind.min, IntKind.max, IntKind.signed, IntKind.bits] at this; exact ⟨by omega, by omega⟩), (by have := w1_1; simp [Lit.wf, IntKind.min, IntKind.max, IntKind.signed, IntKind.bits] at this; exact ⟨by omega, by omega⟩), (by have := w1_2; simp [Lit.wf, IntKind.min, IntKind.max, IntKind.signed, IntKind.bits] at this; exact ⟨by omega, by omega⟩), (by have := w1_3; simp [Lit.wf, IntKind.min, IntKind.max, IntKind.signed, IntKind.bits] at this; exact ⟨by omega, by omega⟩), (by have := w1_4; simp [Lit.wf, IntKind.min, IntKind.max, IntKind.signed, IntKind.bits] at this; exact ⟨by omega, by omega⟩), (by have := w1_5; simp [Lit.wf, IntKind.min, IntKind.max, IntKind.signed, IntKind.bits] at this; exact ⟨by omega, by omega⟩), (by have := w1_6; simp [Lit.wf, IntKind.min, IntKind.max, IntKind.signed, IntKind.bits] at this; exact ⟨by omega, by omega⟩), (by have := w1_7; simp [Lit.wf, IntKind.min, IntKind.max, IntKind.signed, IntKind.bits] at this; exact ⟨by omega, by omega⟩)⟩, ⟨(by have := w1_8; simp [Lit.wf, IntKind.min, IntKind.max, IntKind.signed, IntKind.bits] at this; exact ⟨by omega, by omega⟩), (by have := w1_9; simp [Lit.wf, IntKind.min, IntKind.max, IntKind.signed, IntKind.bits] at this; exact ⟨by omega, by omega⟩)⟩, (by have := w1_10; simp [Lit.wf, IntKind.min, IntKind.max, IntKind.signed, IntKind.bits] at this; exact ⟨by omega, by omega⟩), (by have := w1_11; simp [Lit.wf, IntKind.min, IntKind.max, IntKind.signed, IntKind.bits] at this; exact ⟨by omega, by omega⟩), (by have := w1_12; simp [Lit.wf, IntKind.min, IntKind.max, IntKind.signed, IntKind.bits] at this; exact ⟨by omega, by omega⟩), (by have := w1_13; simp [Lit.wf, IntKind.min, IntKind.max, IntKind.signed, IntKind.bits] at this; exact ⟨by omega, by omega⟩)⟩ hX1 hB1).mono fun e W' ⟨he, hb⟩ => ?_
  subst he
  exact ⟨_, rfl, kit.law_post kit.laidOut (by kernel_rfl) (by kernel_rfl) Try.underlying4 rfl hW' rfl hb⟩

set_option maxRecDepth 100000 in
theorem lifted (os : Os) (started : os.Started) (H : Type) (enc : TypeId × Value → H) :
    ReturnsInHanded {} Try.checked os 4 .any (Rows.evalTextsSpec.pre6 enc Try.prog Try.f4 Rows.evalTextsRow.domain false) (Rows.evalTextsSpec.post enc Try.prog Try.f4 false true false false) := by
  refine returnsInHanded_of_change (C := Try.checked) kit.own started (by kernel_rfl) Try.func4
    (ChangeSpec.witness6 (enc := enc) (C := Try.checked) false ⟨#[], #[.string ⟨#[]⟩, .agg #[.int .u8 0, .int .u8 0, .int .u8 0, .int .u8 0, .int .u8 0, .int .u8 0, .int .u8 0, .int .u8 0, .int .u16 0, .int .u16 0, .int .i64 0, .int .i64 0, .int .i64 0, .int .i64 0, .slice none 0 0]], []⟩ 8 (by kernel_rfl) (by kernel_rfl) (by kernel_rfl) (by kernel_rfl)) ?_
  intro W base args ds gs before hval hW _ _
  exact contract H enc W base args ds gs before hval hW

theorem proved : Rows.EvalTextsSaid :=
  OpenClaim.holds_of_wide 4 Try.f4 rfl rfl rfl rfl rfl rfl rfl ⟨rfl, rfl, rfl, rfl, rfl⟩ rfl rfl rfl rfl rfl (by kernel_rfl) Try.func4 (by kernel_rfl)
    (of_decide_eq_true (by kernel_rfl)) (by unfold Func.isWrapper; first | (rw [if_pos (by decide +kernel)]; kernel_rfl) | (rw [if_neg (by decide +kernel)]; exact ⟨rfl, rfl⟩))
    (fun os started H enc _ => lifted os started H enc)
end Go.Proofs.Ytmbahohmiecfiaa.evalTexts
