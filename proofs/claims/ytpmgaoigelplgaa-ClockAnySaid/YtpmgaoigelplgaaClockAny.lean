/-
  ClockAny: the given statement: for every input the law returns true, and the input reads as it did. No conditions.
-/
import Derived.Test.YtpmgaoigelplgaaA5
import Derived.WalkKit
import Derived.ProofKit
import Derived.OpenShut
namespace Go.Proofs.Ytpmgaoigelplgaa.clockAny
open Go.ChangeShapes Go.WideShapes Go.ChangeAt Go.RowKit
set_option linter.unusedVariables false

set_option maxRecDepth 100000 in
theorem contract (H : Type) (enc : TypeId × Value → H) (W : World) (base : Nat) (args : Array Value) (ds gs : List (DataW H)) (before : List MemPlace)
    (hval : ∀ (j : Nat) t v, Try.f5.params[j]? = some t → args[j]? = some v → Value.okWide Try.prog W .any base t v)
    (hW : DataW.Whole enc Try.prog Try.f5.params.toList Rows.clockAnySpec.vars false W args.toList ds gs before) :
    Calls Try.prog 5 args W fun e W' => ∃ v, e = .returned v ∧ Rows.clockAnySpec.post enc Try.prog Try.f5 false true false false W args v W' := by
  have hW' := hW
  obtain ⟨p, q, hA0, hV, hpq, hfz, hnd⟩ := hW
  have hA : DataW.TrodAll enc Try.prog W 0 (fun _ => true) true Try.f5.params.toList args.toList ds p := hA0
  rw [Try.params5] at hA hval
  obtain ⟨v0, vs0, d0, ds0, p0, q0, hargs, rfl, rfl, h0, r0⟩ := trodAll_cons hA
  obtain ⟨v1, vs1, d1, ds1, p1, q1, rfl, rfl, rfl, h1, r1⟩ := trodAll_cons r0
  obtain ⟨rfl, rfl, rfl⟩ := trodAll_nil r1
  obtain rfl : args = #[v0, v1] := by cases args; simp_all
  obtain ⟨cs0, rfl, len0, cell0⟩ := kit.open_row (ts := [5, 5, 5, 3, 3, 4, 4, 5, 5, 5, 5, 5]) (by kernel_rfl) (by kernel_rfl) (by kernel_rfl) (hval 0 30 v0 rfl rfl)
  obtain ⟨c0_0, e0_0, k0_0⟩ := cell0 0 5 rfl
  obtain ⟨c0_1, e0_1, k0_1⟩ := cell0 1 5 rfl
  obtain ⟨c0_2, e0_2, k0_2⟩ := cell0 2 5 rfl
  obtain ⟨c0_3, e0_3, k0_3⟩ := cell0 3 3 rfl
  obtain ⟨c0_4, e0_4, k0_4⟩ := cell0 4 3 rfl
  obtain ⟨c0_5, e0_5, k0_5⟩ := cell0 5 4 rfl
  obtain ⟨c0_6, e0_6, k0_6⟩ := cell0 6 4 rfl
  obtain ⟨c0_7, e0_7, k0_7⟩ := cell0 7 5 rfl
  obtain ⟨c0_8, e0_8, k0_8⟩ := cell0 8 5 rfl
  obtain ⟨c0_9, e0_9, k0_9⟩ := cell0 9 5 rfl
  obtain ⟨c0_10, e0_10, k0_10⟩ := cell0 10 5 rfl
  obtain ⟨c0_11, e0_11, k0_11⟩ := cell0 11 5 rfl
  obtain ⟨a0_0, rfl, w0_0⟩ := kit.cell_int Try.underlying5 k0_0
  obtain ⟨a0_1, rfl, w0_1⟩ := kit.cell_int Try.underlying5 k0_1
  obtain ⟨a0_2, rfl, w0_2⟩ := kit.cell_int Try.underlying5 k0_2
  obtain ⟨a0_3, rfl, w0_3⟩ := kit.cell_int Try.underlying3 k0_3
  obtain ⟨a0_4, rfl, w0_4⟩ := kit.cell_int Try.underlying3 k0_4
  obtain ⟨a0_5, rfl⟩ := kit.cell_bool Try.underlying4 k0_5
  obtain ⟨a0_6, rfl⟩ := kit.cell_bool Try.underlying4 k0_6
  obtain ⟨a0_7, rfl, w0_7⟩ := kit.cell_int Try.underlying5 k0_7
  obtain ⟨a0_8, rfl, w0_8⟩ := kit.cell_int Try.underlying5 k0_8
  obtain ⟨a0_9, rfl, w0_9⟩ := kit.cell_int Try.underlying5 k0_9
  obtain ⟨a0_10, rfl, w0_10⟩ := kit.cell_int Try.underlying5 k0_10
  obtain ⟨a0_11, rfl, w0_11⟩ := kit.cell_int Try.underlying5 k0_11
  obtain rfl : cs0 = [.int .u8 a0_0, .int .u8 a0_1, .int .u8 a0_2, .int .i64 a0_3, .int .i64 a0_4, .bool a0_5, .bool a0_6, .int .u8 a0_7, .int .u8 a0_8, .int .u8 a0_9, .int .u8 a0_10, .int .u8 a0_11] := by
    refine List.ext_getElem? fun i => ?_
    match i with
    | 0 => exact e0_0
    | 1 => exact e0_1
    | 2 => exact e0_2
    | 3 => exact e0_3
    | 4 => exact e0_4
    | 5 => exact e0_5
    | 6 => exact e0_6
    | 7 => exact e0_7
    | 8 => exact e0_8
    | 9 => exact e0_9
    | 10 => exact e0_10
    | 11 => exact e0_11
    | i + 12 => rw [List.getElem?_eq_none (by rw [len0]; simp), List.getElem?_eq_none (by simp)]
  obtain ⟨cs1, rfl, len1, cell1⟩ := kit.open_row (ts := [3, 3, 5]) (by kernel_rfl) (by kernel_rfl) (by kernel_rfl) (hval 1 33 v1 rfl rfl)
  obtain ⟨c1_0, e1_0, k1_0⟩ := cell1 0 3 rfl
  obtain ⟨c1_1, e1_1, k1_1⟩ := cell1 1 3 rfl
  obtain ⟨c1_2, e1_2, k1_2⟩ := cell1 2 5 rfl
  obtain ⟨a1_0, rfl, w1_0⟩ := kit.cell_int Try.underlying3 k1_0
  obtain ⟨a1_1, rfl, w1_1⟩ := kit.cell_int Try.underlying3 k1_1
  obtain ⟨a1_2, rfl, w1_2⟩ := kit.cell_int Try.underlying5 k1_2
  obtain rfl : cs1 = [.int .i64 a1_0, .int .i64 a1_1, .int .u8 a1_2] := by
    refine List.ext_getElem? fun i => ?_
    match i with
    | 0 => exact e1_0
    | 1 => exact e1_1
    | 2 => exact e1_2
    | i + 3 => rw [List.getElem?_eq_none (by rw [len1]; simp), List.getElem?_eq_none (by simp)]
  refine (any_walk W a0_0 a0_1 a0_2 a0_3 a0_4 a0_5 a0_6 a0_7 a0_8 a0_9 a0_10 a0_11 a1_0 a1_1 a1_2 (by have := w0_0; simp [Lit.wf, IntKind.min, IntKind.max, IntKind.signed, IntKind.bits] at this; exact ⟨by omega, by omega⟩) (by have := w0_1; simp [Lit.wf, IntKind.min, IntKind.max, IntKind.signed, IntKind.bits] at this; exact ⟨by omega, by omega⟩) (by have := w0_2; simp [Lit.wf, IntKind.min, IntKind.max, IntKind.signed, IntKind.bits] at this; exact ⟨by omega, by omega⟩) (by have := w1_2; simp [Lit.wf, IntKind.min, IntKind.max, IntKind.signed, IntKind.bits] at this; exact ⟨by omega, by omega⟩)).mono fun e W' ⟨he, hb⟩ => ?_
  subst he
  exact ⟨_, rfl, kit.law_post kit.laidOut (by kernel_rfl) (by kernel_rfl) Try.underlying4 rfl hW' rfl hb⟩

set_option maxRecDepth 100000 in
theorem lifted (os : Os) (started : os.Started) (H : Type) (enc : TypeId × Value → H) :
    ReturnsInHanded {} Try.checked os 5 .any (Rows.clockAnySpec.pre6 enc Try.prog Try.f5 Rows.clockAnyRow.domain false) (Rows.clockAnySpec.post enc Try.prog Try.f5 false true false false) := by
  refine returnsInHanded_of_change (C := Try.checked) kit.own started (by kernel_rfl) Try.func5
    (ChangeSpec.witness6 (enc := enc) (C := Try.checked) false ⟨#[], #[.agg #[.int .u8 0, .int .u8 0, .int .u8 0, .int .i64 0, .int .i64 0, .bool false, .bool false, .int .u8 0, .int .u8 0, .int .u8 0, .int .u8 0, .int .u8 0], .agg #[.int .i64 0, .int .i64 0, .int .u8 0]], []⟩ 8 (by kernel_rfl) (by kernel_rfl) (by kernel_rfl) (by kernel_rfl)) ?_
  intro W base args ds gs before hval hW _ _
  exact contract H enc W base args ds gs before hval hW

theorem proved : Rows.ClockAnySaid :=
  OpenClaim.holds_of_wide 5 Try.f5 rfl rfl rfl rfl rfl rfl rfl ⟨rfl, rfl, rfl, rfl, rfl⟩ rfl rfl rfl rfl rfl (by kernel_rfl) Try.func5 (by kernel_rfl)
    (of_decide_eq_true (by kernel_rfl)) (by unfold Func.isWrapper; first | (rw [if_pos (by decide +kernel)]; kernel_rfl) | (rw [if_neg (by decide +kernel)]; exact ⟨rfl, rfl⟩))
    (fun os started H enc _ => lifted os started H enc)
end Go.Proofs.Ytpmgaoigelplgaa.clockAny
