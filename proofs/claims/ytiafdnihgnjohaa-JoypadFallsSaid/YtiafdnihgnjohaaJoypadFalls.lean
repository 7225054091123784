/-
  JoypadFalls: the given statement: for every input the law returns true, and the input reads as it did. No conditions.
-/
import Derived.Test.YtiafdnihgnjohaaW3
import Derived.WalkKit
import Derived.ProofKit
import Derived.OpenShut
namespace Go.Proofs.Ytiafdnihgnjohaa.joypadFalls
open Go.ChangeShapes Go.WideShapes Go.ChangeAt Go.RowKit
set_option linter.unusedVariables false

set_option maxRecDepth 100000 in
theorem contract (H : Type) (enc : TypeId × Value → H) (W : World) (base : Nat) (args : Array Value) (ds gs : List (DataW H)) (before : List MemPlace)
    (hval : ∀ (j : Nat) t v, Try.f5.params[j]? = some t → args[j]? = some v → Value.okWide Try.prog W .any base t v)
    (hW : DataW.Whole enc Try.prog Try.f5.params.toList Rows.joypadFallsSpec.vars false W args.toList ds gs before) :
    Calls Try.prog 5 args W fun e W' => ∃ v, e = .returned v ∧ Rows.joypadFallsSpec.post enc Try.prog Try.f5 false true false false W args v W' := by
  have hW' := hW
  obtain ⟨p, q, hA0, hV, hpq, hfz, hnd⟩ := hW
  have hA : DataW.TrodAll enc Try.prog W 0 (fun _ => true) true Try.f5.params.toList args.toList ds p := hA0
  rw [Try.params5] at hA hval
  obtain ⟨v0, vs0, d0, ds0, p0, q0, hargs, rfl, rfl, h0, r0⟩ := trodAll_cons hA
  obtain ⟨v1, vs1, d1, ds1, p1, q1, rfl, rfl, rfl, h1, r1⟩ := trodAll_cons r0
  obtain ⟨v2, vs2, d2, ds2, p2, q2, rfl, rfl, rfl, h2, r2⟩ := trodAll_cons r1
  obtain ⟨rfl, rfl, rfl⟩ := trodAll_nil r2
  obtain rfl : args = #[v0, v1, v2] := by cases args; simp_all
  obtain ⟨cs0, rfl, len0, cell0⟩ := kit.open_row (ts := [5, 5]) (by kernel_rfl) (by kernel_rfl) (by kernel_rfl) (hval 0 28 v0 rfl rfl)
  obtain ⟨c0_0, e0_0, k0_0⟩ := cell0 0 5 rfl
  obtain ⟨c0_1, e0_1, k0_1⟩ := cell0 1 5 rfl
  obtain ⟨a0_0, rfl, w0_0⟩ := kit.cell_int Try.underlying5 k0_0
  obtain ⟨a0_1, rfl, w0_1⟩ := kit.cell_int Try.underlying5 k0_1
  obtain rfl : cs0 = [.int .u8 a0_0, .int .u8 a0_1] := by
    refine List.ext_getElem? fun i => ?_
    match i with
    | 0 => exact e0_0
    | 1 => exact e0_1
    | i + 2 => rw [List.getElem?_eq_none (by rw [len0]; simp), List.getElem?_eq_none (by simp)]
  obtain ⟨a1, rfl, rfl, rfl, w1⟩ := open_int Try.underlying5 (hval 1 5 v1 rfl rfl) h1
  obtain ⟨a2, rfl, rfl, rfl, w2⟩ := open_int Try.underlying5 (hval 2 5 v2 rfl rfl) h2
  obtain ⟨a0_0, rfl, a0_0b⟩ : ∃ n : Nat, a0_0 = (n : Int) ∧ n < 256 := ⟨a0_0.toNat, by have := w0_0; simp [Lit.wf, IntKind.min, IntKind.max, IntKind.signed, IntKind.bits] at this; omega, by have := w0_0; simp [Lit.wf, IntKind.min, IntKind.max, IntKind.signed, IntKind.bits] at this; omega⟩
  obtain ⟨a0_1, rfl, a0_1b⟩ : ∃ n : Nat, a0_1 = (n : Int) ∧ n < 256 := ⟨a0_1.toNat, by have := w0_1; simp [Lit.wf, IntKind.min, IntKind.max, IntKind.signed, IntKind.bits] at this; omega, by have := w0_1; simp [Lit.wf, IntKind.min, IntKind.max, IntKind.signed, IntKind.bits] at this; omega⟩
  obtain ⟨a1, rfl, a1b⟩ : ∃ n : Nat, a1 = (n : Int) ∧ n < 256 := ⟨a1.toNat, by have := w1; simp [Lit.wf, IntKind.min, IntKind.max, IntKind.signed, IntKind.bits] at this; omega, by have := w1; simp [Lit.wf, IntKind.min, IntKind.max, IntKind.signed, IntKind.bits] at this; omega⟩
  obtain ⟨a2, rfl, a2b⟩ : ∃ n : Nat, a2 = (n : Int) ∧ n < 256 := ⟨a2.toNat, by have := w2; simp [Lit.wf, IntKind.min, IntKind.max, IntKind.signed, IntKind.bits] at this; omega, by have := w2; simp [Lit.wf, IntKind.min, IntKind.max, IntKind.signed, IntKind.bits] at this; omega⟩
  refine (falls_walk a0_0 a0_1 a1 a2 a0_0b a0_1b a1b a2b W).mono fun e W' ⟨he, hb⟩ => ?_
  subst he
  exact ⟨_, rfl, kit.law_post kit.laidOut (by kernel_rfl) (by kernel_rfl) Try.underlying4 rfl hW' rfl hb⟩

set_option maxRecDepth 100000 in
theorem lifted (os : Os) (started : os.Started) (H : Type) (enc : TypeId × Value → H) :
    ReturnsInHanded {} Try.checked os 5 .any (Rows.joypadFallsSpec.pre6 enc Try.prog Try.f5 Rows.joypadFallsRow.domain false) (Rows.joypadFallsSpec.post enc Try.prog Try.f5 false true false false) := by
  refine returnsInHanded_of_change (C := Try.checked) kit.own started (by kernel_rfl) Try.func5
    (ChangeSpec.witness6 (enc := enc) (C := Try.checked) false ⟨#[], #[.agg #[.int .u8 0, .int .u8 0], .int .u8 0, .int .u8 0], []⟩ 8 (by kernel_rfl) (by kernel_rfl) (by kernel_rfl) (by kernel_rfl)) ?_
  intro W base args ds gs before hval hW _ _
  exact contract H enc W base args ds gs before hval hW

theorem proved : Rows.JoypadFallsSaid :=
  OpenClaim.holds_of_wide 5 Try.f5 rfl rfl rfl rfl rfl rfl rfl ⟨rfl, rfl, rfl, rfl, rfl⟩ rfl rfl rfl rfl rfl (by kernel_rfl) Try.func5 (by kernel_rfl)
    (of_decide_eq_true (by kernel_rfl)) (by unfold Func.isWrapper; first | (rw [if_pos (by decide +kernel)]; kernel_rfl) | (rw [if_neg (by decide +kernel)]; exact ⟨rfl, rfl⟩))
    (fun os started H enc _ => lifted os started H enc)
end Go.Proofs.Ytiafdnihgnjohaa.joypadFalls
