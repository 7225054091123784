/-
  JoypadPlans: the given statement: for every input the law returns true, and the input reads as it did. No conditions.
-/
import Derived.Test.YtiafdnihgnjohaaW6
import Derived.WalkKit
import Derived.ProofKit
import Derived.OpenShut
namespace Go.Proofs.Ytiafdnihgnjohaa.joypadPlans
open Go.ChangeShapes Go.WideShapes Go.ChangeAt Go.RowKit
set_option linter.unusedVariables false

set_option maxRecDepth 100000 in
theorem contract (H : Type) (enc : TypeId × Value → H) (W : World) (base : Nat) (args : Array Value) (ds gs : List (DataW H)) (before : List MemPlace)
    (hval : ∀ (j : Nat) t v, Try.f7.params[j]? = some t → args[j]? = some v → Value.okWide Try.prog W .any base t v)
    (hW : DataW.Whole enc Try.prog Try.f7.params.toList Rows.joypadPlansSpec.vars false W args.toList ds gs before) :
    Calls Try.prog 7 args W fun e W' => ∃ v, e = .returned v ∧ Rows.joypadPlansSpec.post enc Try.prog Try.f7 false true false false W args v W' := by
  have hW' := hW
  obtain ⟨p, q, hA0, hV, hpq, hfz, hnd⟩ := hW
  have hA : DataW.TrodAll enc Try.prog W 0 (fun _ => true) true Try.f7.params.toList args.toList ds p := hA0
  rw [Try.params7] at hA hval
  obtain ⟨v0, vs0, d0, ds0, p0, q0, hargs, rfl, rfl, h0, r0⟩ := trodAll_cons hA
  obtain ⟨v1, vs1, d1, ds1, p1, q1, rfl, rfl, rfl, h1, r1⟩ := trodAll_cons r0
  obtain ⟨rfl, rfl, rfl⟩ := trodAll_nil r1
  obtain rfl : args = #[v0, v1] := by cases args; simp_all
  obtain ⟨A0, n0, c0, rfl, cm0, cl0, hs0⟩ := kit.open_structs_any (e := 42) Try.underlying36 Try.underlying42 (by kernel_rfl) (by kernel_rfl) (by decide) (hval 0 36 v0 rfl rfl) h0
  obtain ⟨a1, rfl, rfl, rfl, w1⟩ := open_int Try.underlying37 (hval 1 37 v1 rfl rfl) h1
  have hB : Changes W A0 n0 (fun j => (kit.cellInt W A0 (j * 2 + 0)).toNat) (fun j => (kit.cellInt W A0 (j * 2 + 1)).toNat) := ⟨fun k hk => by
      obtain ⟨b, off, e, hb, _⟩ := hs0 k hk
      refine ⟨b, off, e, hb, fun j hj => ?_⟩
      obtain ⟨g0, f0⟩ := kit.structs_int hs0 (q := 0) rfl Try.underlying37 e j hj
      obtain ⟨g1, f1⟩ := kit.structs_int hs0 (q := 1) rfl Try.underlying5 e j hj
      simp [Lit.wf, IntKind.min, IntKind.max, IntKind.signed, IntKind.bits] at f0 f1
      rw [Int.toNat_of_nonneg (by simpa using f0.1), Int.toNat_of_nonneg (by simpa using f1.1)]
      exact ⟨by simpa using g0, by simpa [Nat.add_assoc] using g1⟩⟩
  obtain ⟨n, rfl⟩ : ∃ n : Nat, a1 = (n : Int) := ⟨a1.toNat, by have := w1; simp [Lit.wf, IntKind.min, IntKind.max, IntKind.signed, IntKind.bits] at this; omega⟩
  refine (plans_walk A0 n0 c0 n _ _ (by have := cm0; unfold maxLen at this; omega) W hB).mono fun e W' ⟨he, hb⟩ => ?_
  subst he
  exact ⟨_, rfl, kit.law_post kit.laidOut (by kernel_rfl) (by kernel_rfl) Try.underlying4 rfl hW' rfl hb⟩

set_option maxRecDepth 100000 in
theorem lifted (os : Os) (started : os.Started) (H : Type) (enc : TypeId × Value → H) :
    ReturnsInHanded {} Try.checked os 7 .any (Rows.joypadPlansSpec.pre6 enc Try.prog Try.f7 Rows.joypadPlansRow.domain false) (Rows.joypadPlansSpec.post enc Try.prog Try.f7 false true false false) := by
  refine returnsInHanded_of_change (C := Try.checked) kit.own started (by kernel_rfl) Try.func7
    (ChangeSpec.witness6 (enc := enc) (C := Try.checked) false ⟨#[], #[.slice none 0 0, .int .u64 0], []⟩ 8 (by kernel_rfl) (by kernel_rfl) (by kernel_rfl) (by kernel_rfl)) ?_
  intro W base args ds gs before hval hW _ _
  exact contract H enc W base args ds gs before hval hW

theorem proved : Rows.JoypadPlansSaid :=
  OpenClaim.holds_of_wide 7 Try.f7 rfl rfl rfl rfl rfl rfl rfl ⟨rfl, rfl, rfl, rfl, rfl⟩ rfl rfl rfl rfl rfl (by kernel_rfl) Try.func7 (by kernel_rfl)
    (of_decide_eq_true (by kernel_rfl)) (by unfold Func.isWrapper; first | (rw [if_pos (by decide +kernel)]; kernel_rfl) | (rw [if_neg (by decide +kernel)]; exact ⟨rfl, rfl⟩))
    (fun os started H enc _ => lifted os started H enc)
end Go.Proofs.Ytiafdnihgnjohaa.joypadPlans
