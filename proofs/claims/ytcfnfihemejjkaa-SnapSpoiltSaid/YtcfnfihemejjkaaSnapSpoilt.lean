/-
  SnapSpoilt: the given statement: for every input the law returns true, and the input reads as it did. No conditions.
-/
import Derived.Test.YtcfnfihemejjkaaR11
import Derived.WalkKit
import Derived.ProofKit
import Derived.OpenShut
namespace Go.Proofs.Ytcfnfihemejjkaa.snapSpoilt
open Go.ChangeShapes Go.WideShapes Go.ChangeAt Go.RowKit
set_option linter.unusedVariables false

set_option maxRecDepth 100000 in
theorem contract (H : Type) (enc : TypeId × Value → H) (W : World) (base : Nat) (args : Array Value) (ds gs : List (DataW H)) (before : List MemPlace)
    (hval : ∀ (j : Nat) t v, Try.f5.params[j]? = some t → args[j]? = some v → Value.okWide Try.prog W .any base t v)
    (hW : DataW.Whole enc Try.prog Try.f5.params.toList Rows.snapSpoiltSpec.vars false W args.toList ds gs before) :
    Calls Try.prog 5 args W fun e W' => ∃ v, e = .returned v ∧ Rows.snapSpoiltSpec.post enc Try.prog Try.f5 false true false false W args v W' := by
  have hW' := hW
  obtain ⟨p, q, hA0, hV, hpq, hfz, hnd⟩ := hW
  have hA : DataW.TrodAll enc Try.prog W 0 (fun _ => true) true Try.f5.params.toList args.toList ds p := hA0
  rw [Try.params5] at hA hval
  obtain ⟨v0, vs0, d0, ds0, p0, q0, hargs, rfl, rfl, h0, r0⟩ := trodAll_cons hA
  obtain ⟨v1, vs1, d1, ds1, p1, q1, rfl, rfl, rfl, h1, r1⟩ := trodAll_cons r0
  obtain ⟨v2, vs2, d2, ds2, p2, q2, rfl, rfl, rfl, h2, r2⟩ := trodAll_cons r1
  obtain ⟨v3, vs3, d3, ds3, p3, q3, rfl, rfl, rfl, h3, r3⟩ := trodAll_cons r2
  obtain ⟨v4, vs4, d4, ds4, p4, q4, rfl, rfl, rfl, h4, r4⟩ := trodAll_cons r3
  obtain ⟨rfl, rfl, rfl⟩ := trodAll_nil r4
  obtain rfl : args = #[v0, v1, v2, v3, v4] := by cases args; simp_all
  obtain ⟨A0, n0, c0, z0, rfl, cm0, cl0, wz0, hz0⟩ := kit.open_ints_any (e := 5) Try.underlying22 Try.underlying5 (by kernel_rfl) (hval 0 22 v0 rfl rfl) h0
  obtain ⟨A1, n1, c1, rfl, cm1, cl1, hs1⟩ := open_arrays_any (e := 41) Try.underlying23 Try.underlying41 Try.underlying40 (by kernel_rfl) (by kernel_rfl) (by decide) (hval 1 23 v1 rfl rfl) h1
  obtain ⟨a2, rfl, rfl, rfl, w2⟩ := open_int Try.underlying34 (hval 2 34 v2 rfl rfl) h2
  obtain ⟨a3, rfl, rfl, rfl, w3⟩ := open_int Try.underlying5 (hval 3 5 v3 rfl rfl) h3
  obtain ⟨a4, rfl, rfl, rfl, w4⟩ := open_int Try.underlying34 (hval 4 34 v4 rfl rfl) h4
  have hX0 : sym.XR W A0 [.u8] (ofF n0 z0) n0 := ⟨by simp [ofF_length], fun i hi => by
      rw [ofF_length] at hi
      obtain ⟨b, off, e, hb, hc⟩ := hz0 i hi
      refine ⟨b, off, e, hb, ?_⟩
      rw [ofF_get hi]
      simpa [Nat.mod_one] using hc i hi⟩
  have hB0 : Bs (ofF n0 z0) := ofF_B fun i => by
      have := wz0 i
      simp [Lit.wf, IntKind.min, IntKind.max, IntKind.signed, IntKind.bits] at this
      exact ⟨by omega, by omega⟩
  have hX1 : sym.XR W A1 [.u16, .u16] (ofF (n1 * 2) (kit.cellInt W A1)) n1 := ⟨by rw [ofF_length]; rfl, fun i hi => by
      rw [ofF_length] at hi
      obtain ⟨b, off, e, hb, hc, _⟩ := hs1 i hi
      refine ⟨b, off, e, hb, ?_⟩
      rw [ofF_get hi, hc]
      have : i % 2 = 0 ∨ i % 2 = 1 := by omega
      rcases this with h | h <;> simp [h]⟩
  have hB1 : ∀ i, Ytcfnfihemejjkaa.W ((ofF (n1 * 2) (kit.cellInt W A1)).getD i 0) := fun i => by
      by_cases hi : i < n1 * 2
      · obtain ⟨b, off, e, hb, hc, this⟩ := hs1 i hi
        rw [ofF_get hi]
        simp [Lit.wf, IntKind.min, IntKind.max, IntKind.signed, IntKind.bits] at this
        exact ⟨by omega, by omega⟩
      · rw [List.getD_eq_getElem?_getD, List.getElem?_eq_none (by rw [ofF_length]; omega)]
        exact ⟨by decide, by decide⟩
  refine (spoilt_walk W A0 (ofF n0 z0) n0 c0 A1 (ofF (n1 * 2) (kit.cellInt W A1)) n1 c1 hX0 cl0 hB0 hX1 cl1 hB1 a2 a3 a4 (by have := w2; simp [Lit.wf, IntKind.min, IntKind.max, IntKind.signed, IntKind.bits] at this; exact ⟨by omega, by omega⟩) (by have := w3; simp [Lit.wf, IntKind.min, IntKind.max, IntKind.signed, IntKind.bits] at this; exact ⟨by omega, by omega⟩) (by have := w4; simp [Lit.wf, IntKind.min, IntKind.max, IntKind.signed, IntKind.bits] at this; exact ⟨by omega, by omega⟩)).mono fun e W' ⟨he, hb⟩ => ?_
  subst he
  exact ⟨_, rfl, kit.law_post kit.laidOut (by kernel_rfl) (by kernel_rfl) Try.underlying4 rfl hW' rfl hb⟩

set_option maxRecDepth 100000 in
theorem lifted (os : Os) (started : os.Started) (H : Type) (enc : TypeId × Value → H) :
    ReturnsInHanded {} Try.checked os 5 .any (Rows.snapSpoiltSpec.pre6 enc Try.prog Try.f5 Rows.snapSpoiltRow.domain false) (Rows.snapSpoiltSpec.post enc Try.prog Try.f5 false true false false) := by
  refine returnsInHanded_of_change (C := Try.checked) kit.own started (by kernel_rfl) Try.func5
    (ChangeSpec.witness6 (enc := enc) (C := Try.checked) false ⟨#[], #[.slice none 0 0, .slice none 0 0, .int .u64 0, .int .u8 0, .int .u64 0], []⟩ 8 (by kernel_rfl) (by kernel_rfl) (by kernel_rfl) (by kernel_rfl)) ?_
  intro W base args ds gs before hval hW _ _
  exact contract H enc W base args ds gs before hval hW

theorem proved : Rows.SnapSpoiltSaid :=
  OpenClaim.holds_of_wide 5 Try.f5 rfl rfl rfl rfl rfl rfl rfl ⟨rfl, rfl, rfl, rfl, rfl⟩ rfl rfl rfl rfl rfl (by kernel_rfl) Try.func5 (by kernel_rfl)
    (of_decide_eq_true (by kernel_rfl)) (by unfold Func.isWrapper; first | (rw [if_pos (by decide +kernel)]; kernel_rfl) | (rw [if_neg (by decide +kernel)]; exact ⟨rfl, rfl⟩))
    (fun os started H enc _ => lifted os started H enc)
end Go.Proofs.Ytcfnfihemejjkaa.snapSpoilt
