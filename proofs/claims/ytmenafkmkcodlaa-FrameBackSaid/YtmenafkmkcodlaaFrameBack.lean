/-
  FrameBack: the given statement: for every input the law returns true, and the input reads as it did. No conditions.
-/
import Derived.Test.YtmenafkmkcodlaaR18
import Derived.Test.YtmenafkmkcodlaaK3
import Derived.WalkKit
import Derived.ProofKit
import Derived.OpenShut
namespace Go.Proofs.Ytmenafkmkcodlaa.frameBack
open Go.ChangeShapes Go.WideShapes Go.ChangeAt Go.RowKit
set_option linter.unusedVariables false

set_option maxRecDepth 100000 in
theorem contract (H : Type) (enc : TypeId × Value → H) (W : World) (base : Nat) (args : Array Value) (ds gs : List (DataW H)) (before : List MemPlace)
    (hval : ∀ (j : Nat) t v, Try.f5.params[j]? = some t → args[j]? = some v → Value.okWide Try.prog W .any base t v)
    (hW : DataW.Whole enc Try.prog Try.f5.params.toList Rows.frameBackSpec.vars false W args.toList ds gs before) :
    Calls Try.prog 5 args W fun e W' => ∃ v, e = .returned v ∧ Rows.frameBackSpec.post enc Try.prog Try.f5 false true false false W args v W' := by
  have hW' := hW
  obtain ⟨p, q, hA0, hV, hpq, hfz, hnd⟩ := hW
  have hA : DataW.TrodAll enc Try.prog W 0 (fun _ => true) true Try.f5.params.toList args.toList ds p := hA0
  rw [Try.params5] at hA hval
  obtain ⟨v0, vs0, d0, ds0, p0, q0, hargs, rfl, rfl, h0, r0⟩ := trodAll_cons hA
  obtain ⟨v1, vs1, d1, ds1, p1, q1, rfl, rfl, rfl, h1, r1⟩ := trodAll_cons r0
  obtain ⟨v2, vs2, d2, ds2, p2, q2, rfl, rfl, rfl, h2, r2⟩ := trodAll_cons r1
  obtain ⟨rfl, rfl, rfl⟩ := trodAll_nil r2
  obtain rfl : args = #[v0, v1, v2] := by cases args; simp_all
  obtain ⟨A0, n0, c0, rfl, cm0, cl0, hs0⟩ := kit.open_structs_any (e := 24) Try.underlying37 Try.underlying24 (by kernel_rfl) (by kernel_rfl) (by decide) (hval 0 37 v0 rfl rfl) h0
  obtain ⟨A1, n1, c1, z1, rfl, cm1, cl1, wz1, hz1⟩ := kit.open_ints_any (e := 5) Try.underlying22 Try.underlying5 (by kernel_rfl) (hval 1 22 v1 rfl rfl) h1
  obtain ⟨A2, n2, c2, z2, rfl, cm2, cl2, wz2, hz2⟩ := kit.open_ints_any (e := 33) Try.underlying38 Try.underlying33 (by kernel_rfl) (hval 2 38 v2 rfl rfl) h2
  obtain ⟨F, hF1, hF2⟩ := open_frames hs0 rfl rfl rfl Try.underlying5 Try.underlying22 Try.underlying5 (by kernel_rfl)
  have hX1 : sym.XR W A1 [.u8] (ofF n1 z1) n1 := ⟨by simp [ofF_length], fun i hi => by
      rw [ofF_length] at hi
      obtain ⟨b, off, e, hb, hc⟩ := hz1 i hi
      refine ⟨b, off, e, hb, ?_⟩
      rw [ofF_get hi]
      simpa [Nat.mod_one] using hc i hi⟩
  have hB1 := ofF_B (n := n1) (z := z1) fun i => by
      have := wz1 i
      simp [Lit.wf, IntKind.min, IntKind.max, IntKind.signed, IntKind.bits] at this
      exact ⟨by omega, by omega⟩
  have hX2 : sym.XR W A2 [.u16] (ofF n2 z2) n2 := ⟨by simp [ofF_length], fun i hi => by
      rw [ofF_length] at hi
      obtain ⟨b, off, e, hb, hc⟩ := hz2 i hi
      refine ⟨b, off, e, hb, ?_⟩
      rw [ofF_get hi]
      simpa [Nat.mod_one] using hc i hi⟩
  have hB2 := ofF_W (n := n2) (z := z2) fun i => by
      have := wz2 i
      simp [Lit.wf, IntKind.min, IntKind.max, IntKind.signed, IntKind.bits] at this
      exact ⟨by omega, by omega⟩
  refine (back_walk W A0 F n0 c0 A1 (ofF n1 z1) n1 c1 A2 (ofF n2 z2) n2 c2 hF1 hF2 cl0 hX1 cl1 hB1 hX2 cl2 hB2).mono fun e W' ⟨he, hb⟩ => ?_
  subst he
  exact ⟨_, rfl, kit.law_post kit.laidOut (by kernel_rfl) (by kernel_rfl) Try.underlying4 rfl hW' rfl hb⟩

set_option maxRecDepth 100000 in
theorem lifted (os : Os) (started : os.Started) (H : Type) (enc : TypeId × Value → H) :
    ReturnsInHanded {} Try.checked os 5 .any (Rows.frameBackSpec.pre6 enc Try.prog Try.f5 Rows.frameBackRow.domain false) (Rows.frameBackSpec.post enc Try.prog Try.f5 false true false false) := by
  refine returnsInHanded_of_change (C := Try.checked) kit.own started (by kernel_rfl) Try.func5
    (ChangeSpec.witness6 (enc := enc) (C := Try.checked) false ⟨#[], #[.slice none 0 0, .slice none 0 0, .slice none 0 0], []⟩ 8 (by kernel_rfl) (by kernel_rfl) (by kernel_rfl) (by kernel_rfl)) ?_
  intro W base args ds gs before hval hW _ _
  exact contract H enc W base args ds gs before hval hW

theorem proved : Rows.FrameBackSaid :=
  OpenClaim.holds_of_wide 5 Try.f5 rfl rfl rfl rfl rfl rfl rfl ⟨rfl, rfl, rfl, rfl, rfl⟩ rfl rfl rfl rfl rfl (by kernel_rfl) Try.func5 (by kernel_rfl)
    (of_decide_eq_true (by kernel_rfl)) (by unfold Func.isWrapper; first | (rw [if_pos (by decide +kernel)]; kernel_rfl) | (rw [if_neg (by decide +kernel)]; exact ⟨rfl, rfl⟩))
    (fun os started H enc _ => lifted os started H enc)
end Go.Proofs.Ytmenafkmkcodlaa.frameBack
