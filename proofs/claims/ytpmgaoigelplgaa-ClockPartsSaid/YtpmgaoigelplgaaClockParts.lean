/-
  ClockParts: the given statement: for every input the law returns true, and the input reads as it did. No conditions.
-/
import Derived.Test.YtpmgaoigelplgaaA8
import Derived.WalkKit
import Derived.ProofKit
import Derived.OpenShut
namespace Go.Proofs.Ytpmgaoigelplgaa.clockParts
open Go.ChangeShapes Go.WideShapes Go.ChangeAt Go.RowKit
set_option linter.unusedVariables false

set_option maxRecDepth 100000 in
theorem contract (H : Type) (enc : TypeId × Value → H) (W : World) (base : Nat) (args : Array Value) (ds gs : List (DataW H)) (before : List MemPlace)
    (hval : ∀ (j : Nat) t v, Try.f6.params[j]? = some t → args[j]? = some v → Value.okWide Try.prog W .any base t v)
    (hW : DataW.Whole enc Try.prog Try.f6.params.toList Rows.clockPartsSpec.vars false W args.toList ds gs before) :
    Calls Try.prog 6 args W fun e W' => ∃ v, e = .returned v ∧ Rows.clockPartsSpec.post enc Try.prog Try.f6 false true false false W args v W' := by
  have hW' := hW
  obtain ⟨p, q, hA0, hV, hpq, hfz, hnd⟩ := hW
  have hA : DataW.TrodAll enc Try.prog W 0 (fun _ => true) true Try.f6.params.toList args.toList ds p := hA0
  rw [Try.params6] at hA hval
  obtain ⟨v0, vs0, d0, ds0, p0, q0, hargs, rfl, rfl, h0, r0⟩ := trodAll_cons hA
  obtain ⟨v1, vs1, d1, ds1, p1, q1, rfl, rfl, rfl, h1, r1⟩ := trodAll_cons r0
  obtain ⟨rfl, rfl, rfl⟩ := trodAll_nil r1
  obtain rfl : args = #[v0, v1] := by cases args; simp_all
  obtain ⟨A0, n0, c0, rfl, cm0, cl0, hs0⟩ := kit.open_structs_any (e := 33) Try.underlying29 Try.underlying33 (by kernel_rfl) (by kernel_rfl) (by decide) (hval 0 29 v0 rfl rfl) h0
  obtain ⟨A1, n1, c1, z1, rfl, cm1, cl1, wz1, hz1⟩ := kit.open_ints_any (e := 39) Try.underlying38 Try.underlying39 (by kernel_rfl) (hval 1 38 v1 rfl rfl) h1
  have hX : sym.XOk W A0 (opCell (fun i => kit.cellInt W A0 (i * 3 + 0)) (fun i => kit.cellInt W A0 (i * 3 + 1)) (fun i => kit.cellInt W A0 (i * 3 + 2))) 3 n0 := fun i hi q hq => by
      obtain ⟨b, off, e, hb, _⟩ := hs0 i hi
      refine ⟨b, off, e, hb, ?_⟩
      obtain ⟨g0, f0⟩ := kit.structs_int hs0 (q := 0) rfl Try.underlying3 e i hi
      obtain ⟨g1, f1⟩ := kit.structs_int hs0 (q := 1) rfl Try.underlying3 e i hi
      obtain ⟨g2, f2⟩ := kit.structs_int hs0 (q := 2) rfl Try.underlying5 e i hi
      match q, hq with
      | 0, _ => exact ⟨g0, rfl⟩
      | 1, _ => exact ⟨g1, rfl⟩
      | 2, _ => exact ⟨g2, rfl⟩
  have hB : ∀ i, i < n0 → Ck.B (kit.cellInt W A0 (i * 3 + 2)) := fun i hi => by
      obtain ⟨b, off, e, hb, _⟩ := hs0 i hi
      obtain ⟨g2, f2⟩ := kit.structs_int hs0 (q := 2) rfl Try.underlying5 e i hi
      simp [Lit.wf, IntKind.min, IntKind.max, IntKind.signed, IntKind.bits] at f2
      exact ⟨by simpa using f2.1, by have := f2.2; omega⟩
  have hP : sym.XOk W A1 (wordCell z1) 1 n1 := fun i hi q hq => by
      obtain ⟨b, off, e, hb, hc⟩ := hz1 i hi
      obtain rfl : q = 0 := by omega
      refine ⟨b, off, e, hb, ?_, rfl⟩
      rw [show off + (i * 1 + 0) = off + i by omega]
      exact hc i hi
  have hQ : ∀ i, i < n1 → 0 ≤ z1 i ∧ z1 i < 4294967296 := fun i hi => by
      have := wz1 i
      simp [Lit.wf, IntKind.min, IntKind.max, IntKind.signed, IntKind.bits] at this
      exact ⟨by omega, by omega⟩
  refine (parts_walk W A0 (fun i => kit.cellInt W A0 (i * 3 + 0)) (fun i => kit.cellInt W A0 (i * 3 + 1)) (fun i => kit.cellInt W A0 (i * 3 + 2)) n0 c0 A1 z1 n1 c1 hX hB hP hQ).mono fun e W' ⟨he, hb⟩ => ?_
  subst he
  exact ⟨_, rfl, kit.law_post kit.laidOut (by kernel_rfl) (by kernel_rfl) Try.underlying4 rfl hW' rfl hb⟩

set_option maxRecDepth 100000 in
theorem lifted (os : Os) (started : os.Started) (H : Type) (enc : TypeId × Value → H) :
    ReturnsInHanded {} Try.checked os 6 .any (Rows.clockPartsSpec.pre6 enc Try.prog Try.f6 Rows.clockPartsRow.domain false) (Rows.clockPartsSpec.post enc Try.prog Try.f6 false true false false) := by
  refine returnsInHanded_of_change (C := Try.checked) kit.own started (by kernel_rfl) Try.func6
    (ChangeSpec.witness6 (enc := enc) (C := Try.checked) false ⟨#[], #[.slice none 0 0, .slice none 0 0], []⟩ 8 (by kernel_rfl) (by kernel_rfl) (by kernel_rfl) (by kernel_rfl)) ?_
  intro W base args ds gs before hval hW _ _
  exact contract H enc W base args ds gs before hval hW

theorem proved : Rows.ClockPartsSaid :=
  OpenClaim.holds_of_wide 6 Try.f6 rfl rfl rfl rfl rfl rfl rfl ⟨rfl, rfl, rfl, rfl, rfl⟩ rfl rfl rfl rfl rfl (by kernel_rfl) Try.func6 (by kernel_rfl)
    (of_decide_eq_true (by kernel_rfl)) (by unfold Func.isWrapper; first | (rw [if_pos (by decide +kernel)]; kernel_rfl) | (rw [if_neg (by decide +kernel)]; exact ⟨rfl, rfl⟩))
    (fun os started H enc _ => lifted os started H enc)
end Go.Proofs.Ytpmgaoigelplgaa.clockParts
