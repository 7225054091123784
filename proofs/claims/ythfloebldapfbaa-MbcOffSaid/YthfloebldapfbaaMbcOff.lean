/-
  MbcOff: the given statement: for every input the law returns true, and the input reads as it did. No conditions.
-/
import Derived.Test.YthfloebldapfbaaA9
import Derived.WalkKit
import Derived.ProofKit
import Derived.OpenShut
namespace Go.Proofs.Ythfloebldapfbaa.mbcOff
open Go.ChangeShapes Go.WideShapes Go.ChangeAt Go.RowKit
set_option linter.unusedVariables false

set_option maxRecDepth 100000 in
theorem contract (H : Type) (enc : TypeId × Value → H) (W : World) (base : Nat) (args : Array Value) (ds gs : List (DataW H)) (before : List MemPlace)
    (hval : ∀ (j : Nat) t v, Try.f8.params[j]? = some t → args[j]? = some v → Value.okWide Try.prog W .any base t v)
    (hW : DataW.Whole enc Try.prog Try.f8.params.toList Rows.mbcOffSpec.vars false W args.toList ds gs before) :
    Calls Try.prog 8 args W fun e W' => ∃ v, e = .returned v ∧ Rows.mbcOffSpec.post enc Try.prog Try.f8 false true false false W args v W' := by
  have hW' := hW
  obtain ⟨p, q, hA0, hV, hpq, hfz, hnd⟩ := hW
  have hA : DataW.TrodAll enc Try.prog W 0 (fun _ => true) true Try.f8.params.toList args.toList ds p := hA0
  rw [Try.params8] at hA hval
  obtain ⟨v0, vs0, d0, ds0, p0, q0, hargs, rfl, rfl, h0, r0⟩ := trodAll_cons hA
  obtain ⟨v1, vs1, d1, ds1, p1, q1, rfl, rfl, rfl, h1, r1⟩ := trodAll_cons r0
  obtain ⟨v2, vs2, d2, ds2, p2, q2, rfl, rfl, rfl, h2, r2⟩ := trodAll_cons r1
  obtain ⟨v3, vs3, d3, ds3, p3, q3, rfl, rfl, rfl, h3, r3⟩ := trodAll_cons r2
  obtain ⟨rfl, rfl, rfl⟩ := trodAll_nil r3
  obtain rfl : args = #[v0, v1, v2, v3] := by cases args; simp_all
  obtain ⟨a0, rfl, rfl, rfl, w0⟩ := open_int Try.underlying5 (hval 0 5 v0 rfl rfl) h0
  obtain ⟨a1, rfl, rfl, rfl, w1⟩ := open_int Try.underlying5 (hval 1 5 v1 rfl rfl) h1
  obtain ⟨A2, n2, c2, rfl, cm2, cl2, hs2⟩ := kit.open_structs_any (e := 40) Try.underlying38 Try.underlying40 (by kernel_rfl) (by kernel_rfl) (by decide) (hval 2 38 v2 rfl rfl) h2
  obtain ⟨a3, rfl, rfl, rfl, w3⟩ := open_int Try.underlying5 (hval 3 5 v3 rfl rfl) h3
  have hX : sym.XOk W A2 (pokeCell (fun i => kit.cellInt W A2 (i * 2 + 0)) (fun i => kit.cellInt W A2 (i * 2 + 1))) 2 n2 := fun i hi q hq => by
      obtain ⟨b, off, e, hb, _⟩ := hs2 i hi
      refine ⟨b, off, e, hb, ?_⟩
      obtain ⟨g0, f0⟩ := kit.structs_int hs2 (q := 0) rfl Try.underlying22 e i hi
      obtain ⟨g1, f1⟩ := kit.structs_int hs2 (q := 1) rfl Try.underlying5 e i hi
      match q, hq with
      | 0, _ => exact ⟨g0, rfl⟩
      | 1, _ => exact ⟨g1, rfl⟩
  have hB : ∀ i, i < n2 → Mb.B (kit.cellInt W A2 (i * 2 + 1)) := fun i hi => by
      obtain ⟨b, off, e, hb, _⟩ := hs2 i hi
      obtain ⟨g2, f2⟩ := kit.structs_int hs2 (q := 1) rfl Try.underlying5 e i hi
      simp [Lit.wf, IntKind.min, IntKind.max, IntKind.signed, IntKind.bits] at f2
      exact ⟨by simpa using f2.1, by have := f2.2; (try simp only [Nat.add_zero] at this ⊢); omega⟩
  have hP : ∀ i, i < n2 → Mb.W (kit.cellInt W A2 (i * 2 + 0)) := fun i hi => by
      obtain ⟨b, off, e, hb, _⟩ := hs2 i hi
      obtain ⟨g2, f2⟩ := kit.structs_int hs2 (q := 0) rfl Try.underlying22 e i hi
      simp [Lit.wf, IntKind.min, IntKind.max, IntKind.signed, IntKind.bits] at f2
      exact ⟨by simpa using f2.1, by have := f2.2; (try simp only [Nat.add_zero] at this ⊢); omega⟩
  refine (off_walk W A2 (fun i => kit.cellInt W A2 (i * 2 + 0)) (fun i => kit.cellInt W A2 (i * 2 + 1)) n2 c2 a0 a1 a3 hX hB hP (by have := w0; simp [Lit.wf, IntKind.min, IntKind.max, IntKind.signed, IntKind.bits] at this; exact ⟨by omega, by omega⟩) (by have := w1; simp [Lit.wf, IntKind.min, IntKind.max, IntKind.signed, IntKind.bits] at this; exact ⟨by omega, by omega⟩) (by have := w3; simp [Lit.wf, IntKind.min, IntKind.max, IntKind.signed, IntKind.bits] at this; exact ⟨by omega, by omega⟩)).mono fun e W' ⟨he, hb⟩ => ?_
  subst he
  exact ⟨_, rfl, kit.law_post kit.laidOut (by kernel_rfl) (by kernel_rfl) Try.underlying4 rfl hW' rfl hb⟩

set_option maxRecDepth 100000 in
theorem lifted (os : Os) (started : os.Started) (H : Type) (enc : TypeId × Value → H) :
    ReturnsInHanded {} Try.checked os 8 .any (Rows.mbcOffSpec.pre6 enc Try.prog Try.f8 Rows.mbcOffRow.domain false) (Rows.mbcOffSpec.post enc Try.prog Try.f8 false true false false) := by
  refine returnsInHanded_of_change (C := Try.checked) kit.own started (by kernel_rfl) Try.func8
    (ChangeSpec.witness6 (enc := enc) (C := Try.checked) false ⟨#[], #[.int .u8 0, .int .u8 0, .slice none 0 0, .int .u8 0], []⟩ 8 (by kernel_rfl) (by kernel_rfl) (by kernel_rfl) (by kernel_rfl)) ?_
  intro W base args ds gs before hval hW _ _
  exact contract H enc W base args ds gs before hval hW

theorem proved : Rows.MbcOffSaid :=
  OpenClaim.holds_of_wide 8 Try.f8 rfl rfl rfl rfl rfl rfl rfl ⟨rfl, rfl, rfl, rfl, rfl⟩ rfl rfl rfl rfl rfl (by kernel_rfl) Try.func8 (by kernel_rfl)
    (of_decide_eq_true (by kernel_rfl)) (by unfold Func.isWrapper; first | (rw [if_pos (by decide +kernel)]; kernel_rfl) | (rw [if_neg (by decide +kernel)]; exact ⟨rfl, rfl⟩))
    (fun os started H enc _ => lifted os started H enc)
end Go.Proofs.Ythfloebldapfbaa.mbcOff
