/-
  JoypadOrder: the given statement: for every input the law returns true, and the input reads as it did. No conditions.
-/
import Derived.Test.YtiafdnihgnjohaaJ1
import Derived.WalkKit
import Derived.ProofKit
import Derived.OpenShut
namespace Go.Proofs.Ytiafdnihgnjohaa.joypadOrder
open Go.ChangeShapes Go.WideShapes Go.ChangeAt Go.RowKit
set_option linter.unusedVariables false

set_option maxRecDepth 100000 in
theorem contract (H : Type) (enc : TypeId × Value → H) (W : World) (base : Nat) (args : Array Value) (ds gs : List (DataW H)) (before : List MemPlace)
    (hval : ∀ (j : Nat) t v, Try.f8.params[j]? = some t → args[j]? = some v → Value.okWide Try.prog W .any base t v)
    (hW : DataW.Whole enc Try.prog Try.f8.params.toList Rows.joypadOrderSpec.vars false W args.toList ds gs before) :
    Calls Try.prog 8 args W fun e W' => ∃ v, e = .returned v ∧ Rows.joypadOrderSpec.post enc Try.prog Try.f8 false true false false W args v W' := by
  have hW' := hW
  obtain ⟨p, q, hA0, hV, hpq, hfz, hnd⟩ := hW
  have hA : DataW.TrodAll enc Try.prog W 0 (fun _ => true) true Try.f8.params.toList args.toList ds p := hA0
  rw [Try.params8] at hA hval
  obtain ⟨v0, vs0, d0, ds0, p0, q0, hargs, rfl, rfl, h0, r0⟩ := trodAll_cons hA
  obtain ⟨v1, vs1, d1, ds1, p1, q1, rfl, rfl, rfl, h1, r1⟩ := trodAll_cons r0
  obtain ⟨v2, vs2, d2, ds2, p2, q2, rfl, rfl, rfl, h2, r2⟩ := trodAll_cons r1
  obtain ⟨v3, vs3, d3, ds3, p3, q3, rfl, rfl, rfl, h3, r3⟩ := trodAll_cons r2
  obtain ⟨rfl, rfl, rfl⟩ := trodAll_nil r3
  obtain rfl : args = #[v0, v1, v2, v3] := by cases args; simp_all
  obtain ⟨A0, n0, c0, rfl, cm0, cl0, hs0⟩ := kit.open_structs_any (e := 42) Try.underlying36 Try.underlying42 (by kernel_rfl) (by kernel_rfl) (by decide) (hval 0 36 v0 rfl rfl) h0
  obtain ⟨a1, rfl, rfl, rfl, w1⟩ := open_int Try.underlying26 (hval 1 26 v1 rfl rfl) h1
  obtain ⟨a2, rfl, rfl, rfl, w2⟩ := open_int Try.underlying37 (hval 2 37 v2 rfl rfl) h2
  obtain ⟨a3, rfl, rfl, rfl, w3⟩ := open_int Try.underlying5 (hval 3 5 v3 rfl rfl) h3
  have G0 : ∀ b off, A0 = some ⟨b, off, none⟩ → ∀ j, j < n0 → W.cell? ⟨b, off + j * 2, none⟩ = some (.int .u64 (kit.cellInt W A0 (j * 2))) ∧ 0 ≤ kit.cellInt W A0 (j * 2) ∧ kit.cellInt W A0 (j * 2) < 18446744073709551616 := fun b off e j hj => by
    obtain ⟨g, f⟩ := kit.structs_int hs0 (q := 0) rfl Try.underlying37 e j hj
    simp [Lit.wf, IntKind.min, IntKind.max, IntKind.signed, IntKind.bits] at f
    exact ⟨g, f.1, by have := f.2; omega⟩
  have G1 : ∀ b off, A0 = some ⟨b, off, none⟩ → ∀ j, j < n0 → W.cell? ⟨b, off + (j * 2 + 1), none⟩ = some (.int .u8 (kit.cellInt W A0 (j * 2 + 1))) ∧ 0 ≤ kit.cellInt W A0 (j * 2 + 1) ∧ kit.cellInt W A0 (j * 2 + 1) < 256 := fun b off e j hj => by
    obtain ⟨g, f⟩ := kit.structs_int hs0 (q := 1) rfl Try.underlying5 e j hj
    simp [Lit.wf, IntKind.min, IntKind.max, IntKind.signed, IntKind.bits] at f
    exact ⟨g, f.1, by have := f.2; omega⟩
  have hX : sym.XR W A0 [.u64, .u8] (ofF (n0 * 2) (kit.cellInt W A0)) n0 := ⟨by rw [ofF_length]; rfl, fun i hi => by
    rw [ofF_length] at hi
    obtain ⟨b, off, e, hb, _⟩ := hs0 (i / 2) (by omega)
    refine ⟨b, off, e, hb, ?_⟩
    rw [ofF_get hi]
    have : (∃ k, i = k * 2) ∨ ∃ k, i = k * 2 + 1 := by
      by_cases h : i % 2 = 0
      · exact .inl ⟨i / 2, by omega⟩
      · exact .inr ⟨i / 2, by omega⟩
    rcases this with ⟨k, rfl⟩ | ⟨k, rfl⟩
    · rw [(G0 b off e k (by omega)).1]
      have : k * 2 % [IntKind.u64, IntKind.u8].length = 0 := by show k * 2 % 2 = 0; omega
      rw [this]
      rfl
    · rw [(G1 b off e k (by omega)).1]
      have : (k * 2 + 1) % [IntKind.u64, IntKind.u8].length = 1 := by show (k * 2 + 1) % 2 = 1; omega
      rw [this]
      rfl⟩
  have hT : TD (ofF (n0 * 2) (kit.cellInt W A0)) := fun i => by
    by_cases hi : i < n0
    · obtain ⟨b, off, e, hb, _⟩ := hs0 i hi
      rw [ofF_get (by omega), ofF_get (by omega)]
      exact ⟨(G0 b off e i hi).2, (G1 b off e i hi).2⟩
    · rw [List.getD_eq_getElem?_getD, List.getD_eq_getElem?_getD, List.getElem?_eq_none (by rw [ofF_length]; omega), List.getElem?_eq_none (by rw [ofF_length]; omega)]
      exact ⟨⟨by decide, by decide⟩, by decide, by decide⟩
  refine (order_walk W A0 _ n0 c0 a1 a2 a3 hX cl0 hT (by have := w1; simp [Lit.wf, IntKind.min, IntKind.max, IntKind.signed, IntKind.bits] at this; exact ⟨by omega, by omega⟩) (by have := w2; simp [Lit.wf, IntKind.min, IntKind.max, IntKind.signed, IntKind.bits] at this; exact ⟨by omega, by omega⟩) (by have := w3; simp [Lit.wf, IntKind.min, IntKind.max, IntKind.signed, IntKind.bits] at this; exact ⟨by omega, by omega⟩)).mono fun e W' ⟨he, hb⟩ => ?_
  subst he
  exact ⟨_, rfl, kit.law_post kit.laidOut (by kernel_rfl) (by kernel_rfl) Try.underlying4 rfl hW' rfl hb⟩

set_option maxRecDepth 100000 in
theorem lifted (os : Os) (started : os.Started) (H : Type) (enc : TypeId × Value → H) :
    ReturnsInHanded {} Try.checked os 8 .any (Rows.joypadOrderSpec.pre6 enc Try.prog Try.f8 Rows.joypadOrderRow.domain false) (Rows.joypadOrderSpec.post enc Try.prog Try.f8 false true false false) := by
  refine returnsInHanded_of_change (C := Try.checked) kit.own started (by kernel_rfl) Try.func8
    (ChangeSpec.witness6 (enc := enc) (C := Try.checked) false ⟨#[], #[.slice none 0 0, .int .u64 0, .int .u64 0, .int .u8 0], []⟩ 8 (by kernel_rfl) (by kernel_rfl) (by kernel_rfl) (by kernel_rfl)) ?_
  intro W base args ds gs before hval hW _ _
  exact contract H enc W base args ds gs before hval hW

theorem proved : Rows.JoypadOrderSaid :=
  OpenClaim.holds_of_wide 8 Try.f8 rfl rfl rfl rfl rfl rfl rfl ⟨rfl, rfl, rfl, rfl, rfl⟩ rfl rfl rfl rfl rfl (by kernel_rfl) Try.func8 (by kernel_rfl)
    (of_decide_eq_true (by kernel_rfl)) (by unfold Func.isWrapper; first | (rw [if_pos (by decide +kernel)]; kernel_rfl) | (rw [if_neg (by decide +kernel)]; exact ⟨rfl, rfl⟩))
    (fun os started H enc _ => lifted os started H enc)
end Go.Proofs.Ytiafdnihgnjohaa.joypadOrder
