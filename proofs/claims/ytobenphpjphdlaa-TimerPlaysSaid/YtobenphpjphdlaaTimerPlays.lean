/-
  TimerPlays: the given statement: for every input the law returns true, and the input reads as it did. No conditions.
-/
import Derived.Test.YtobenphpjphdlaaA8
import Derived.WalkKit
import Derived.ProofKit
import Derived.OpenShut
namespace Go.Proofs.Ytobenphpjphdlaa.timerPlays
open Go.ChangeShapes Go.WideShapes Go.ChangeAt Go.RowKit
set_option linter.unusedVariables false

set_option maxRecDepth 100000 in
theorem contract (H : Type) (enc : TypeId × Value → H) (W : World) (base : Nat) (args : Array Value) (ds gs : List (DataW H)) (before : List MemPlace)
    (hval : ∀ (j : Nat) t v, Try.f6.params[j]? = some t → args[j]? = some v → Value.okWide Try.prog W .any base t v)
    (hW : DataW.Whole enc Try.prog Try.f6.params.toList Rows.timerPlaysSpec.vars false W args.toList ds gs before) :
    Calls Try.prog 6 args W fun e W' => ∃ v, e = .returned v ∧ Rows.timerPlaysSpec.post enc Try.prog Try.f6 false true false false W args v W' := by
  have hW' := hW
  obtain ⟨p, q, hA0, hV, hpq, hfz, hnd⟩ := hW
  have hA : DataW.TrodAll enc Try.prog W 0 (fun _ => true) true Try.f6.params.toList args.toList ds p := hA0
  rw [Try.params6] at hA hval
  obtain ⟨v0, vs0, d0, ds0, p0, q0, hargs, rfl, rfl, h0, r0⟩ := trodAll_cons hA
  obtain ⟨v1, vs1, d1, ds1, p1, q1, rfl, rfl, rfl, h1, r1⟩ := trodAll_cons r0
  obtain ⟨rfl, rfl, rfl⟩ := trodAll_nil r1
  obtain rfl : args = #[v0, v1] := by cases args; simp_all
  obtain ⟨cs0, rfl, len0, cell0⟩ := kit.open_row (ts := [22, 5, 5, 5, 4]) (by kernel_rfl) (by kernel_rfl) (by kernel_rfl) (hval 0 32 v0 rfl rfl)
  obtain ⟨c0_0, e0_0, k0_0⟩ := cell0 0 22 rfl
  obtain ⟨c0_1, e0_1, k0_1⟩ := cell0 1 5 rfl
  obtain ⟨c0_2, e0_2, k0_2⟩ := cell0 2 5 rfl
  obtain ⟨c0_3, e0_3, k0_3⟩ := cell0 3 5 rfl
  obtain ⟨c0_4, e0_4, k0_4⟩ := cell0 4 4 rfl
  obtain ⟨a0_0, rfl, w0_0⟩ := kit.cell_int Try.underlying22 k0_0
  obtain ⟨a0_1, rfl, w0_1⟩ := kit.cell_int Try.underlying5 k0_1
  obtain ⟨a0_2, rfl, w0_2⟩ := kit.cell_int Try.underlying5 k0_2
  obtain ⟨a0_3, rfl, w0_3⟩ := kit.cell_int Try.underlying5 k0_3
  obtain ⟨a0_4, rfl⟩ := kit.cell_bool Try.underlying4 k0_4
  obtain rfl : cs0 = [.int .u16 a0_0, .int .u8 a0_1, .int .u8 a0_2, .int .u8 a0_3, .bool a0_4] := by
    refine List.ext_getElem? fun i => ?_
    match i with
    | 0 => exact e0_0
    | 1 => exact e0_1
    | 2 => exact e0_2
    | 3 => exact e0_3
    | 4 => exact e0_4
    | i + 5 => rw [List.getElem?_eq_none (by rw [len0]; simp), List.getElem?_eq_none (by simp)]
  obtain ⟨A1, n1, c1, rfl, cm1, cl1, hs1⟩ := kit.open_structs_any (e := 37) Try.underlying35 Try.underlying37 (by kernel_rfl) (by kernel_rfl) (by decide) (hval 1 35 v1 rfl rfl) h1
  have hb : TB a0_0 a0_1 a0_2 a0_3 := ⟨(by have := w0_0; simp [Lit.wf, IntKind.min, IntKind.max, IntKind.signed, IntKind.bits] at this; exact ⟨by omega, by omega⟩), (by have := w0_1; simp [Lit.wf, IntKind.min, IntKind.max, IntKind.signed, IntKind.bits] at this; exact ⟨by omega, by omega⟩), (by have := w0_2; simp [Lit.wf, IntKind.min, IntKind.max, IntKind.signed, IntKind.bits] at this; exact ⟨by omega, by omega⟩), (by have := w0_3; simp [Lit.wf, IntKind.min, IntKind.max, IntKind.signed, IntKind.bits] at this; exact ⟨by omega, by omega⟩)⟩
  have hX : sym.XOk W A1 (opCell (fun i => kit.cellInt W A1 (i * 3 + 0)) (fun i => kit.cellInt W A1 (i * 3 + 1)) (fun i => kit.cellInt W A1 (i * 3 + 2))) 3 n1 := fun i hi q hq => by
      obtain ⟨b, off, e, hb, _⟩ := hs1 i hi
      refine ⟨b, off, e, hb, ?_⟩
      obtain ⟨g0, f0⟩ := kit.structs_int hs1 (q := 0) rfl Try.underlying3 e i hi
      obtain ⟨g1, f1⟩ := kit.structs_int hs1 (q := 1) rfl Try.underlying3 e i hi
      obtain ⟨g2, f2⟩ := kit.structs_int hs1 (q := 2) rfl Try.underlying5 e i hi
      match q, hq with
      | 0, _ => exact ⟨g0, rfl⟩
      | 1, _ => exact ⟨g1, rfl⟩
      | 2, _ => exact ⟨g2, rfl⟩
  have hB : ∀ i, i < n1 → Tm.B (kit.cellInt W A1 (i * 3 + 2)) := fun i hi => by
      obtain ⟨b, off, e, hb, _⟩ := hs1 i hi
      obtain ⟨g2, f2⟩ := kit.structs_int hs1 (q := 2) rfl Try.underlying5 e i hi
      simp [Lit.wf, IntKind.min, IntKind.max, IntKind.signed, IntKind.bits] at f2
      exact ⟨by simpa using f2.1, by have := f2.2; omega⟩
  refine (plays_walk W a0_0 a0_1 a0_2 a0_3 a0_4 A1 (fun i => kit.cellInt W A1 (i * 3 + 0)) (fun i => kit.cellInt W A1 (i * 3 + 1)) (fun i => kit.cellInt W A1 (i * 3 + 2)) n1 c1 hX hB hb).mono fun e W' ⟨he, hb⟩ => ?_
  subst he
  exact ⟨_, rfl, kit.law_post kit.laidOut (by kernel_rfl) (by kernel_rfl) Try.underlying4 rfl hW' rfl hb⟩

set_option maxRecDepth 100000 in
theorem lifted (os : Os) (started : os.Started) (H : Type) (enc : TypeId × Value → H) :
    ReturnsInHanded {} Try.checked os 6 .any (Rows.timerPlaysSpec.pre6 enc Try.prog Try.f6 Rows.timerPlaysRow.domain false) (Rows.timerPlaysSpec.post enc Try.prog Try.f6 false true false false) := by
  refine returnsInHanded_of_change (C := Try.checked) kit.own started (by kernel_rfl) Try.func6
    (ChangeSpec.witness6 (enc := enc) (C := Try.checked) false ⟨#[], #[.agg #[.int .u16 0, .int .u8 0, .int .u8 0, .int .u8 0, .bool false], .slice none 0 0], []⟩ 8 (by kernel_rfl) (by kernel_rfl) (by kernel_rfl) (by kernel_rfl)) ?_
  intro W base args ds gs before hval hW _ _
  exact contract H enc W base args ds gs before hval hW

theorem proved : Rows.TimerPlaysSaid :=
  OpenClaim.holds_of_wide 6 Try.f6 rfl rfl rfl rfl rfl rfl rfl ⟨rfl, rfl, rfl, rfl, rfl⟩ rfl rfl rfl rfl rfl (by kernel_rfl) Try.func6 (by kernel_rfl)
    (of_decide_eq_true (by kernel_rfl)) (by unfold Func.isWrapper; first | (rw [if_pos (by decide +kernel)]; kernel_rfl) | (rw [if_neg (by decide +kernel)]; exact ⟨rfl, rfl⟩))
    (fun os started H enc _ => lifted os started H enc)
end Go.Proofs.Ytobenphpjphdlaa.timerPlays
