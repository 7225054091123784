/-
  RegsAgain: the given statement: for every input the law returns true, and the input reads as it did. No conditions.
-/
import Derived.Test.YtmpkhjimemdhhaaR3
import Derived.WalkKit
import Derived.ProofKit
import Derived.OpenShut
namespace Go.Proofs.Ytmpkhjimemdhhaa.regsAgain
open Go.ChangeShapes Go.WideShapes Go.ChangeAt Go.RowKit
set_option linter.unusedVariables false

set_option maxRecDepth 100000 in
theorem contract (H : Type) (enc : TypeId × Value → H) (W : World) (base : Nat) (args : Array Value) (ds gs : List (DataW H)) (before : List MemPlace)
    (hval : ∀ (j : Nat) t v, Try.f6.params[j]? = some t → args[j]? = some v → Value.okWide Try.prog W .any base t v)
    (hW : DataW.Whole enc Try.prog Try.f6.params.toList Rows.regsAgainSpec.vars false W args.toList ds gs before) :
    Calls Try.prog 6 args W fun e W' => ∃ v, e = .returned v ∧ Rows.regsAgainSpec.post enc Try.prog Try.f6 false true false false W args v W' := by
  have hW' := hW
  obtain ⟨p, q, hA0, hV, hpq, hfz, hnd⟩ := hW
  have hA : DataW.TrodAll enc Try.prog W 0 (fun _ => true) true Try.f6.params.toList args.toList ds p := hA0
  rw [Try.params6] at hA hval
  obtain ⟨v0, vs0, d0, ds0, p0, q0, hargs, rfl, rfl, h0, r0⟩ := trodAll_cons hA
  obtain ⟨v1, vs1, d1, ds1, p1, q1, rfl, rfl, rfl, h1, r1⟩ := trodAll_cons r0
  obtain ⟨v2, vs2, d2, ds2, p2, q2, rfl, rfl, rfl, h2, r2⟩ := trodAll_cons r1
  obtain ⟨rfl, rfl, rfl⟩ := trodAll_nil r2
  obtain rfl : args = #[v0, v1, v2] := by cases args; simp_all
  obtain ⟨cs0, rfl, len0, cell0⟩ := kit.open_row (ts := [5, 5, 5, 5, 5, 5, 5, 5, 23, 23]) (by kernel_rfl) (by kernel_rfl) (by kernel_rfl) (hval 0 28 v0 rfl rfl)
  obtain ⟨c0_0, e0_0, k0_0⟩ := cell0 0 5 rfl
  obtain ⟨c0_1, e0_1, k0_1⟩ := cell0 1 5 rfl
  obtain ⟨c0_2, e0_2, k0_2⟩ := cell0 2 5 rfl
  obtain ⟨c0_3, e0_3, k0_3⟩ := cell0 3 5 rfl
  obtain ⟨c0_4, e0_4, k0_4⟩ := cell0 4 5 rfl
  obtain ⟨c0_5, e0_5, k0_5⟩ := cell0 5 5 rfl
  obtain ⟨c0_6, e0_6, k0_6⟩ := cell0 6 5 rfl
  obtain ⟨c0_7, e0_7, k0_7⟩ := cell0 7 5 rfl
  obtain ⟨c0_8, e0_8, k0_8⟩ := cell0 8 23 rfl
  obtain ⟨c0_9, e0_9, k0_9⟩ := cell0 9 23 rfl
  obtain ⟨a0_0, rfl, w0_0⟩ := kit.cell_int Try.underlying5 k0_0
  obtain ⟨a0_1, rfl, w0_1⟩ := kit.cell_int Try.underlying5 k0_1
  obtain ⟨a0_2, rfl, w0_2⟩ := kit.cell_int Try.underlying5 k0_2
  obtain ⟨a0_3, rfl, w0_3⟩ := kit.cell_int Try.underlying5 k0_3
  obtain ⟨a0_4, rfl, w0_4⟩ := kit.cell_int Try.underlying5 k0_4
  obtain ⟨a0_5, rfl, w0_5⟩ := kit.cell_int Try.underlying5 k0_5
  obtain ⟨a0_6, rfl, w0_6⟩ := kit.cell_int Try.underlying5 k0_6
  obtain ⟨a0_7, rfl, w0_7⟩ := kit.cell_int Try.underlying5 k0_7
  obtain ⟨a0_8, rfl, w0_8⟩ := kit.cell_int Try.underlying23 k0_8
  obtain ⟨a0_9, rfl, w0_9⟩ := kit.cell_int Try.underlying23 k0_9
  obtain rfl : cs0 = [.int .u8 a0_0, .int .u8 a0_1, .int .u8 a0_2, .int .u8 a0_3, .int .u8 a0_4, .int .u8 a0_5, .int .u8 a0_6, .int .u8 a0_7, .int .u16 a0_8, .int .u16 a0_9] := by
    refine List.ext_getElem? fun i => ?_
    match i with
    | 0 => exact e0_0
    | 1 => exact e0_1
    | 2 => exact e0_2
    | 3 => exact e0_3
    | 4 => exact e0_4
    | 5 => exact e0_5
    | 6 => exact e0_6
    | 7 => exact e0_7
    | 8 => exact e0_8
    | 9 => exact e0_9
    | i + 10 => rw [List.getElem?_eq_none (by rw [len0]; simp), List.getElem?_eq_none (by simp)]
  obtain ⟨cs1, rfl, len1, cell1⟩ := kit.open_row (ts := [5, 5, 5, 5, 5, 5, 5, 5, 23, 23]) (by kernel_rfl) (by kernel_rfl) (by kernel_rfl) (hval 1 28 v1 rfl rfl)
  obtain ⟨c1_0, e1_0, k1_0⟩ := cell1 0 5 rfl
  obtain ⟨c1_1, e1_1, k1_1⟩ := cell1 1 5 rfl
  obtain ⟨c1_2, e1_2, k1_2⟩ := cell1 2 5 rfl
  obtain ⟨c1_3, e1_3, k1_3⟩ := cell1 3 5 rfl
  obtain ⟨c1_4, e1_4, k1_4⟩ := cell1 4 5 rfl
  obtain ⟨c1_5, e1_5, k1_5⟩ := cell1 5 5 rfl
  obtain ⟨c1_6, e1_6, k1_6⟩ := cell1 6 5 rfl
  obtain ⟨c1_7, e1_7, k1_7⟩ := cell1 7 5 rfl
  obtain ⟨c1_8, e1_8, k1_8⟩ := cell1 8 23 rfl
  obtain ⟨c1_9, e1_9, k1_9⟩ := cell1 9 23 rfl
  obtain ⟨a1_0, rfl, w1_0⟩ := kit.cell_int Try.underlying5 k1_0
  obtain ⟨a1_1, rfl, w1_1⟩ := kit.cell_int Try.underlying5 k1_1
  obtain ⟨a1_2, rfl, w1_2⟩ := kit.cell_int Try.underlying5 k1_2
  obtain ⟨a1_3, rfl, w1_3⟩ := kit.cell_int Try.underlying5 k1_3
  obtain ⟨a1_4, rfl, w1_4⟩ := kit.cell_int Try.underlying5 k1_4
  obtain ⟨a1_5, rfl, w1_5⟩ := kit.cell_int Try.underlying5 k1_5
  obtain ⟨a1_6, rfl, w1_6⟩ := kit.cell_int Try.underlying5 k1_6
  obtain ⟨a1_7, rfl, w1_7⟩ := kit.cell_int Try.underlying5 k1_7
  obtain ⟨a1_8, rfl, w1_8⟩ := kit.cell_int Try.underlying23 k1_8
  obtain ⟨a1_9, rfl, w1_9⟩ := kit.cell_int Try.underlying23 k1_9
  obtain rfl : cs1 = [.int .u8 a1_0, .int .u8 a1_1, .int .u8 a1_2, .int .u8 a1_3, .int .u8 a1_4, .int .u8 a1_5, .int .u8 a1_6, .int .u8 a1_7, .int .u16 a1_8, .int .u16 a1_9] := by
    refine List.ext_getElem? fun i => ?_
    match i with
    | 0 => exact e1_0
    | 1 => exact e1_1
    | 2 => exact e1_2
    | 3 => exact e1_3
    | 4 => exact e1_4
    | 5 => exact e1_5
    | 6 => exact e1_6
    | 7 => exact e1_7
    | 8 => exact e1_8
    | 9 => exact e1_9
    | i + 10 => rw [List.getElem?_eq_none (by rw [len1]; simp), List.getElem?_eq_none (by simp)]
  obtain ⟨A2, n2, c2, z2, rfl, cm2, cl2, wz2, hz2⟩ := kit.open_ints_any (e := 5) Try.underlying35 Try.underlying5 (by kernel_rfl) (hval 2 35 v2 rfl rfl) h2
  have hr0 : RB a0_0 a0_1 a0_2 a0_3 a0_4 a0_5 a0_6 a0_7 a0_8 a0_9 := ⟨(by have := w0_0; simp [Lit.wf, IntKind.min, IntKind.max, IntKind.signed, IntKind.bits] at this; exact ⟨by omega, by omega⟩), (by have := w0_1; simp [Lit.wf, IntKind.min, IntKind.max, IntKind.signed, IntKind.bits] at this; exact ⟨by omega, by omega⟩), (by have := w0_2; simp [Lit.wf, IntKind.min, IntKind.max, IntKind.signed, IntKind.bits] at this; exact ⟨by omega, by omega⟩), (by have := w0_3; simp [Lit.wf, IntKind.min, IntKind.max, IntKind.signed, IntKind.bits] at this; exact ⟨by omega, by omega⟩), (by have := w0_4; simp [Lit.wf, IntKind.min, IntKind.max, IntKind.signed, IntKind.bits] at this; exact ⟨by omega, by omega⟩), (by have := w0_5; simp [Lit.wf, IntKind.min, IntKind.max, IntKind.signed, IntKind.bits] at this; exact ⟨by omega, by omega⟩), (by have := w0_6; simp [Lit.wf, IntKind.min, IntKind.max, IntKind.signed, IntKind.bits] at this; exact ⟨by omega, by omega⟩), (by have := w0_7; simp [Lit.wf, IntKind.min, IntKind.max, IntKind.signed, IntKind.bits] at this; exact ⟨by omega, by omega⟩), (by have := w0_8; simp [Lit.wf, IntKind.min, IntKind.max, IntKind.signed, IntKind.bits] at this; exact ⟨by omega, by omega⟩), (by have := w0_9; simp [Lit.wf, IntKind.min, IntKind.max, IntKind.signed, IntKind.bits] at this; exact ⟨by omega, by omega⟩)⟩
  have hr1 : RB a1_0 a1_1 a1_2 a1_3 a1_4 a1_5 a1_6 a1_7 a1_8 a1_9 := ⟨(by have := w1_0; simp [Lit.wf, IntKind.min, IntKind.max, IntKind.signed, IntKind.bits] at this; exact ⟨by omega, by omega⟩), (by have := w1_1; simp [Lit.wf, IntKind.min, IntKind.max, IntKind.signed, IntKind.bits] at this; exact ⟨by omega, by omega⟩), (by have := w1_2; simp [Lit.wf, IntKind.min, IntKind.max, IntKind.signed, IntKind.bits] at this; exact ⟨by omega, by omega⟩), (by have := w1_3; simp [Lit.wf, IntKind.min, IntKind.max, IntKind.signed, IntKind.bits] at this; exact ⟨by omega, by omega⟩), (by have := w1_4; simp [Lit.wf, IntKind.min, IntKind.max, IntKind.signed, IntKind.bits] at this; exact ⟨by omega, by omega⟩), (by have := w1_5; simp [Lit.wf, IntKind.min, IntKind.max, IntKind.signed, IntKind.bits] at this; exact ⟨by omega, by omega⟩), (by have := w1_6; simp [Lit.wf, IntKind.min, IntKind.max, IntKind.signed, IntKind.bits] at this; exact ⟨by omega, by omega⟩), (by have := w1_7; simp [Lit.wf, IntKind.min, IntKind.max, IntKind.signed, IntKind.bits] at this; exact ⟨by omega, by omega⟩), (by have := w1_8; simp [Lit.wf, IntKind.min, IntKind.max, IntKind.signed, IntKind.bits] at this; exact ⟨by omega, by omega⟩), (by have := w1_9; simp [Lit.wf, IntKind.min, IntKind.max, IntKind.signed, IntKind.bits] at this; exact ⟨by omega, by omega⟩)⟩
  have hX2 : sym.XR W A2 [.u8] (ofF n2 z2) n2 := ⟨by simp [ofF_length], fun i hi => by
      rw [ofF_length] at hi
      obtain ⟨b, off, e, hb, hc⟩ := hz2 i hi
      refine ⟨b, off, e, hb, ?_⟩
      rw [ofF_get hi]
      simpa [Nat.mod_one] using hc i hi⟩
  have hB2 : Bs (ofF n2 z2) := ofF_B fun i => by
      have := wz2 i
      simp [Lit.wf, IntKind.min, IntKind.max, IntKind.signed, IntKind.bits] at this
      exact ⟨by omega, by omega⟩
  refine (again_walk W a0_0 a0_1 a0_2 a0_3 a0_4 a0_5 a0_6 a0_7 a0_8 a0_9 a1_0 a1_1 a1_2 a1_3 a1_4 a1_5 a1_6 a1_7 a1_8 a1_9 A2 (ofF n2 z2) n2 c2 hr0 hr1 hX2 cl2 hB2).mono fun e W' ⟨he, hb⟩ => ?_
  subst he
  exact ⟨_, rfl, kit.law_post kit.laidOut (by kernel_rfl) (by kernel_rfl) Try.underlying4 rfl hW' rfl hb⟩

set_option maxRecDepth 100000 in
theorem lifted (os : Os) (started : os.Started) (H : Type) (enc : TypeId × Value → H) :
    ReturnsInHanded {} Try.checked os 6 .any (Rows.regsAgainSpec.pre6 enc Try.prog Try.f6 Rows.regsAgainRow.domain false) (Rows.regsAgainSpec.post enc Try.prog Try.f6 false true false false) := by
  refine returnsInHanded_of_change (C := Try.checked) kit.own started (by kernel_rfl) Try.func6
    (ChangeSpec.witness6 (enc := enc) (C := Try.checked) false ⟨#[], #[.agg #[.int .u8 0, .int .u8 0, .int .u8 0, .int .u8 0, .int .u8 0, .int .u8 0, .int .u8 0, .int .u8 0, .int .u16 0, .int .u16 0], .agg #[.int .u8 0, .int .u8 0, .int .u8 0, .int .u8 0, .int .u8 0, .int .u8 0, .int .u8 0, .int .u8 0, .int .u16 0, .int .u16 0], .slice none 0 0], []⟩ 8 (by kernel_rfl) (by kernel_rfl) (by kernel_rfl) (by kernel_rfl)) ?_
  intro W base args ds gs before hval hW _ _
  exact contract H enc W base args ds gs before hval hW

theorem proved : Rows.RegsAgainSaid :=
  OpenClaim.holds_of_wide 6 Try.f6 rfl rfl rfl rfl rfl rfl rfl ⟨rfl, rfl, rfl, rfl, rfl⟩ rfl rfl rfl rfl rfl (by kernel_rfl) Try.func6 (by kernel_rfl)
    (of_decide_eq_true (by kernel_rfl)) (by unfold Func.isWrapper; first | (rw [if_pos (by decide +kernel)]; kernel_rfl) | (rw [if_neg (by decide +kernel)]; exact ⟨rfl, rfl⟩))
    (fun os started H enc _ => lifted os started H enc)
end Go.Proofs.Ytmpkhjimemdhhaa.regsAgain
