/-
  EvalAsks: the given statement: for every input the law returns true, and the input reads as it did. No conditions.
-/
import Derived.Test.YtmbahohmiecfiaaR21
import Derived.Test.YtmbahohmiecfiaaK2
import Derived.WalkKit
import Derived.ProofKit
import Derived.OpenShut
namespace Go.Proofs.Ytmbahohmiecfiaa.evalAsks
open Go.ChangeShapes Go.WideShapes Go.ChangeAt Go.RowKit
set_option linter.unusedVariables false

set_option maxRecDepth 100000 in
theorem contract (H : Type) (enc : TypeId × Value → H) (W : World) (base : Nat) (args : Array Value) (ds gs : List (DataW H)) (before : List MemPlace)
    (hval : ∀ (j : Nat) t v, Try.f5.params[j]? = some t → args[j]? = some v → Value.okWide Try.prog W .any base t v)
    (hW : DataW.Whole enc Try.prog Try.f5.params.toList Rows.evalAsksSpec.vars false W args.toList ds gs before) :
    Calls Try.prog 5 args W fun e W' => ∃ v, e = .returned v ∧ Rows.evalAsksSpec.post enc Try.prog Try.f5 false true false false W args v W' := by
  have hW' := hW
  obtain ⟨p, q, hA0, hV, hpq, hfz, hnd⟩ := hW
  have hA : DataW.TrodAll enc Try.prog W 0 (fun _ => true) true Try.f5.params.toList args.toList ds p := hA0
  rw [Try.params5] at hA hval
  obtain ⟨v0, vs0, d0, ds0, p0, q0, hargs, rfl, rfl, h0, r0⟩ := trodAll_cons hA
  obtain ⟨v1, vs1, d1, ds1, p1, q1, rfl, rfl, rfl, h1, r1⟩ := trodAll_cons r0
  obtain ⟨v2, vs2, d2, ds2, p2, q2, rfl, rfl, rfl, h2, r2⟩ := trodAll_cons r1
  obtain ⟨rfl, rfl, rfl⟩ := trodAll_nil r2
  obtain rfl : args = #[v0, v1, v2] := by cases args; simp_all
  obtain ⟨cs1, rfl, len1, cell1⟩ := kit.open_row (ts := [5, 5, 5, 5, 5, 5, 5, 5, 23, 23, 3, 3, 3, 3, 26]) (by kernel_rfl) (by kernel_rfl) (by kernel_rfl) (hval 1 28 v1 rfl rfl)
  obtain ⟨c1_0, e1_0, k1_0⟩ := cell1 0 5 rfl
  obtain ⟨c1_1, e1_1, k1_1⟩ := cell1 1 5 rfl
  obtain ⟨c1_2, e1_2, k1_2⟩ := cell1 2 5 rfl
  obtain ⟨c1_3, e1_3, k1_3⟩ := cell1 3 5 rfl
  obtain ⟨c1_4, e1_4, k1_4⟩ := cell1 4 5 rfl
  obtain ⟨c1_5, e1_5, k1_5⟩ := cell1 5 5 rfl
  obtain ⟨c1_6, e1_6, k1_6⟩ := cell1 6 5 rfl
  obtain ⟨c1_7, e1_7, k1_7⟩ := cell1 7 5 rfl
  obtain ⟨c1_8, e1_8, k1_8⟩ := cell1 8 23 rfl
  obtain ⟨c1_9, e1_9, k1_9⟩ := cell1 9 23 rfl
  obtain ⟨c1_10, e1_10, k1_10⟩ := cell1 10 3 rfl
  obtain ⟨c1_11, e1_11, k1_11⟩ := cell1 11 3 rfl
  obtain ⟨c1_12, e1_12, k1_12⟩ := cell1 12 3 rfl
  obtain ⟨c1_13, e1_13, k1_13⟩ := cell1 13 3 rfl
  obtain ⟨c1_14, e1_14, k1_14⟩ := cell1 14 26 rfl
  obtain ⟨a1_0, rfl, w1_0⟩ := kit.cell_int Try.underlying5 k1_0
  obtain ⟨a1_1, rfl, w1_1⟩ := kit.cell_int Try.underlying5 k1_1
  obtain ⟨a1_2, rfl, w1_2⟩ := kit.cell_int Try.underlying5 k1_2
  obtain ⟨a1_3, rfl, w1_3⟩ := kit.cell_int Try.underlying5 k1_3
  obtain ⟨a1_4, rfl, w1_4⟩ := kit.cell_int Try.underlying5 k1_4
  obtain ⟨a1_5, rfl, w1_5⟩ := kit.cell_int Try.underlying5 k1_5
  obtain ⟨a1_6, rfl, w1_6⟩ := kit.cell_int Try.underlying5 k1_6
  obtain ⟨a1_7, rfl, w1_7⟩ := kit.cell_int Try.underlying5 k1_7
  obtain ⟨a1_8, rfl, w1_8⟩ := kit.cell_int Try.underlying23 k1_8
  obtain ⟨a1_9, rfl, w1_9⟩ := kit.cell_int Try.underlying23 k1_9
  obtain ⟨a1_10, rfl, w1_10⟩ := kit.cell_int Try.underlying3 k1_10
  obtain ⟨a1_11, rfl, w1_11⟩ := kit.cell_int Try.underlying3 k1_11
  obtain ⟨a1_12, rfl, w1_12⟩ := kit.cell_int Try.underlying3 k1_12
  obtain ⟨a1_13, rfl, w1_13⟩ := kit.cell_int Try.underlying3 k1_13
  obtain rfl : cs1 = [.int .u8 a1_0, .int .u8 a1_1, .int .u8 a1_2, .int .u8 a1_3, .int .u8 a1_4, .int .u8 a1_5, .int .u8 a1_6, .int .u8 a1_7, .int .u16 a1_8, .int .u16 a1_9, .int .i64 a1_10, .int .i64 a1_11, .int .i64 a1_12, .int .i64 a1_13, c1_14] := by
    refine List.ext_getElem? fun i => ?_
    match i with
    | 0 => exact e1_0
    | 1 => exact e1_1
    | 2 => exact e1_2
    | 3 => exact e1_3
    | 4 => exact e1_4
    | 5 => exact e1_5
    | 6 => exact e1_6
    | 7 => exact e1_7
    | 8 => exact e1_8
    | 9 => exact e1_9
    | 10 => exact e1_10
    | 11 => exact e1_11
    | 12 => exact e1_12
    | 13 => exact e1_13
    | 14 => exact e1_14
    | i + 15 => rw [List.getElem?_eq_none (by rw [len1]; simp), List.getElem?_eq_none (by simp)]
  obtain ⟨A1, n1, c1, z1, rfl, cm1, cl1, wz1, hz1⟩ := open_ints_cell (e := 5) (j := 5) (o := 14) Try.underlying28 rfl rfl rfl Try.underlying26 Try.underlying5 (by kernel_rfl) (by kernel_rfl) rfl h1
  obtain ⟨cs2, rfl, len2, cell2⟩ := kit.open_row (ts := [5, 5, 5, 5, 5, 5, 5, 5, 23, 23, 3, 3, 3, 3, 26]) (by kernel_rfl) (by kernel_rfl) (by kernel_rfl) (hval 2 28 v2 rfl rfl)
  obtain ⟨c2_0, e2_0, k2_0⟩ := cell2 0 5 rfl
  obtain ⟨c2_1, e2_1, k2_1⟩ := cell2 1 5 rfl
  obtain ⟨c2_2, e2_2, k2_2⟩ := cell2 2 5 rfl
  obtain ⟨c2_3, e2_3, k2_3⟩ := cell2 3 5 rfl
  obtain ⟨c2_4, e2_4, k2_4⟩ := cell2 4 5 rfl
  obtain ⟨c2_5, e2_5, k2_5⟩ := cell2 5 5 rfl
  obtain ⟨c2_6, e2_6, k2_6⟩ := cell2 6 5 rfl
  obtain ⟨c2_7, e2_7, k2_7⟩ := cell2 7 5 rfl
  obtain ⟨c2_8, e2_8, k2_8⟩ := cell2 8 23 rfl
  obtain ⟨c2_9, e2_9, k2_9⟩ := cell2 9 23 rfl
  obtain ⟨c2_10, e2_10, k2_10⟩ := cell2 10 3 rfl
  obtain ⟨c2_11, e2_11, k2_11⟩ := cell2 11 3 rfl
  obtain ⟨c2_12, e2_12, k2_12⟩ := cell2 12 3 rfl
  obtain ⟨c2_13, e2_13, k2_13⟩ := cell2 13 3 rfl
  obtain ⟨c2_14, e2_14, k2_14⟩ := cell2 14 26 rfl
  obtain ⟨a2_0, rfl, w2_0⟩ := kit.cell_int Try.underlying5 k2_0
  obtain ⟨a2_1, rfl, w2_1⟩ := kit.cell_int Try.underlying5 k2_1
  obtain ⟨a2_2, rfl, w2_2⟩ := kit.cell_int Try.underlying5 k2_2
  obtain ⟨a2_3, rfl, w2_3⟩ := kit.cell_int Try.underlying5 k2_3
  obtain ⟨a2_4, rfl, w2_4⟩ := kit.cell_int Try.underlying5 k2_4
  obtain ⟨a2_5, rfl, w2_5⟩ := kit.cell_int Try.underlying5 k2_5
  obtain ⟨a2_6, rfl, w2_6⟩ := kit.cell_int Try.underlying5 k2_6
  obtain ⟨a2_7, rfl, w2_7⟩ := kit.cell_int Try.underlying5 k2_7
  obtain ⟨a2_8, rfl, w2_8⟩ := kit.cell_int Try.underlying23 k2_8
  obtain ⟨a2_9, rfl, w2_9⟩ := kit.cell_int Try.underlying23 k2_9
  obtain ⟨a2_10, rfl, w2_10⟩ := kit.cell_int Try.underlying3 k2_10
  obtain ⟨a2_11, rfl, w2_11⟩ := kit.cell_int Try.underlying3 k2_11
  obtain ⟨a2_12, rfl, w2_12⟩ := kit.cell_int Try.underlying3 k2_12
  obtain ⟨a2_13, rfl, w2_13⟩ := kit.cell_int Try.underlying3 k2_13
  obtain rfl : cs2 = [.int .u8 a2_0, .int .u8 a2_1, .int .u8 a2_2, .int .u8 a2_3, .int .u8 a2_4, .int .u8 a2_5, .int .u8 a2_6, .int .u8 a2_7, .int .u16 a2_8, .int .u16 a2_9, .int .i64 a2_10, .int .i64 a2_11, .int .i64 a2_12, .int .i64 a2_13, c2_14] := by
    refine List.ext_getElem? fun i => ?_
    match i with
    | 0 => exact e2_0
    | 1 => exact e2_1
    | 2 => exact e2_2
    | 3 => exact e2_3
    | 4 => exact e2_4
    | 5 => exact e2_5
    | 6 => exact e2_6
    | 7 => exact e2_7
    | 8 => exact e2_8
    | 9 => exact e2_9
    | 10 => exact e2_10
    | 11 => exact e2_11
    | 12 => exact e2_12
    | 13 => exact e2_13
    | 14 => exact e2_14
    | i + 15 => rw [List.getElem?_eq_none (by rw [len2]; simp), List.getElem?_eq_none (by simp)]
  obtain ⟨A2, n2, c2, z2, rfl, cm2, cl2, wz2, hz2⟩ := open_ints_cell (e := 5) (j := 5) (o := 14) Try.underlying28 rfl rfl rfl Try.underlying26 Try.underlying5 (by kernel_rfl) (by kernel_rfl) rfl h2
  obtain ⟨tx, rfl⟩ := okWide_string Try.underlying9 (hval 0 9 v0 rfl rfl)
  have hX1 : sym.XR W A1 [.u8] (ofF n1 z1) n1 := ⟨by simp [ofF_length], fun i hi => by
      rw [ofF_length] at hi
      obtain ⟨b, off, e, hb, hc⟩ := hz1 i hi
      refine ⟨b, off, e, hb, ?_⟩
      rw [ofF_get hi]
      simpa [Nat.mod_one] using hc i hi⟩
  refine (asks_walk W tx a1_0 a1_1 a1_2 a1_3 a1_4 a1_5 a1_6 a1_7 a1_8 a1_9 a1_10 a1_11 a1_12 a1_13 A1 _ n1 c1 a2_0 a2_1 a2_2 a2_3 a2_4 a2_5 a2_6 a2_7 a2_8 a2_9 a2_10 a2_11 a2_12 a2_13 A2 (ofF n2 z2) n2 c2 hX1).mono fun e W' ⟨he, hb⟩ => ?_
  subst he
  exact ⟨_, rfl, kit.law_post kit.laidOut (by kernel_rfl) (by kernel_rfl) Try.underlying4 rfl hW' rfl hb⟩

set_option maxRecDepth 100000 in
theorem lifted (os : Os) (started : os.Started) (H : Type) (enc : TypeId × Value → H) :
    ReturnsInHanded {} Try.checked os 5 .any (Rows.evalAsksSpec.pre6 enc Try.prog Try.f5 Rows.evalAsksRow.domain false) (Rows.evalAsksSpec.post enc Try.prog Try.f5 false true false false) := by
  refine returnsInHanded_of_change (C := Try.checked) kit.own started (by kernel_rfl) Try.func5
    (ChangeSpec.witness6 (enc := enc) (C := Try.checked) false ⟨#[], #[.string ⟨#[]⟩, .agg #[.int .u8 0, .int .u8 0, .int .u8 0, .int .u8 0, .int .u8 0, .int .u8 0, .int .u8 0, .int .u8 0, .int .u16 0, .int .u16 0, .int .i64 0, .int .i64 0, .int .i64 0, .int .i64 0, .slice none 0 0], .agg #[.int .u8 0, .int .u8 0, .int .u8 0, .int .u8 0, .int .u8 0, .int .u8 0, .int .u8 0, .int .u8 0, .int .u16 0, .int .u16 0, .int .i64 0, .int .i64 0, .int .i64 0, .int .i64 0, .slice none 0 0]], []⟩ 8 (by kernel_rfl) (by kernel_rfl) (by kernel_rfl) (by kernel_rfl)) ?_
  intro W base args ds gs before hval hW _ _
  exact contract H enc W base args ds gs before hval hW

theorem proved : Rows.EvalAsksSaid :=
  OpenClaim.holds_of_wide 5 Try.f5 rfl rfl rfl rfl rfl rfl rfl ⟨rfl, rfl, rfl, rfl, rfl⟩ rfl rfl rfl rfl rfl (by kernel_rfl) Try.func5 (by kernel_rfl)
    (of_decide_eq_true (by kernel_rfl)) (by unfold Func.isWrapper; first | (rw [if_pos (by decide +kernel)]; kernel_rfl) | (rw [if_neg (by decide +kernel)]; exact ⟨rfl, rfl⟩))
    (fun os started H enc _ => lifted os started H enc)
end Go.Proofs.Ytmbahohmiecfiaa.evalAsks
