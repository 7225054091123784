/-
  The plain law of frames in bytes: what bytes have that come in pieces. Conditions stand in each theorem.
-/
import Derived.Test.YtmenafkmkcodlaaR7
namespace Go.Proofs.Ytmenafkmkcodlaa
open Go.RowKit sym
set_option linter.unusedVariables false
set_option linter.unusedSimpArgs false
theorem getD_app {b c : List Int} {j : Nat} (h : j < b.length) : (b ++ c).getD j 0 = b.getD j 0 := by
  rw [List.getD_eq_getElem?_getD, List.getD_eq_getElem?_getD, List.getElem?_append_left h]
theorem at_ext {b c : List Int} (hne : b ≠ []) (h : atL b ≠ 2) : atL (b ++ c) = atL b ∧ (atL b = 1 → whN (b ++ c) = whN b ∧ frOfL (b ++ c) = frOfL b ∧ (b ++ c).drop (whN b + 5) = b.drop (whN b + 5) ++ c) := by
  have hl : 0 < b.length := by
    cases b with
    | nil => exact absurd rfl hne
    | cons => simp
  have h0 : (b ++ c).getD 0 0 = b.getD 0 0 := getD_app hl
  by_cases h165 : b.getD 0 0 = 165
  · have ha : atL b = whL b := by unfold atL; rw [if_pos h165]
    have ha' : atL (b ++ c) = whL (b ++ c) := by unfold atL; rw [h0, if_pos h165]
    rw [ha] at h
    have h3 : ¬ b.length < 3 := fun h3 => h (by unfold whL; rw [if_pos h3])
    have hw : whN (b ++ c) = whN b := by unfold whN; rw [getD_app (by omega)]
    by_cases h64 : 64 < whN b
    · have e1 : whL b = 0 := by unfold whL; rw [if_neg h3, if_pos h64]
      have e2 : whL (b ++ c) = 0 := by unfold whL; rw [hw, if_neg (by simp; omega), if_pos h64]
      rw [ha', ha, e1, e2]
      exact ⟨rfl, fun h => by cases h⟩
    · have h5 : ¬ b.length < whN b + 5 := fun h5 => h (by unfold whL; rw [if_neg h3, if_neg h64, if_pos h5])
      have hok : okF (b ++ c) = okF b := by
        unfold okF
        rw [hw, getD_app (by omega), getD_app (by omega), List.drop_append_of_le_length (by omega), List.take_append_of_le_length (by simp; omega)]
      have e2 : whL (b ++ c) = whL b := by
        unfold whL
        rw [hw, hok, if_neg h3, if_neg h64, if_neg h5, if_neg (by simp; omega), if_neg h64, if_neg (by simp; omega)]
      rw [ha', ha, e2]
      refine ⟨rfl, fun _ => ⟨hw, ?_, List.drop_append_of_le_length (by omega)⟩⟩
      unfold frOfL
      rw [hw, getD_app (by omega), List.drop_append_of_le_length (by omega), List.take_append_of_le_length (by simp; omega)]
  · have e1 : atL b = 0 := by unfold atL; rw [if_neg h165]
    have e2 : atL (b ++ c) = 0 := by unfold atL; rw [h0, if_neg h165]
    rw [e1, e2]
    exact ⟨rfl, fun h => by cases h⟩
theorem scan_append_le : ∀ (k : Nat) (P Q : List Int), P.length ≤ k → scanL (P ++ Q) = ((scanL P).1 ++ (scanL ((scanL P).2.2 ++ Q)).1, (scanL P).2.1 + (scanL ((scanL P).2.2 ++ Q)).2.1, (scanL ((scanL P).2.2 ++ Q)).2.2)
  | k, [], Q, _ => by rw [scan_nil]; simp
  | 0, x :: t, Q, h => by simp at h
  | k + 1, x :: t, Q, h => by
    have hne : x :: t ≠ [] := by simp
    have hne2 : x :: t ++ Q ≠ [] := by simp
    rcases at_le (x :: t) with h0 | h1 | h2
    · obtain ⟨e, _⟩ := at_ext (c := Q) hne (by omega)
      have ih := scan_append_le k t Q (by simpa using h)
      rw [scan_0 hne2 (e.trans h0), scan_0 hne h0]
      simp only [List.cons_append, List.drop_succ_cons, List.drop_zero]
      rw [ih]
      simp only
      rw [Nat.add_right_comm]
    · obtain ⟨e, e2⟩ := at_ext (c := Q) hne (by omega)
      obtain ⟨e3, e4, e5⟩ := e2 h1
      have ih := scan_append_le k ((x :: t).drop (whN (x :: t) + 5)) Q (by simp only [List.length_drop]; simp only [List.length_cons] at h ⊢; omega)
      rw [scan_1 hne2 (e.trans h1), scan_1 hne h1, e3, e4, e5, ih]
      simp only [List.cons_append]
    · rw [scan_2 h2]
      simp
theorem scan_append (P Q : List Int) : scanL (P ++ Q) = ((scanL P).1 ++ (scanL ((scanL P).2.2 ++ Q)).1, (scanL P).2.1 + (scanL ((scanL P).2.2 ++ Q)).2.1, (scanL ((scanL P).2.2 ++ Q)).2.2) := scan_append_le _ P Q (Nat.le_refl _)
theorem scan_in_le : ∀ (k : Nat) (P : List Int), P.length ≤ k → (scanL P).1.length ≤ P.length ∧ (scanL P).2.1 ≤ P.length ∧ (scanL P).2.2.length ≤ P.length ∧ (∀ e ∈ (scanL P).1, e.2.length ≤ 64) ∧ ∀ x ∈ (scanL P).2.2, x ∈ P
  | k, [], _ => by rw [scan_nil]; simp
  | 0, x :: t, h => by simp at h
  | k + 1, x :: t, h => by
    have hne : x :: t ≠ [] := by simp
    rcases at_le (x :: t) with h0 | h1 | h2
    · obtain ⟨i1, i2, i3, i4, i5⟩ := scan_in_le k t (by simpa using h)
      rw [scan_0 hne h0]
      simp only [List.drop_succ_cons, List.drop_zero, List.length_cons]
      exact ⟨by omega, by omega, by omega, i4, fun y hy => List.mem_cons_of_mem _ (i5 y hy)⟩
    · obtain ⟨g1, g2, g3, g4⟩ := at_1 h1
      have hd : ((x :: t).drop (whN (x :: t) + 5)).length ≤ k := by simp only [List.length_drop, List.length_cons] at h ⊢; omega
      obtain ⟨i1, i2, i3, i4, i5⟩ := scan_in_le k _ hd
      have hl : ((x :: t).drop (whN (x :: t) + 5)).length + 1 ≤ (x :: t).length := by rw [List.length_drop]; omega
      rw [scan_1 hne h1]
      refine ⟨by simp only [List.length_cons] at *; omega, by simp only at *; omega, by simp only at *; omega, fun e he => ?_, fun y hy => List.mem_of_mem_drop (i5 y hy)⟩
      rcases List.mem_cons.1 he with rfl | he
      · unfold frOfL
        simp only [List.length_take]
        omega
      · exact i4 e he
    · rw [scan_2 h2]
      exact ⟨by simp, by simp, Nat.le_refl _, by simp, fun y hy => hy⟩
theorem scan_in (P : List Int) : (scanL P).1.length ≤ P.length ∧ (scanL P).2.1 ≤ P.length ∧ (scanL P).2.2.length ≤ P.length ∧ (∀ e ∈ (scanL P).1, e.2.length ≤ 64) ∧ ∀ x ∈ (scanL P).2.2, x ∈ P := scan_in_le _ P (Nat.le_refl _)
theorem scan_B {P : List Int} (h : Bs P) : Bs (scanL P).2.2 := .of fun x hx => h.mem ((scan_in P).2.2.2.2 x hx)
/-- A piece more. -/
theorem scan_take {X : List Int} {a b : Nat} (h : a ≤ b) : scanL (X.take b) = ((scanL (X.take a)).1 ++ (scanL ((scanL (X.take a)).2.2 ++ (X.drop a).take (b - a))).1, (scanL (X.take a)).2.1 + (scanL ((scanL (X.take a)).2.2 ++ (X.drop a).take (b - a))).2.1, (scanL ((scanL (X.take a)).2.2 ++ (X.drop a).take (b - a))).2.2) := by
  rw [← scan_append]
  congr 1
  have : X.take b = X.take (a + (b - a)) := by rw [show a + (b - a) = b by omega]
  rw [this, List.take_add]
/-- Where a piece ends. -/
def pcE (n at_ : Nat) (c : Int) : Int := IntKind.i64.wrap ((at_ : Int) + if false = true then if IntKind.i64.wrap ((n : Int) - (at_ : Int)) > (IntKind.i64.wrap c).tmod 40 then IntKind.i64.wrap ((n : Int) - (at_ : Int)) else (IntKind.i64.wrap c).tmod 40 else if IntKind.i64.wrap ((n : Int) - (at_ : Int)) < (IntKind.i64.wrap c).tmod 40 then IntKind.i64.wrap ((n : Int) - (at_ : Int)) else (IntKind.i64.wrap c).tmod 40)
def pcN (n at_ : Nat) (c : Int) : Nat := at_ + min (c.toNat % 40) (n - at_)
theorem pcE_is {n at_ : Nat} {c : Int} (hc : W c) (ha : at_ ≤ n) (hn : n ≤ 1000000) : pcE n at_ c = (pcN n at_ c : Nat) := by
  obtain ⟨h0, h1⟩ := hc
  have e1 : IntKind.i64.wrap c = c := wi64 _ (by omega) (by omega)
  have e2 : IntKind.i64.wrap ((n : Int) - (at_ : Int)) = ((n - at_ : Nat) : Int) := by rw [wi64 _ (by omega) (by omega)]; omega
  have e3 : c.tmod 40 = ((c.toNat % 40 : Nat) : Int) := by rw [Int.tmod_eq_emod_of_nonneg h0]; omega
  unfold pcE pcN
  rw [e1, e2, e3, if_neg (by decide)]
  have e4 : (if ((n - at_ : Nat) : Int) < ((c.toNat % 40 : Nat) : Int) then ((n - at_ : Nat) : Int) else ((c.toNat % 40 : Nat) : Int)) = ((min (c.toNat % 40) (n - at_) : Nat) : Int) := by
    split <;> omega
  rw [e4, wi64 _ (by omega) (by omega)]
  omega
theorem pcN_in {n at_ : Nat} {c : Int} (ha : at_ ≤ n) : at_ ≤ pcN n at_ c ∧ pcN n at_ c ≤ n := by unfold pcN; omega
end Go.Proofs.Ytmenafkmkcodlaa
