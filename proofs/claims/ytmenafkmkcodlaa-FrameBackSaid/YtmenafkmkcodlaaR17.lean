/-
  The plain law of frames one behind the other, and what is between. Conditions stand in each theorem.
-/
import Derived.Test.YtmenafkmkcodlaaR15
namespace Go.Proofs.Ytmenafkmkcodlaa
open Go.RowKit sym
set_option linter.unusedVariables false
set_option linter.unusedSimpArgs false
/-- A frame that came in. -/
structure FrIn where
  s : Int
  a : Option Addr
  xs : List Int
  n : Nat
  c : Nat
def frCell (F : Nat → FrIn) (i q : Nat) : Sc := match q with
  | 0 => .int false .u8 (F i).s
  | _ => .xr (F i).a [.u8] (F i).xs (F i).n (F i).c
theorem scan_junk : ∀ (J R : List Int), (∀ x ∈ J, x ≠ 165) → scanL (J ++ R) = ((scanL R).1, (scanL R).2.1 + J.length, (scanL R).2.2)
  | [], R, _ => rfl
  | x :: J, R, h => by
    have h0 : atL (x :: J ++ R) = 0 := by
      unfold atL
      rw [if_neg]
      exact h x (List.mem_cons_self ..)
    have ih := scan_junk J R fun y hy => h y (List.mem_cons_of_mem _ hy)
    rw [scan_0 (by simp) h0]
    simp only [List.cons_append, List.drop_succ_cons, List.drop_zero, List.length_cons]
    rw [ih]
    simp only
    rw [Nat.add_assoc]
theorem scan_enc {s : Int} {X R : List Int} {n : Nat} (hl : X.length = n) (hn : n ≤ 64) : scanL (encX s X ++ R) = ((s, X) :: (scanL R).1, (scanL R).2.1, (scanL R).2.2) := by
  obtain ⟨g0, g2, g3, g4, gd⟩ := enc_parts (s := s) hl
  have hel : (encX s X).length = n + 5 := by rw [encX_length, hl]
  obtain ⟨k0, k1⟩ := crcL_W (s :: (n : Int) :: X)
  have b0 : (encX s X ++ R).getD 0 0 = 165 := by rw [getD_app (by omega), g0]
  have b2 : whN (encX s X ++ R) = n := by unfold whN; rw [getD_app (by omega), g2, Int.toNat_natCast]
  have hbl : (encX s X ++ R).length = n + 5 + R.length := by rw [List.length_append, hel]
  have hok : okF (encX s X ++ R) = true := by
    unfold okF
    rw [b2, getD_app (by omega), getD_app (by omega), g3, g4, List.drop_append_of_le_length (by omega), List.take_append_of_le_length (by rw [List.length_drop]; omega), gd]
    apply beq_iff_eq.2
    omega
  have hat : atL (encX s X ++ R) = 1 := by
    unfold atL
    rw [if_pos b0]
    unfold whL
    rw [b2, hok, if_neg (by omega), if_neg (by omega), if_neg (by omega), if_pos rfl]
  have hne : encX s X ++ R ≠ [] := by intro e; rw [e] at hbl; simp at hbl; omega
  have hfr : frOfL (encX s X ++ R) = (s, X) := by
    unfold frOfL
    rw [b2]
    have e1 : (encX s X ++ R).getD 1 0 = s := rfl
    have e2 : ((encX s X ++ R).drop 3).take n = X := by
      show ((X ++ _) ++ R).take n = X
      rw [List.append_assoc, ← hl]
      exact List.take_left
    rw [e1, e2]
  have hdr : (encX s X ++ R).drop (n + 5) = R := by rw [← hel]; exact List.drop_left
  rw [scan_1 hne hat, hfr, b2, hdr]
/-- One frame more, behind bytes that begin none. -/
theorem scan_more {S J X : List Int} {s : Int} {n : Nat} (hw : (scanL S).2.2 = []) (hj : ∀ x ∈ J, x ≠ 165) (hl : X.length = n) (hn : n ≤ 64) : (scanL (S ++ J ++ encX s X)).1 = (scanL S).1 ++ [(s, X)] ∧ (scanL (S ++ J ++ encX s X)).2.2 = [] := by
  have e1 := scan_junk J (encX s X) hj
  have e2 := scan_enc (s := s) (X := X) (R := []) hl hn
  rw [List.append_nil, scan_nil] at e2
  rw [List.append_assoc, scan_append, hw, List.nil_append, e1, e2]
  exact ⟨rfl, rfl⟩
end Go.Proofs.Ytmenafkmkcodlaa
