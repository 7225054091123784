/-
  What is asked for, and what it does not depend on.
-/
import Derived.Test.YtmbahohmiecfiaaR18
namespace Go.Proofs.Ytmbahohmiecfiaa
open Go.RowKit sym
set_option linter.unusedVariables false
set_option linter.unusedSimpArgs false
set_option maxRecDepth 100000
theorem asks_cnt (nm F : Int → Int) : ∀ (L S : List Int), (asksL nm F L S).length ≤ cnt3 L ∧ ((evalL nm F L S).2 = 0 → (asksL nm F L S).length = cnt3 L)
  | [], S => ⟨by simp [asksL], fun _ => by simp [asksL, cnt3]⟩
  | [_], S => ⟨by simp [asksL], fun _ => by simp [asksL, cnt3]⟩
  | op :: n :: r, S => by
    have ih := asks_cnt nm F r
    rw [asksL, evalL, cnt3]
    by_cases h0 : takesL op n < 0 ∨ (S.length : Int) < takesL op n
    · rw [if_pos h0, if_pos h0]
      exact ⟨Nat.zero_le _, fun h => absurd h (by decide)⟩
    · rw [if_neg h0, if_neg h0]
      by_cases h1 : takesL op n = 0
      · have h3 : op ≠ 3 := by
          rintro rfl
          unfold takesL at h1
          split at h1
          · rename_i h; omega
          · split at h1
            · omega
            · split at h1 <;> omega
        rw [if_pos h1, if_pos h1, if_neg h3, Nat.zero_add]
        exact ih _
      · rw [if_neg h1, if_neg h1]
        by_cases h2 : takesL op n = 1
        · rw [if_pos h2, if_pos h2, List.length_append]
          have hd : ∀ u, (askD op u).length = if op = 3 then 1 else 0 := fun u => by unfold askD; split <;> rfl
          rw [hd]
          have := ih (S.take (S.length - 1) ++ [oneL F op (S.getD (S.length - 1) 0)])
          exact ⟨by omega, fun h => by have := this.2 h; omega⟩
        · rw [if_neg h2, if_neg h2]
          by_cases h4 : (twoL op (S.getD (S.length - 2) 0) (S.getD (S.length - 1) 0)).2 ≠ 0
          · rw [if_pos h4, if_pos h4]
            exact ⟨Nat.zero_le _, fun h => absurd h h4⟩
          · rw [if_neg h4, if_neg h4]
            have h3 : op ≠ 3 := by
              rintro rfl
              apply h2
              unfold takesL at h0 h1 ⊢
              split
              · rename_i h; omega
              · split
                · rename_i h5 h6
                  rw [if_neg h5, if_pos h6] at h0
                  omega
                · rfl
            rw [if_neg h3, Nat.zero_add]
            exact ih _
def Agree (nm nm2 : Int → Int) : List Int → Prop
  | op :: n :: r => (op = 2 → nm n = nm2 n) ∧ Agree nm nm2 r
  | _ => True
theorem agree_eval {nm nm2 : Int → Int} (F : Int → Int) : ∀ (L S : List Int), Agree nm nm2 L → evalL nm F L S = evalL nm2 F L S ∧ asksL nm F L S = asksL nm2 F L S
  | [], S, _ => ⟨rfl, rfl⟩
  | [_], S, _ => ⟨rfl, rfl⟩
  | op :: n :: r, S, h => by
    have ih := fun S => agree_eval F r S h.2
    have e : (if op = 2 then nm n else n) = if op = 2 then nm2 n else n := by
      split
      · rename_i h2; exact h.1 h2
      · rfl
    rw [asksL, evalL, asksL, evalL, e]
    simp only [(ih _).1, (ih _).2, and_self]
theorem agree_of {nm nm2 : Int → Int} : ∀ {L : List Int}, (∀ j : Nat, j * 2 + 1 < L.length → L.getD (j * 2) 0 = 2 → nm (L.getD (j * 2 + 1) 0) = nm2 (L.getD (j * 2 + 1) 0)) → Agree nm nm2 L
  | [], _ => trivial
  | [_], _ => trivial
  | op :: n :: r, h => by
    refine ⟨fun h2 => h 0 (by simp) h2, agree_of fun j hj h2 => ?_⟩
    have := h (j + 1) (by simp only [List.length_cons]; omega)
    rw [show (j + 1) * 2 = j * 2 + 1 + 1 by omega, show j * 2 + 1 + 1 + 1 = (j * 2 + 1) + 1 + 1 by omega] at this
    simp only [List.getD_cons_succ] at this
    exact this h2
def NmOk : List Int → Prop
  | op :: n :: r => (op = 2 → 0 ≤ n ∧ n < 18) ∧ NmOk r
  | _ => True
theorem one_nm {z : List Int} (h : One z) : ∀ r, NmOk r → NmOk (z ++ r) := by
  induction h with
  | num n _ => exact fun r hr => ⟨fun h => absurd h (by decide), hr⟩
  | name n h0 h1 => exact fun r hr => ⟨fun _ => ⟨h0, h1⟩, hr⟩
  | un op z h3 h6 _ ih =>
    intro r hr
    rw [List.append_assoc]
    exact ih _ ⟨fun h => absurd h (by omega), hr⟩
  | bin op z y h7 h24 _ _ ih1 ih2 =>
    intro r hr
    rw [List.append_assoc, List.append_assoc]
    exact ih1 _ (ih2 _ ⟨fun h => absurd h (by omega), hr⟩)
theorem nm_at : ∀ (j : Nat) {L : List Int}, NmOk L → j * 2 + 1 < L.length → L.getD (j * 2) 0 = 2 → 0 ≤ L.getD (j * 2 + 1) 0 ∧ L.getD (j * 2 + 1) 0 < 18
  | 0, op :: n :: r, h, _, h2 => h.1 h2
  | j + 1, op :: n :: r, h, hj, h2 => by
    rw [show (j + 1) * 2 = j * 2 + 1 + 1 by omega] at h2 ⊢
    simp only [List.getD_cons_succ] at h2 ⊢
    exact nm_at j h.2 (by simp only [List.length_cons] at hj; omega) h2
  | 0, [_], _, hj, _ => by simp at hj
  | 0, [], _, hj, _ => by simp at hj
  | j + 1, [_], _, hj, _ => by simp at hj
  | j + 1, [], _, hj, _ => by simp at hj
theorem name_same (qa qf qb qc qd qe qh ql sp pc ad va ki ba wad wva wsp wqb n : Int) (h1 : n = 14 → wad = ad) (h2 : n = 15 → wva = va) (h3 : n = 12 → wsp = sp) (h4 : n = 2 → wqb = qb) (h5 : n = 9 → wqb = qb) : nameL qa qf qb qc qd qe qh ql sp pc ad va ki ba n = nameL qa qf wqb qc qd qe qh ql wsp pc wad wva ki ba n := by
  by_cases k1 : n = 14
  · rw [h1 k1]; subst k1; simp [nameL]
  by_cases k2 : n = 15
  · rw [h2 k2]; subst k2; simp [nameL]
  by_cases k3 : n = 12
  · rw [h3 k3]; subst k3; simp [nameL]
  by_cases k4 : n = 2
  · rw [h4 k4]; subst k4; simp [nameL]
  by_cases k5 : n = 9
  · rw [h5 k5]; subst k5; simp [nameL]
  simp only [nameL, k1, k2, k3, k4, k5, if_false]
  simp [pairL]
end Go.Proofs.Ytmbahohmiecfiaa
