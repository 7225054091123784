/-
  The plain law of a clock, second part: as many seconds as a number, cycles in parts, what a write and a hold leave. Bytes are below 256, days 0 to 511.
-/
import Derived.Test.YtpmgaoigelplgaaPlain
namespace Go.Proofs.Ytpmgaoigelplgaa
namespace Ck
/-- As seconds. -/
def tot (a : Hd) : Int := 86400 * a.d + 3600 * a.h + 60 * a.m + a.s
structure Can (a : Hd) : Prop where
  s : 0 ≤ a.s ∧ a.s < 60
  m : 0 ≤ a.m ∧ a.m < 60
  h : 0 ≤ a.h ∧ a.h < 24
  d : 0 ≤ a.d ∧ a.d < 512
theorem next_tot {a : Hd} (h : Can a) : Can (next a) ∧ (tot a + 1 < 44236800 → tot (next a) = tot a + 1 ∧ (next a).cy = a.cy) ∧ (tot a + 1 = 44236800 → tot (next a) = 0 ∧ (next a).cy = true) := by
  obtain ⟨s, m, h, d, cy⟩ := a
  obtain ⟨⟨s1, s2⟩, ⟨m1, m2⟩, ⟨h1, h2⟩, ⟨d1, d2⟩⟩ := h
  simp only at s1 s2 m1 m2 h1 h2 d1 d2
  unfold next tot
  simp only
  repeat' split
  all_goals refine ⟨⟨?_, ?_, ?_, ?_⟩, fun _ => ⟨?_, ?_⟩, fun _ => ⟨?_, ?_⟩⟩
  all_goals first | rfl | (simp only; omega) | (exfalso; omega)
theorem Can.tot {a : Hd} (h : Can a) : 0 ≤ tot a ∧ tot a < 44236800 := by
  obtain ⟨⟨s1, s2⟩, ⟨m1, m2⟩, ⟨h1, h2⟩, ⟨d1, d2⟩⟩ := h
  unfold Ck.tot
  exact ⟨by omega, by omega⟩
theorem secs_tot {a : Hd} (h : Can a) (hc : a.cy = false) : ∀ n : Nat, n ≤ 1024 → Can (secs n a) ∧ (tot a + n < 44236800 → tot (secs n a) = tot a + n ∧ (secs n a).cy = false) ∧ (44236800 ≤ tot a + n → tot (secs n a) = tot a + n - 44236800 ∧ (secs n a).cy = true)
  | 0, _ => ⟨h, fun _ => ⟨by simp [secs], hc⟩, fun h' => by have := h.tot; omega⟩
  | n + 1, hn => by
    obtain ⟨c, l, g⟩ := secs_tot h hc n (by omega)
    obtain ⟨c', l', g'⟩ := next_tot c
    have ht := h.tot
    have ht' := c.tot
    refine ⟨c', fun h1 => ?_, fun h1 => ?_⟩
    · obtain ⟨e1, e2⟩ := l (by omega)
      obtain ⟨e3, e4⟩ := l' (by omega)
      exact ⟨by show tot (next (secs n a)) = _; omega, by show (next (secs n a)).cy = false; rw [e4, e2]⟩
    · rcases Int.lt_or_le (tot a + n) 44236800 with h2 | h2
      · obtain ⟨e1, e2⟩ := l h2
        obtain ⟨e3, e4⟩ := g' (by omega)
        exact ⟨by show tot (next (secs n a)) = _; omega, e4⟩
      · obtain ⟨e1, e2⟩ := g h2
        obtain ⟨e3, e4⟩ := l' (by omega)
        exact ⟨by show tot (next (secs n a)) = _; omega, by show (next (secs n a)).cy = true; rw [e4, e2]⟩
/-- So many seconds later. -/
theorem later {a : Hd} (h : Can a) (hc : a.cy = false) (n : Nat) (hn : n ≤ 1024) (b : Hd) (hb : b = secs n a) : b.s = (tot a + n) % 60 ∧ b.m = (tot a + n) / 60 % 60 ∧ b.h = (tot a + n) / 3600 % 24 ∧ b.d = (tot a + n) / 86400 % 512 ∧ b.cy = decide (tot a + n ≥ 44236800) := by
  subst hb
  obtain ⟨c, l, g⟩ := secs_tot h hc n hn
  generalize secs n a = b at c l g
  have ht := h.tot
  obtain ⟨⟨s1, s2⟩, ⟨m1, m2⟩, ⟨h1, h2⟩, ⟨d1, d2⟩⟩ := c
  rcases Int.lt_or_le (tot a + n) 44236800 with h3 | h3
  · obtain ⟨e1, e2⟩ := l h3
    generalize tot a + n = t at *
    unfold tot at e1
    refine ⟨by omega, by omega, by omega, by omega, ?_⟩
    rw [e2]; symm; rw [decide_eq_false_iff_not]; omega
  · obtain ⟨e1, e2⟩ := g h3
    have htn : tot a + n < 2 * 44236800 := by omega
    generalize tot a + n = t at *
    unfold tot at e1
    refine ⟨by omega, by omega, by omega, by omega, ?_⟩
    rw [e2]; symm; rw [decide_eq_true_eq]; omega
/-- Cycles in parts. -/
theorem tk_add (t : Bool) (u n k : Int) (a : Hd) (hu : 0 ≤ u ∧ u < 1048576) (hn : 0 ≤ n) (hk : 0 ≤ k) (hs : n + k ≤ 1073741824) : tkH t (tkU t u n) k (tkH t u n a) = tkH t u (n + k) a ∧ tkU t (tkU t u n) k = tkU t u (n + k) := by
  have em : ∀ x : Int, x ≤ 1073741824 → mn x = x := fun x hx => by unfold mn; split <;> omega
  cases t with
  | true => simp [tkH, tkU]
  | false =>
    unfold tkH tkU
    simp only [Bool.false_eq_true, false_or]
    rw [em n (by omega), em k (by omega), em (n + k) hs]
    by_cases h1 : n < 1
    · have : n = 0 := by omega
      subst this
      simp
    · by_cases h2 : k < 1
      · have : k = 0 := by omega
        subst this
        simp [h1]
      · simp only [h1, h2, if_false, show ¬ n + k < 1 by omega]
        refine ⟨?_, by omega⟩
        rw [secs_add]
        congr 1
        have e1 : 0 ≤ (u + n) / 1048576 := by omega
        have e2 : 0 ≤ ((u + n) % 1048576 + k) / 1048576 := by omega
        omega
theorem tk_zero (t : Bool) (u : Int) (a : Hd) : tkH t u 0 a = a ∧ tkU t u 0 = u := by simp [tkH, tkU]
theorem tkU_lt {t : Bool} {u n : Int} (h : 0 ≤ u ∧ u < 1048576) : 0 ≤ tkU t u n ∧ tkU t u n < 1048576 := by unfold tkU; split; (exact h); (exact ⟨by omega, by omega⟩)
theorem wU_lt {p u : Int} (h : 0 ≤ u ∧ u < 1048576) : 0 ≤ wU p u ∧ wU p u < 1048576 := by unfold wU; split; (exact ⟨by omega, by omega⟩); (exact h)
theorem top4 (x d : Int) (hx : B x) : top (wD 4 x d) (wT 4 x false) (wC 4 x false) = bits .and .u8 x 193 := by
  have key : ∀ a : Nat, a < 256 → bits .and .u8 (a : Int) 193 = ((a % 2 + (if a / 64 % 2 = 1 then 64 else 0) + (if a / 128 = 1 then 128 else 0) : Nat) : Int) := by decide +kernel
  obtain ⟨n, rfl⟩ := Int.eq_ofNat_of_zero_le hx.1
  rw [key n (by have := hx.2; omega)]
  simp only [top, wD, wT, wC, show (4 : Int) ≠ 3 by decide, if_true, if_false]
  have e1 : ((n : Int) % 2 * 256 + d % 256) / 256 % 2 = ((n % 2 : Nat) : Int) := by omega
  rw [e1]
  have e2 : ((n : Int) / 64 % 2 = 1) ↔ n / 64 % 2 = 1 := by omega
  have e3 : ((n : Int) / 128 = 1) ↔ n / 128 = 1 := by omega
  simp only [e2, e3, decide_eq_true_eq]
  split <;> split <;> omega
/-- A call. -/
def doH (k p x : Int) (t : Bool) (u : Int) (a : Hd) : Hd := if k = 1 then tkH t u p a else if k = 2 then ⟨wS p x a.s, wM p x a.m, wH p x a.h, wD p x a.d, wC p x a.cy⟩ else a
def doU (k p : Int) (t : Bool) (u : Int) : Int := if k = 1 then tkU t u p else if k = 2 then wU p u else u
def doT (k p x : Int) (t : Bool) : Bool := if k = 2 then wT p x t else t
def doA (k v a : Int) : Int := if k = 3 then v else a
theorem doH_ok {k p x : Int} {t : Bool} {u : Int} {a : Hd} (hx : B x) (h : Ok a) : Ok (doH k p x t u a) := by
  unfold doH; split; (exact tkH_ok h); split; (exact w_ok hx h); (exact h)
theorem doU_ok {k p : Int} {t : Bool} {u : Int} (h : 0 ≤ u ∧ u ≤ 1048576) : 0 ≤ doU k p t u ∧ doU k p t u ≤ 1048576 := by
  unfold doU; split; (exact tkU_ok (by decide) h); split; (exact wU_ok (by decide) h); (exact h)
theorem doU_lt {k p : Int} {t : Bool} {u : Int} (h : 0 ≤ u ∧ u < 1048576) : 0 ≤ doU k p t u ∧ doU k p t u < 1048576 := by
  unfold doU; split; (exact tkU_lt h); split; (exact wU_lt h); (exact h)
end Ck
end Go.Proofs.Ytpmgaoigelplgaa
