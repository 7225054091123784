/-
  Plain law of packs: what is packed is laid back, a pack with more behind it has a tail, packs are small, numbers of bytes tell one other byte. No program in sight; conditions stand in each theorem.
-/
import Derived.Test.YtcfnfihemejjkaaR1
namespace Go.Proofs.Ytcfnfihemejjkaa
open Go.RowKit sym
set_option linter.unusedVariables false
set_option linter.unusedSimpArgs false
theorem lcp_drop : ∀ (a b : List Int), lcp (a.drop (lcp a b)) (b.drop (lcp a b)) = 0
  | [], b => by simp [lcp]
  | x :: xs, [] => by simp [lcp]
  | x :: xs, y :: ys => by
    by_cases h : x = y
    · have := lcp_drop xs ys
      simpa [lcp, h] using this
    · simp [lcp, h]
theorem lcp_take : ∀ (a b : List Int), a.take (lcp a b) = b.take (lcp a b)
  | [], b => by simp [lcp]
  | x :: xs, [] => by simp [lcp]
  | x :: xs, y :: ys => by
    by_cases h : x = y
    · have := lcp_take xs ys
      simpa [lcp, h] using this
    · simp [lcp, h]
/-- How many are other ones, up to where enough are alike. -/
def oth (a b : List Int) (k : Nat) : Nat :=
  if k < b.length then
    if 4 ≤ lcp (a.drop k) (b.drop k) ∨ k + lcp (a.drop k) (b.drop k) = b.length then k
    else oth a b (k + lcp (a.drop k) (b.drop k) + 1)
  else k
termination_by b.length - k
theorem oth_ge (a b : List Int) (k : Nat) : k ≤ oth a b k := by
  induction k using oth.induct (a := a) (b := b) with
  | case1 k h1 h2 => rw [oth, if_pos h1, if_pos h2]; exact Nat.le_refl _
  | case2 k h1 h2 ih => rw [oth, if_pos h1, if_neg h2]; omega
  | case3 k h1 => rw [oth, if_neg h1]; exact Nat.le_refl _
theorem oth_le (a b : List Int) (k : Nat) (h : k ≤ b.length) : oth a b k ≤ b.length := by
  induction k using oth.induct (a := a) (b := b) with
  | case1 k h1 h2 => rw [oth, if_pos h1, if_pos h2]; exact h
  | case2 k h1 h2 ih =>
    rw [oth, if_pos h1, if_neg h2]
    have := (lcp_le (a.drop k) (b.drop k)).2
    simp only [List.length_drop] at this
    exact ih (by omega)
  | case3 k h1 => rw [oth, if_neg h1]; exact h
/-- How many are other ones, behind those that are alike. -/
def kk (a b : List Int) : Nat := oth (a.drop (lcp a b)) (b.drop (lcp a b)) 0
theorem kk_one (a b : List Int) (h : lcp a b < b.length) : kk a b = oth (a.drop (lcp a b)) (b.drop (lcp a b)) 1 := by
  unfold kk
  rw [oth]
  simp only [List.drop_zero, lcp_drop, List.length_drop]
  rw [if_pos (by omega), if_neg (by omega)]
theorem kk_pos (a b : List Int) (h : lcp a b < b.length) : 0 < kk a b := by
  rw [kk_one a b h]
  exact oth_ge _ _ 1
theorem kk_le (a b : List Int) : lcp a b + kk a b ≤ b.length := by
  have h1 := (lcp_le a b).2
  have := oth_le (a.drop (lcp a b)) (b.drop (lcp a b)) 0 (Nat.zero_le _)
  simp only [List.length_drop] at this
  unfold kk
  omega
def num (n : Nat) : List Int := if n < 128 then [(n : Int)] else [((n % 128 + 128 : Nat) : Int), ((n / 128 : Nat) : Int)]
def pack (a b : List Int) : List Int :=
  num (lcp a b) ++
    if h : b.length ≤ lcp a b then [] else num (kk a b) ++ ((b.drop (lcp a b)).take (kk a b) ++ pack (a.drop (lcp a b + kk a b)) (b.drop (lcp a b + kk a b)))
termination_by b.length
decreasing_by
  have := kk_pos a b (by omega)
  simp only [List.length_drop]
  omega
theorem num_len (n : Nat) : 1 ≤ (num n).length ∧ (num n).length ≤ 2 := by unfold num; split <;> simp
theorem num_B {n : Nat} (h : n < 16384) : Bs (num n) := by
  unfold num
  split
  · exact .one ⟨by omega, by omega⟩
  · exact .cons ⟨by omega, by omega⟩ (.one ⟨by omega, by omega⟩)

/-! ### A number that bytes begin with -/
def gv (p : List Int) (i : Nat) : Nat := (p.getD i 0).toNat
def gK (p : List Int) : Nat := if gv p 0 < 128 then 1 else if gv p 1 < 128 then 2 else if gv p 2 < 128 then 3 else 4
def gE (p : List Int) : Int := if p.length < gK p then 2 else if 128 ≤ gv p (gK p - 1) ∨ (1 < gK p ∧ gv p (gK p - 1) = 0) then 5 else 0
def gN (p : List Int) : Nat := gv p 0 % 128 + (if 2 ≤ gK p then gv p 1 % 128 * 128 else 0) + (if 3 ≤ gK p then gv p 2 % 128 * 16384 else 0) + (if 4 ≤ gK p then gv p 3 % 128 * 2097152 else 0)
theorem gK_pos (p : List Int) : 1 ≤ gK p ∧ gK p ≤ 4 := by
  unfold gK
  split
  · omega
  · split
    · omega
    · split <;> omega
theorem gE_len {p : List Int} (h : gE p = 0) : gK p ≤ p.length := by
  unfold gE at h
  split at h
  · cases h
  · omega
theorem gN_lt (p : List Int) : gN p < 268435456 := by
  unfold gN
  split <;> split <;> split <;> omega
theorem gv_app {q : List Int} (r : List Int) {j : Nat} (h : j < q.length) : gv (q ++ r) j = gv q j := by
  unfold gv
  rw [List.getD_eq_getElem?_getD, List.getD_eq_getElem?_getD, List.getElem?_append_left h]
theorem get_app {q : List Int} (r : List Int) (h : gE q = 0) : gK (q ++ r) = gK q ∧ gN (q ++ r) = gN q ∧ gE (q ++ r) = 0 := by
  have hl := gE_len h
  have hv : ∀ j, j < gK q → gv (q ++ r) j = gv q j := fun j hj => gv_app r (by omega)
  have hk : gK (q ++ r) = gK q := by
    have h0 := hv 0
    have h1 := hv 1
    have h2 := hv 2
    unfold gK at *
    split at hv
    · rename_i g0
      have e0 := h0 (by simp [g0])
      rw [e0, if_pos g0, if_pos g0]
    · rename_i g0
      split at hv
      · rename_i g1
        have e0 := h0 (by simp [g0, g1])
        have e1 := h1 (by simp [g0, g1])
        rw [e0, e1]
        simp [g0, g1]
      · rename_i g1
        split at hv
        · rename_i g2
          have e0 := h0 (by simp [g0, g1, g2])
          have e1 := h1 (by simp [g0, g1, g2])
          have e2 := h2 (by simp [g0, g1, g2])
          rw [e0, e1, e2]
        · rename_i g2
          have e0 := h0 (by simp [g0, g1, g2])
          have e1 := h1 (by simp [g0, g1, g2])
          have e2 := h2 (by simp [g0, g1, g2])
          rw [e0, e1, e2]
  refine ⟨hk, ?_, ?_⟩
  · unfold gN
    have e1 : (if 2 ≤ gK q then gv (q ++ r) 1 % 128 * 128 else 0) = (if 2 ≤ gK q then gv q 1 % 128 * 128 else 0) := by
      split
      · rw [hv 1 (by omega)]
      · rfl
    have e2 : (if 3 ≤ gK q then gv (q ++ r) 2 % 128 * 16384 else 0) = (if 3 ≤ gK q then gv q 2 % 128 * 16384 else 0) := by
      split
      · rw [hv 2 (by omega)]
      · rfl
    have e3 : (if 4 ≤ gK q then gv (q ++ r) 3 % 128 * 2097152 else 0) = (if 4 ≤ gK q then gv q 3 % 128 * 2097152 else 0) := by
      split
      · rw [hv 3 (by omega)]
      · rfl
    rw [hk, hv 0 (gK_pos q).1, e1, e2, e3]
  · have := (gK_pos q).1
    unfold gE at h ⊢
    rw [hk, hv (gK q - 1) (by omega), if_neg (by simp; omega)]
    rw [if_neg (by omega)] at h
    exact h
theorem get_num {n : Nat} (hn : n < 16384) (r : List Int) : gK (num n ++ r) = (num n).length ∧ gN (num n ++ r) = n ∧ gE (num n ++ r) = 0 := by
  have one : gK (num n) = (num n).length ∧ gN (num n) = n ∧ gE (num n) = 0 := by
    by_cases h : n < 128
    · have e : num n = [(n : Int)] := by unfold num; rw [if_pos h]
      have v0 : gv (num n) 0 = n := by rw [e]; simp [gv]
      have hk : gK (num n) = 1 := by unfold gK; rw [v0, if_pos h]
      refine ⟨by rw [hk, e]; rfl, ?_, ?_⟩
      · unfold gN; rw [hk, v0]; simp; omega
      · unfold gE
        rw [hk, show (1 - 1 : Nat) = 0 from rfl, v0, if_neg (by rw [e]; simp), if_neg (by omega)]
    · have e : num n = [((n % 128 + 128 : Nat) : Int), ((n / 128 : Nat) : Int)] := by unfold num; rw [if_neg h]
      have v0 : gv (num n) 0 = n % 128 + 128 := by rw [e]; simp only [gv, List.getD_cons_zero, Int.toNat_natCast]
      have v1 : gv (num n) 1 = n / 128 := by rw [e]; simp only [gv, List.getD_cons_succ, List.getD_cons_zero, Int.toNat_natCast]
      have hk : gK (num n) = 2 := by unfold gK; rw [v0, v1, if_neg (by omega), if_pos (by omega)]
      refine ⟨by rw [hk, e]; rfl, ?_, ?_⟩
      · unfold gN; rw [hk, v0, v1]; simp; omega
      · unfold gE
        rw [hk, show (2 - 1 : Nat) = 1 from rfl, v1, if_neg (by rw [e]; simp), if_neg (by omega)]
  obtain ⟨h1, h2, h3⟩ := one
  obtain ⟨g1, g2, g3⟩ := get_app r h3
  exact ⟨g1.trans h1, g2.trans h2, g3⟩

/-! ### Bytes that a pack lays over others -/
def splice (xs : List Int) (i : Nat) (ys : List Int) : List Int := xs.take i ++ ys ++ xs.drop (i + ys.length)
theorem splice_length {xs : List Int} {i : Nat} {ys : List Int} (h : i + ys.length ≤ xs.length) : (splice xs i ys).length = xs.length := by
  simp only [splice, List.length_append, List.length_take, List.length_drop]
  omega
def lay (odd : Bool) (i : Nat) (xs p : List Int) : Int × List Int :=
  if h : gE p = 0 then
    if xs.length - i < gN p then (6, [])
    else match odd with
      | false => if i + gN p = xs.length then (if p.length = gK p then (0, xs) else (3, [])) else lay true (i + gN p) xs (p.drop (gK p))
      | true => if p.length - gK p < gN p then (2, []) else lay false (i + gN p) (splice xs i ((p.drop (gK p)).take (gN p))) (p.drop (gK p + gN p))
  else (gE p, [])
termination_by p.length
decreasing_by
  · have := gK_pos p; have := gE_len h; simp only [List.length_drop]; omega
  · have := gK_pos p; have := gE_len h; simp only [List.length_drop]; omega
theorem lay_err {odd : Bool} {i : Nat} {xs p : List Int} (h : gE p ≠ 0) : lay odd i xs p = (gE p, []) := by rw [lay.eq_def, dif_neg h]
theorem lay_size {odd : Bool} {i : Nat} {xs p : List Int} (h : gE p = 0) (h2 : xs.length - i < gN p) : lay odd i xs p = (6, []) := by rw [lay.eq_def, dif_pos h, if_pos h2]
theorem lay_f {i : Nat} {xs p : List Int} (h : gE p = 0) (h2 : ¬ xs.length - i < gN p) : lay false i xs p = if i + gN p = xs.length then (if p.length = gK p then (0, xs) else (3, [])) else lay true (i + gN p) xs (p.drop (gK p)) := by rw [lay.eq_def, dif_pos h, if_neg h2]
theorem lay_t {i : Nat} {xs p : List Int} (h : gE p = 0) (h2 : ¬ xs.length - i < gN p) : lay true i xs p = if p.length - gK p < gN p then (2, []) else lay false (i + gN p) (splice xs i ((p.drop (gK p)).take (gN p))) (p.drop (gK p + gN p)) := by rw [lay.eq_def, dif_pos h, if_neg h2]
theorem gE_val (p : List Int) : gE p = 2 ∨ gE p = 5 ∨ gE p = 0 := by
  unfold gE
  split
  · exact .inl rfl
  · split
    · exact .inr (.inl rfl)
    · exact .inr (.inr rfl)
/-- An error tells no bytes. -/
theorem lay_none : ∀ (n : Nat) (odd : Bool) (i : Nat) (xs p : List Int), p.length ≤ n → (lay odd i xs p).1 ≠ 0 → (lay odd i xs p).2 = [] := by
  intro n
  induction n with
  | zero =>
    intro odd i xs p hp h
    have : gE p ≠ 0 := fun e => by have := gE_len e; have := gK_pos p; omega
    rw [lay_err this]
  | succ n ih =>
    intro odd i xs p hp h
    by_cases hE : gE p = 0
    · have h1 := gE_len hE
      have h2 := gK_pos p
      by_cases hs : xs.length - i < gN p
      · rw [lay_size hE hs]
      · cases odd with
        | false =>
          rw [lay_f hE hs] at h ⊢
          split
          · rename_i h3
            rw [if_pos h3] at h
            split
            · rename_i h4
              rw [if_pos h4] at h
              exact absurd rfl h
            · rfl
          · rename_i h3
            rw [if_neg h3] at h
            exact ih _ _ _ _ (by simp only [List.length_drop]; omega) h
        | true =>
          rw [lay_t hE hs] at h ⊢
          split
          · rfl
          · rename_i h3
            rw [if_neg h3] at h
            exact ih _ _ _ _ (by simp only [List.length_drop]; omega) h
    · rw [lay_err hE]
/-- As many bytes as there were. -/
theorem lay_length : ∀ (n : Nat) (odd : Bool) (i : Nat) (xs p : List Int), p.length ≤ n → i ≤ xs.length → (lay odd i xs p).1 = 0 → (lay odd i xs p).2.length = xs.length := by
  intro n
  induction n with
  | zero =>
    intro odd i xs p hp hi h
    have : gE p ≠ 0 := fun e => by have := gE_len e; have := gK_pos p; omega
    rw [lay_err this] at h
    exact absurd h this
  | succ n ih =>
    intro odd i xs p hp hi h
    by_cases hE : gE p = 0
    · have h1 := gE_len hE
      have h2 := gK_pos p
      by_cases hs : xs.length - i < gN p
      · rw [lay_size hE hs] at h
        cases h
      · cases odd with
        | false =>
          rw [lay_f hE hs] at h ⊢
          split
          · rename_i h3
            rw [if_pos h3] at h
            split
            · rfl
            · rename_i h4
              rw [if_neg h4] at h
              cases h
          · rename_i h3
            rw [if_neg h3] at h
            exact ih _ _ _ _ (by simp only [List.length_drop]; omega) (by omega) h
        | true =>
          rw [lay_t hE hs] at h ⊢
          split
          · rename_i h3
            rw [if_pos h3] at h
            cases h
          · rename_i h3
            rw [if_neg h3] at h
            have hsl : (splice xs i ((p.drop (gK p)).take (gN p))).length = xs.length := splice_length (by simp only [List.length_take, List.length_drop]; omega)
            rw [ih _ _ _ _ (by simp only [List.length_drop]; omega) (by rw [hsl]; omega) h, hsl]
    · rw [lay_err hE] at h
      exact absurd h hE
/-- With more behind it it has a tail. -/
theorem lay_tail {r : List Int} (hr : r ≠ []) : ∀ (n : Nat) (odd : Bool) (i : Nat) (xs q : List Int), q.length ≤ n → (lay odd i xs q).1 = 0 → lay odd i xs (q ++ r) = (3, []) := by
  intro n
  induction n with
  | zero =>
    intro odd i xs q hp h
    have : gE q ≠ 0 := fun e => by have := gE_len e; have := gK_pos q; omega
    rw [lay_err this] at h
    exact absurd h this
  | succ n ih =>
    intro odd i xs q hp h
    by_cases hE : gE q = 0
    · have h1 := gE_len hE
      have h2 := gK_pos q
      obtain ⟨g1, g2, g3⟩ := get_app r hE
      by_cases hs : xs.length - i < gN q
      · rw [lay_size hE hs] at h
        cases h
      · cases odd with
        | false =>
          rw [lay_f hE hs] at h
          rw [lay_f g3 (by rw [g2]; exact hs), g1, g2]
          split
          · rename_i h3
            rw [if_pos h3] at h
            rw [if_neg]
            have : 0 < r.length := by cases r with | nil => exact absurd rfl hr | cons _ _ => simp
            simp only [List.length_append]
            omega
          · rename_i h3
            rw [if_neg h3] at h
            rw [List.drop_append_of_le_length h1]
            exact ih _ _ _ _ (by simp only [List.length_drop]; omega) h
        | true =>
          rw [lay_t hE hs] at h
          rw [lay_t g3 (by rw [g2]; exact hs), g1, g2]
          split at h
          · cases h
          · rename_i h3
            rw [if_neg (by simp only [List.length_append]; omega), List.drop_append_of_le_length h1, List.drop_append_of_le_length (by omega), List.take_append_of_le_length (by simp only [List.length_drop]; omega)]
            exact ih _ _ _ _ (by simp only [List.length_drop]; omega) h
    · rw [lay_err hE] at h
      exact absurd h hE
/-- What is packed is laid back. -/
theorem lay_pack : ∀ (n : Nat) (a b pre : List Int), b.length ≤ n → a.length = b.length → b.length < 16384 → lay false pre.length (pre ++ a) (pack a b) = (0, pre ++ b) := by
  intro n
  induction n with
  | zero =>
    intro a b pre hn hl hb
    have eb : b = [] := List.eq_nil_of_length_eq_zero (by omega)
    have ea : a = [] := List.eq_nil_of_length_eq_zero (by omega)
    subst eb ea
    have e : pack [] [] = num 0 ++ [] := by rw [pack]; simp [lcp]
    obtain ⟨g1, g2, g3⟩ := get_num (n := 0) (by decide) []
    rw [e, lay_f g3 (by rw [g2]; omega), g1, g2, if_pos (by simp), if_pos (by simp)]
  | succ n ih =>
    intro a b pre hn hl hb
    have hle := lcp_le a b
    have htk := lcp_take a b
    rw [pack]
    by_cases h : b.length ≤ lcp a b
    · rw [dif_pos h]
      obtain ⟨g1, g2, g3⟩ := get_num (n := lcp a b) (by omega) []
      rw [lay_f g3 (by rw [g2]; simp; omega), g1, g2, if_pos (by simp; omega), if_pos (by simp)]
      rw [List.take_of_length_le (by omega), List.take_of_length_le (by omega)] at htk
      rw [htk]
    · rw [dif_neg h]
      have hk0 := kk_pos a b (by omega)
      have hk1 := kk_le a b
      generalize hkk : kk a b = k at *
      generalize hlc : lcp a b = m at *
      obtain ⟨g1, g2, g3⟩ := get_num (n := m) (by omega) (num k ++ ((b.drop m).take k ++ pack (a.drop (m + k)) (b.drop (m + k))))
      rw [lay_f g3 (by rw [g2]; simp; omega), g1, g2, if_neg (by simp; omega), List.drop_left]
      obtain ⟨g1, g2, g3⟩ := get_num (n := k) (by omega) ((b.drop m).take k ++ pack (a.drop (m + k)) (b.drop (m + k)))
      rw [lay_t g3 (by rw [g2]; simp; omega), g1, g2, if_neg (by simp; omega), List.drop_left]
      have ht : ((b.drop m).take k).length = k := by simp; omega
      have e1 : ((b.drop m).take k ++ pack (a.drop (m + k)) (b.drop (m + k))).take k = (b.drop m).take k := by
        rw [List.take_append_of_le_length (by omega), List.take_of_length_le (by omega)]
      have e2 : (num k ++ ((b.drop m).take k ++ pack (a.drop (m + k)) (b.drop (m + k)))).drop ((num k).length + k) = pack (a.drop (m + k)) (b.drop (m + k)) := by
        rw [← List.drop_drop, List.drop_left]
        have := List.drop_left (l₁ := (b.drop m).take k) (l₂ := pack (a.drop (m + k)) (b.drop (m + k)))
        rwa [ht] at this
      have e3 : splice (pre ++ a) (pre.length + m) ((b.drop m).take k) = (pre ++ b.take (m + k)) ++ a.drop (m + k) := by
        unfold splice
        rw [ht, List.take_append, List.take_of_length_le (by omega : pre.length ≤ pre.length + m), show pre.length + m - pre.length = m by omega, htk, List.drop_append, List.drop_of_length_le (by omega : pre.length ≤ pre.length + m + k), show pre.length + m + k - pre.length = m + k by omega, List.take_add, List.nil_append]
        simp only [List.append_assoc]
      rw [e1, e2, e3]
      have hp : pre.length + m + k = (pre ++ b.take (m + k)).length := by simp; omega
      rw [hp, ih (a.drop (m + k)) (b.drop (m + k)) (pre ++ b.take (m + k)) (by simp; omega) (by simp; omega) (by simp; omega), List.append_assoc, List.take_append_drop]
theorem lay_of_pack {a b : List Int} (hl : a.length = b.length) (hb : b.length < 16384) : lay false 0 a (pack a b) = (0, b) := by
  have := lay_pack b.length a b [] (Nat.le_refl _) hl hb
  simpa using this
/-- What a pack comes to. -/
def unp (a p : List Int) : Int × List Int := if (lay false 0 a p).1 = 0 then (if pack a (lay false 0 a p).2 = p then (0, (lay false 0 a p).2) else (5, [])) else ((lay false 0 a p).1, [])
theorem unp_pack {a b : List Int} (hl : a.length = b.length) (hb : b.length < 16384) : unp a (pack a b) = (0, b) := by
  unfold unp
  rw [lay_of_pack hl hb, if_pos rfl, if_pos rfl]
theorem unp_tail {a b : List Int} (hl : a.length = b.length) (hb : b.length < 16384) {r : List Int} (hr : r ≠ []) : unp a (pack a b ++ r) = (3, []) := by
  unfold unp
  rw [lay_tail hr _ _ _ _ _ (Nat.le_refl _) (by rw [lay_of_pack hl hb]), if_neg (by decide)]
theorem unp_cut {a b : List Int} (hl : a.length = b.length) (hb : b.length < 16384) {k : Nat} (hk : k < (pack a b).length) : (unp a ((pack a b).take k)).1 ≠ 0 := by
  intro h
  have h0 : (lay false 0 a ((pack a b).take k)).1 = 0 := by
    unfold unp at h
    split at h
    · assumption
    · exact h
  have := lay_tail (r := (pack a b).drop k) (fun e => by have := congrArg List.length e; simp at this; omega) _ _ _ _ _ (Nat.le_refl _) h0
  rw [List.take_append_drop, lay_of_pack hl hb] at this
  cases this
theorem unp_zero {a p : List Int} (h : (unp a p).1 = 0) : pack a (unp a p).2 = p ∧ (unp a p).2.length = a.length := by
  unfold unp at h ⊢
  split at h
  · rename_i h0
    rw [if_pos h0]
    split at h
    · rename_i h1
      rw [if_pos h1]
      exact ⟨h1, lay_length _ _ _ _ _ (Nat.le_refl _) (Nat.zero_le _) h0⟩
    · cases h
  · rename_i h0
    exact absurd h h0
theorem unp_none {a p : List Int} (h : (unp a p).1 ≠ 0) : (unp a p).2 = [] := by
  unfold unp at h ⊢
  split
  · split
    · rename_i h0 h1
      rw [if_pos h0, if_pos h1] at h
      exact absurd rfl h
    · rfl
  · rfl
theorem pack_inj {a b c : List Int} (hb : a.length = b.length) (hc : a.length = c.length) (h : a.length < 16384) : pack a b = pack a c ↔ b = c := by
  constructor
  · intro e
    have h1 := lay_of_pack hb (by omega)
    have h2 := lay_of_pack hc (by omega)
    rw [e, h2] at h1
    exact (congrArg Prod.snd h1).symm
  · rintro rfl; rfl
theorem pack_pos (a b : List Int) : 0 < (pack a b).length := by
  rw [pack]
  have := (num_len (lcp a b)).1
  simp only [List.length_append]
  omega
theorem pack_self (a : List Int) : pack a a = num a.length := by
  have e : lcp a a = a.length := by
    induction a with
    | nil => rfl
    | cons x xs ih => simp [lcp, ih]
  rw [pack, e, dif_pos (Nat.le_refl _), List.append_nil]
theorem pack_B : ∀ (n : Nat) (a b : List Int), b.length ≤ n → b.length < 16384 → Bs b → Bs (pack a b) := by
  intro n
  induction n with
  | zero =>
    intro a b hn hb hB
    rw [pack, dif_pos (by omega)]
    exact (num_B (by have := (lcp_le a b).2; omega)).append .nil
  | succ n ih =>
    intro a b hn hb hB
    rw [pack]
    have h1 := (lcp_le a b).2
    have h2 := kk_le a b
    split
    · exact (num_B (by omega)).append .nil
    · rename_i h
      have h3 := kk_pos a b (by omega)
      exact (num_B (by omega)).append ((num_B (by omega)).append (((hB.drop _).take _).append (ih _ _ (by simp; omega) (by simp; omega) (hB.drop _))))
theorem pack_len : ∀ (n : Nat) (a b : List Int), b.length ≤ n → (pack a b).length ≤ 2 + 5 * b.length := by
  intro n
  induction n with
  | zero =>
    intro a b hn
    rw [pack, dif_pos (by omega)]
    have := num_len (lcp a b)
    simp; omega
  | succ n ih =>
    intro a b hn
    rw [pack]
    have h1 := (lcp_le a b).2
    have h2 := kk_le a b
    have g1 := num_len (lcp a b)
    have g2 := num_len (kk a b)
    split
    · simp; omega
    · rename_i h
      have h3 := kk_pos a b (by omega)
      have := ih (a.drop (lcp a b + kk a b)) (b.drop (lcp a b + kk a b)) (by simp; omega)
      simp only [List.length_append, List.length_take, List.length_drop] at this ⊢
      omega
theorem lay_B : ∀ (n : Nat) (odd : Bool) (i : Nat) (xs p : List Int), p.length ≤ n → Bs xs → Bs p → Bs (lay odd i xs p).2 := by
  intro n
  induction n with
  | zero =>
    intro odd i xs p hp hx hB
    have : gE p ≠ 0 := fun e => by have := gE_len e; have := gK_pos p; omega
    rw [lay_err this]
    exact .nil
  | succ n ih =>
    intro odd i xs p hp hx hB
    by_cases hE : gE p = 0
    · have h1 := gE_len hE
      have h2 := gK_pos p
      by_cases hs : xs.length - i < gN p
      · rw [lay_size hE hs]; exact .nil
      · cases odd with
        | false =>
          rw [lay_f hE hs]
          split
          · split
            · exact hx
            · exact .nil
          · exact ih _ _ _ _ (by simp only [List.length_drop]; omega) hx (hB.drop _)
        | true =>
          rw [lay_t hE hs]
          split
          · exact .nil
          · refine ih _ _ _ _ (by simp only [List.length_drop]; omega) ?_ (hB.drop _)
            unfold splice
            exact ((hx.take _).append ((hB.drop _).take _)).append (hx.drop _)
    · rw [lay_err hE]; exact .nil

/-! ### Packs are small -/
/-- How many are other ones; and at how many places that begins. -/
def cnt : Bool → List Int → List Int → Nat × Nat
  | prev, x :: xs, y :: ys => if x = y then cnt true xs ys else ((cnt false xs ys).1 + 1, (cnt false xs ys).2 + if prev then 1 else 0)
  | _, _, _ => (0, 0)
def wgt (prev : Bool) (a b : List Int) : Nat := (cnt prev a b).1 + 9 * (cnt prev a b).2
theorem wgt_same (prev : Bool) (x : Int) (a b : List Int) : wgt prev (x :: a) (x :: b) = wgt true a b := by simp [wgt, cnt]
theorem wgt_other (prev : Bool) {x y : Int} (h : x ≠ y) (a b : List Int) : wgt prev (x :: a) (y :: b) = wgt false a b + (if prev then 10 else 1) := by
  simp only [wgt, cnt, if_neg h]
  cases prev <;> simp <;> omega
theorem wgt_lcp : ∀ (prev : Bool) (a b : List Int), wgt prev a b = wgt (prev || decide (0 < lcp a b)) (a.drop (lcp a b)) (b.drop (lcp a b))
  | prev, [], b => by simp [lcp, wgt, cnt]
  | prev, x :: xs, [] => by simp [lcp, wgt, cnt]
  | prev, x :: xs, y :: ys => by
    by_cases h : x = y
    · subst h
      rw [wgt_same, wgt_lcp true xs ys]
      simp [lcp]
    · simp [lcp, h]
theorem wgt_oth (a b : List Int) (hl : a.length = b.length) (k : Nat) (hk : k ≤ b.length) : (oth a b k - k) + wgt true (a.drop (oth a b k)) (b.drop (oth a b k)) ≤ wgt false (a.drop k) (b.drop k) := by
  induction k using oth.induct (a := a) (b := b) with
  | case1 k h1 h2 =>
    rw [oth, if_pos h1, if_pos h2, Nat.sub_self, Nat.zero_add]
    have h3 : 0 < lcp (a.drop k) (b.drop k) := by
      have := (lcp_le (a.drop k) (b.drop k)).2
      simp only [List.length_drop] at this
      omega
    rw [wgt_lcp true, wgt_lcp false, decide_eq_true h3]
    exact Nat.le_refl _
  | case2 k h1 h2 ih =>
    rw [oth, if_pos h1, if_neg h2]
    generalize hm : lcp (a.drop k) (b.drop k) = m at *
    have hle := (lcp_le (a.drop k) (b.drop k)).2
    simp only [List.length_drop, hm] at hle
    have ih := ih (by omega)
    have hge := oth_ge a b (k + m + 1)
    rw [wgt_lcp false (a.drop k), hm, Bool.false_or, List.drop_drop, List.drop_drop]
    have hz := lcp_drop (a.drop k) (b.drop k)
    rw [hm, List.drop_drop, List.drop_drop] at hz
    have hka : k + m < a.length := by omega
    have hkb : k + m < b.length := by omega
    rw [List.drop_eq_getElem_cons hka, List.drop_eq_getElem_cons hkb] at hz ⊢
    have hne : a[k + m] ≠ b[k + m] := fun e => by simp [lcp, e] at hz
    rw [wgt_other _ hne]
    by_cases hm0 : 0 < m
    · rw [decide_eq_true hm0, if_pos rfl]; omega
    · have : m = 0 := by omega
      subst this
      simp only [decide_eq_true_eq, Nat.lt_irrefl, if_false]
      omega
  | case3 k h1 =>
    rw [oth, if_neg h1, Nat.sub_self, Nat.zero_add, List.drop_of_length_le (by omega : b.length ≤ k), List.drop_of_length_le (by omega : a.length ≤ k)]
    simp [wgt, cnt]
theorem pack_small : ∀ (n : Nat) (a b : List Int), b.length ≤ n → a.length = b.length → (pack a b).length ≤ wgt true a b + 2 := by
  intro n
  induction n with
  | zero =>
    intro a b hn hl
    rw [pack, dif_pos (by omega)]
    have := num_len (lcp a b)
    simp; omega
  | succ n ih =>
    intro a b hn hl
    rw [pack]
    have h1 := (lcp_le a b).2
    have h2 := kk_le a b
    have g1 := num_len (lcp a b)
    have g2 := num_len (kk a b)
    split
    · simp; omega
    · rename_i h
      have h3 := kk_pos a b (by omega)
      have h4 := ih (a.drop (lcp a b + kk a b)) (b.drop (lcp a b + kk a b)) (by simp; omega) (by simp; omega)
      have h5 := wgt_oth (a.drop (lcp a b)) (b.drop (lcp a b)) (by simp; omega) 1 (by simp; omega)
      rw [← kk_one a b (by omega), List.drop_drop, List.drop_drop, List.drop_drop, List.drop_drop] at h5
      have h6 : wgt true a b = wgt false (a.drop (lcp a b + 1)) (b.drop (lcp a b + 1)) + 10 := by
        have hz := lcp_drop a b
        rw [wgt_lcp true a b, Bool.true_or]
        have hka : lcp a b < a.length := by omega
        have hkb : lcp a b < b.length := by omega
        rw [List.drop_eq_getElem_cons hka, List.drop_eq_getElem_cons hkb] at hz ⊢
        have hne : a[lcp a b] ≠ b[lcp a b] := fun e => by simp [lcp, e] at hz
        rw [wgt_other _ hne, if_pos rfl]
      simp only [List.length_append, List.length_take, List.length_drop]
      omega

/-! ### Numbers of bytes -/
theorem mul_inj {x y : Int} (hx : 0 ≤ x ∧ x < 18446744073709551616) (hy : 0 ≤ y ∧ y < 18446744073709551616) (h : x * 1099511628211 % 18446744073709551616 = y * 1099511628211 % 18446744073709551616) : x = y := by
  have key : ∀ z : Int, 0 ≤ z → z < 18446744073709551616 → z * 1099511628211 % 18446744073709551616 * 14886173955864302971 % 18446744073709551616 = z := by
    intro z h0 h1
    rw [Int.mul_emod, Int.emod_emod_of_dvd _ (Int.dvd_refl _), ← Int.mul_emod, Int.mul_assoc, show (1099511628211 * 14886173955864302971 : Int) = 1 + 887285111055 * 18446744073709551616 by decide, Int.mul_add, Int.mul_one, ← Int.mul_assoc, Int.add_mul_emod_self_right, Int.emod_eq_of_lt h0 h1]
  rw [← key x hx.1 hx.2, h, key y hy.1 hy.2]
theorem bits_in (h x : Int) (hh : 0 ≤ h ∧ h < 18446744073709551616) (hx : B x) : 0 ≤ bits .xor .u64 h (IntKind.u64.wrap x) ∧ bits .xor .u64 h (IntKind.u64.wrap x) < 18446744073709551616 := by
  obtain ⟨n, rfl⟩ := Int.eq_ofNat_of_zero_le hh.1
  obtain ⟨m, rfl⟩ := Int.eq_ofNat_of_zero_le hx.1
  have := hx.2
  have e1 : IntKind.u64.wrap (m : Int) = (m : Int) := by rw [wu64]; omega
  rw [e1, u64_xor_nat n m (by omega) (by omega)]
  have : n ^^^ m < 2 ^ 64 := Nat.xor_lt_two_pow (n := 64) (by omega) (by omega)
  omega
theorem xor_left {h h' x : Int} (hh : 0 ≤ h ∧ h < 18446744073709551616) (hh' : 0 ≤ h' ∧ h' < 18446744073709551616) (hx : B x) (e : bits .xor .u64 h (IntKind.u64.wrap x) = bits .xor .u64 h' (IntKind.u64.wrap x)) : h = h' := by
  obtain ⟨n, rfl⟩ := Int.eq_ofNat_of_zero_le hh.1
  obtain ⟨n', rfl⟩ := Int.eq_ofNat_of_zero_le hh'.1
  obtain ⟨m, rfl⟩ := Int.eq_ofNat_of_zero_le hx.1
  have := hx.2
  have e1 : IntKind.u64.wrap (m : Int) = (m : Int) := by rw [wu64]; omega
  rw [e1, u64_xor_nat n m (by omega) (by omega), u64_xor_nat n' m (by omega) (by omega)] at e
  have e2 : n ^^^ m = n' ^^^ m := by omega
  have := congrArg (· ^^^ m) e2
  simp only [Nat.xor_assoc, Nat.xor_self, Nat.xor_zero] at this
  omega
theorem xor_right {h x x' : Int} (hh : 0 ≤ h ∧ h < 18446744073709551616) (hx : B x) (hx' : B x') (e : bits .xor .u64 h (IntKind.u64.wrap x) = bits .xor .u64 h (IntKind.u64.wrap x')) : x = x' := by
  obtain ⟨n, rfl⟩ := Int.eq_ofNat_of_zero_le hh.1
  obtain ⟨m, rfl⟩ := Int.eq_ofNat_of_zero_le hx.1
  obtain ⟨m', rfl⟩ := Int.eq_ofNat_of_zero_le hx'.1
  have := hx.2
  have := hx'.2
  have e1 : IntKind.u64.wrap (m : Int) = (m : Int) := by rw [wu64]; omega
  have e1' : IntKind.u64.wrap (m' : Int) = (m' : Int) := by rw [wu64]; omega
  rw [e1, e1', u64_xor_nat n m (by omega) (by omega), u64_xor_nat n m' (by omega) (by omega)] at e
  have e2 : n ^^^ m = n ^^^ m' := by omega
  have := congrArg (n ^^^ ·) e2
  simp only [← Nat.xor_assoc, Nat.xor_self, Nat.zero_xor] at this
  omega
theorem hstep_in (h x : Int) : 0 ≤ hstep h x ∧ hstep h x < 18446744073709551616 := by unfold hstep; rw [wu64]; omega
theorem hstep_inj {h h' x : Int} (hh : 0 ≤ h ∧ h < 18446744073709551616) (hh' : 0 ≤ h' ∧ h' < 18446744073709551616) (hx : B x) (e : hstep h x = hstep h' x) : h = h' := by
  unfold hstep at e
  rw [wu64, wu64] at e
  exact xor_left hh hh' hx (mul_inj (bits_in _ _ hh hx) (bits_in _ _ hh' hx) e)
theorem hstep_ne {h x x' : Int} (hh : 0 ≤ h ∧ h < 18446744073709551616) (hx : B x) (hx' : B x') (e : hstep h x = hstep h x') : x = x' := by
  unfold hstep at e
  rw [wu64, wu64] at e
  exact xor_right hh hx hx' (mul_inj (bits_in _ _ hh hx) (bits_in _ _ hh hx') e)
theorem fold_ne : ∀ (l : List Int) (h h' : Int), (∀ x ∈ l, B x) → 0 ≤ h ∧ h < 18446744073709551616 → 0 ≤ h' ∧ h' < 18446744073709551616 → h ≠ h' → l.foldl hstep h ≠ l.foldl hstep h'
  | [], h, h', _, _, _, hne => hne
  | x :: l, h, h', hb, hh, hh', hne => fold_ne l _ _ (fun y hy => hb y (List.mem_cons_of_mem _ hy)) (hstep_in _ _) (hstep_in _ _) fun e => hne (hstep_inj hh hh' (hb x (List.mem_cons_self ..)) e)
theorem hash_ne {X : List Int} (hX : Bs X) {i : Nat} (hi : i < X.length) {y : Int} (hy : B y) (hne : y ≠ X.getD i 0) : hashL (X.set i y) ≠ hashL X := by
  have e1 : X = X.take i ++ X.getD i 0 :: X.drop (i + 1) := by
    rw [List.getD_eq_getElem?_getD, List.getElem?_eq_getElem hi, Option.getD_some, ← List.drop_eq_getElem_cons hi, List.take_append_drop]
  have e2 : X.set i y = X.take i ++ y :: X.drop (i + 1) := List.set_eq_take_append_cons_drop .. |>.trans (by rw [if_pos hi])
  unfold hashL
  rw [e2]
  conv => rhs; rw [e1]
  rw [List.foldl_append, List.foldl_append, List.foldl_cons, List.foldl_cons]
  refine fold_ne _ _ _ (fun x hx => hX.mem (List.mem_of_mem_drop hx)) (hstep_in _ _) (hstep_in _ _) fun e => hne (hstep_ne (hashL_in _) hy (hX i) e)
end Go.Proofs.Ytcfnfihemejjkaa
