/-
  The plain law of the keys: which lines are 0 (heldN), what is seen (readN), which line falls (fallB), and that the walks' own spellings come to these. Bytes are below 256. No other condition.
-/
import Derived.WalkKit
namespace Go.Proofs.Ytiafdnihgnjohaa
namespace Joy

def heldN (s d : Nat) : Nat := ((if s.testBit 4 then 0 else d) ||| (if s.testBit 5 then 0 else d / 16)) % 16
def readN (s d : Nat) : Nat := 192 + (if s.testBit 5 then 32 else 0) + (if s.testBit 4 then 16 else 0) + (15 - heldN s d)
def fallB (p q : Nat) : Bool := (!p.testBit 0 && q.testBit 0) || (!p.testBit 1 && q.testBit 1) || (!p.testBit 2 && q.testBit 2) || (!p.testBit 3 && q.testBit 3)
def lineB (s d n : Nat) : Bool := !(heldN s d).testBit n
def accN (s d : Nat) : Nat → Nat
  | 0 => 0
  | k + 1 => accN s d k + if lineB s d k then 2 ^ k else 0

theorem heldN_lt (s d : Nat) : heldN s d < 16 := Nat.mod_lt _ (by omega)
theorem accN_four (s d : Nat) : accN s d 4 = 15 - heldN s d := by
  have k : ∀ h : Nat, h < 16 → 0 + (if (!h.testBit 0) = true then 2 ^ 0 else 0) + (if (!h.testBit 1) = true then 2 ^ 1 else 0) + (if (!h.testBit 2) = true then 2 ^ 2 else 0) + (if (!h.testBit 3) = true then 2 ^ 3 else 0) = 15 - h := by decide +kernel
  exact k _ (heldN_lt s d)
theorem accN_le (s d : Nat) : ∀ k, accN s d k < 2 ^ k
  | 0 => by simp [accN]
  | k + 1 => by
    have := accN_le s d k
    simp only [accN]
    split <;> (rw [Nat.pow_succ]; omega)

theorem bit_div (x n : Nat) : x.testBit n = decide (x / 2 ^ n % 2 = 1) := by
  rw [Nat.testBit_eq_decide_div_mod_eq]
theorem line_eq (s d n : Nat) (hn : n < 4) : lineB s d n = (!(!s.testBit 4 && d.testBit n) && !(!s.testBit 5 && d.testBit (n + 4))) := by
  have e : (16 : Nat) = 2 ^ 4 := rfl
  have e2 : (d / 16).testBit n = d.testBit (n + 4) := by rw [e, ← Nat.shiftRight_eq_div_pow, Nat.testBit_shiftRight, Nat.add_comm]
  unfold lineB heldN
  rw [e, Nat.testBit_mod_two_pow, Nat.testBit_or]
  cases s.testBit 4 <;> cases s.testBit 5 <;> simp [hn, ← e2]

theorem t16 : ∀ s : Nat, s < 256 → (bits .and .u8 (s : Int) 16 == 0) = !s.testBit 4 := by decide +kernel
theorem t32 : ∀ s : Nat, s < 256 → (bits .and .u8 (s : Int) 32 == 0) = !s.testBit 5 := by decide +kernel
theorem h11 : ∀ d : Nat, d < 256 → bits .and .u8 (bits .or .u8 (bits .or .u8 0 (d : Int)) ((d : Int) / 16)) 15 = (((d ||| d / 16) % 16 : Nat) : Int) := by decide +kernel
theorem h10 : ∀ d : Nat, d < 256 → bits .and .u8 (bits .or .u8 0 (d : Int)) 15 = ((d % 16 : Nat) : Int) := by decide +kernel
theorem h01 : ∀ d : Nat, d < 256 → bits .and .u8 (bits .or .u8 0 ((d : Int) / 16)) 15 = ((d / 16 % 16 : Nat) : Int) := by decide +kernel
theorem held_eq {s d : Nat} {a b : Bool} (h4 : s.testBit 4 = a) (h5 : s.testBit 5 = b) : heldN s d = ((if a then 0 else d) ||| (if b then 0 else d / 16)) % 16 := by
  subst h4 h5; rfl
theorem read_eq : ∀ s : Nat, s < 256 → ∀ h : Nat, h < 16 → bits .or .u8 (bits .or .u8 192 (bits .and .u8 (s : Int) 48)) (bits .and .u8 (bits .xor .u8 255 (h : Int)) 15) = ((192 + (if s.testBit 5 then 32 else 0) + (if s.testBit 4 then 16 else 0) + (15 - h) : Nat) : Int) := by decide +kernel
theorem fall_eq : ∀ p : Nat, p < 16 → ∀ q : Nat, q < 16 → (bits .andNot .u8 (q : Int) (p : Int) != 0) = fallB p q := by decide +kernel
def baseN (s : Nat) : Nat := 192 + (if s.testBit 5 then 32 else 0) + (if s.testBit 4 then 16 else 0)
theorem read_base (s d : Nat) : readN s d = baseN s + accN s d 4 := by rw [accN_four]; rfl
theorem baseN_le (s : Nat) : baseN s ≤ 240 := by unfold baseN; split <;> split <;> omega
theorem acc_le (s d k : Nat) (hk : k ≤ 4) : accN s d k ≤ 15 := by
  have h := accN_le s d k
  have h2 : (2 : Nat) ^ k ≤ 2 ^ 4 := Nat.pow_le_pow_right (by omega) hk
  omega
theorem pow_le (k : Nat) (hk : k ≤ 4) : 2 ^ k ≤ 16 := Nat.pow_le_pow_right (by omega) hk
def fallsAt (p q n : Nat) : Bool := !p.testBit n && q.testBit n
theorem fall_some {p q n : Nat} (hn : n < 4) (h : fallsAt p q n = true) : fallB p q = true := by
  unfold fallsAt at h
  unfold fallB
  match n, hn with
  | 0, _ => rw [h]; rfl
  | 1, _ => rw [h]; simp only [Bool.or_true, Bool.true_or]
  | 2, _ => rw [h]; simp only [Bool.or_true, Bool.true_or]
  | 3, _ => rw [h]; simp only [Bool.or_true]
theorem fall_none {p q : Nat} (h : ∀ n, n < 4 → fallsAt p q n = false) : fallB p q = false := by
  unfold fallsAt at h
  unfold fallB
  rw [h 0 (by omega), h 1 (by omega), h 2 (by omega), h 3 (by omega)]
  rfl
theorem falls_line (a b c d n : Nat) : fallsAt (heldN a b) (heldN c d) n = (lineB a b n && !lineB c d n) := by
  unfold fallsAt lineB; simp

/-- What is asked, of a byte that is written. -/
def askN (x : Nat) : Nat := x / 16 % 4 * 16
theorem askN_lt (x : Nat) : askN x < 256 := by unfold askN; omega
theorem ask_eq : ∀ x : Nat, x < 256 → bits .and .u8 (x : Int) 48 = (askN x : Nat) := by decide +kernel
theorem read_split (s d : Nat) : ∃ i, i < 4 ∧ readN s d = 192 + 16 * i + (15 - heldN s d) := by
  unfold readN
  cases s.testBit 5 <;> cases s.testBit 4
  · exact ⟨0, by omega, by simp⟩
  · exact ⟨1, by omega, by simp⟩
  · exact ⟨2, by omega, by simp⟩
  · exact ⟨3, by omega, by simp⟩
theorem falls_bits : ∀ i : Nat, i < 4 → ∀ h : Nat, h < 16 → ∀ j : Nat, j < 4 → ∀ g : Nat, g < 16 →
    (bits .and .u8 (bits .andNot .u8 ((192 + 16 * i + (15 - h) : Nat) : Int) ((192 + 16 * j + (15 - g) : Nat) : Int)) 15 != 0) = fallB h g := by decide +kernel
theorem falls_read (s d t u : Nat) : (bits .and .u8 (bits .andNot .u8 ((readN s d : Nat) : Int) ((readN t u : Nat) : Int)) 15 != 0) = fallB (heldN s d) (heldN t u) := by
  obtain ⟨i, hi, e1⟩ := read_split s d
  obtain ⟨j, hj, e2⟩ := read_split t u
  rw [e1, e2]
  exact falls_bits i hi _ (heldN_lt _ _) j hj _ (heldN_lt _ _)
theorem falls_less (s d u : Nat) : fallB (heldN s d) (heldN s (d &&& u)) = false := by
  refine fall_none fun n hn => ?_
  rw [falls_line, line_eq s d n hn, line_eq s (d &&& u) n hn, Nat.testBit_and, Nat.testBit_and]
  cases s.testBit 4 <;> cases s.testBit 5 <;> cases d.testBit n <;> cases d.testBit (n + 4) <;> simp
theorem falls_same (h : Nat) : fallB h h = false := fall_none fun n _ => by unfold fallsAt; simp
theorem held_none (s : Nat) : heldN s 0 = 0 := by unfold heldN; simp
theorem falls_none (p : Nat) : fallB p 0 = false := fall_none fun n _ => by unfold fallsAt; simp
theorem read_none (s : Nat) : bits .and .u8 ((readN s 0 : Nat) : Int) 15 = 15 := by
  obtain ⟨i, hi, e⟩ := read_split s 0
  rw [e, held_none]
  revert i
  have : ∀ i : Nat, i < 4 → bits .and .u8 ((192 + 16 * i + (15 - 0) : Nat) : Int) 15 = 15 := by decide +kernel
  exact fun i hi _ => this i hi
theorem ask_ask (x : Nat) : askN (askN x) = askN x := by unfold askN; omega
theorem readN_lt (s d : Nat) : readN s d < 256 := by
  obtain ⟨i, hi, e⟩ := read_split s d
  omega
theorem lines1 : ∀ d : Nat, d < 256 → readN 48 d = 255 := by decide +kernel
theorem lines2 : ∀ d : Nat, d < 256 → (((readN 32 d : Nat) : Int) == bits .or .u8 224 (bits .and .u8 (bits .xor .u8 255 (d : Int)) 15)) = true := by decide +kernel
theorem lines3 : ∀ d : Nat, d < 256 → (((readN 16 d : Nat) : Int) == bits .or .u8 208 (bits .and .u8 (bits .xor .u8 255 ((d : Int) / 16)) 15)) = true := by decide +kernel
theorem lines4 : ∀ d : Nat, d < 256 → (((readN 0 d : Nat) : Int) == bits .or .u8 192 (bits .and .u8 (bits .xor .u8 255 (bits .or .u8 (d : Int) ((d : Int) / 16))) 15)) = true := by decide +kernel
end Joy
end Go.Proofs.Ytiafdnihgnjohaa
