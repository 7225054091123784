/-
  The plain law of a processor's registers: what a byte, a pair, a condition is, in numbers. Bytes are below 256, words below 65536.
-/
import Derived.Test.YtmpkhjimemdhhaaKit
import Derived.Laws.BitsAllLaws
namespace Go.Proofs.Ytmpkhjimemdhhaa
namespace Rg
theorem wu8 (x : Int) : IntKind.wrap .u8 x = x % 256 := by simp [IntKind.wrap, IntKind.bits, IntKind.signed]
theorem wu16 (x : Int) : IntKind.wrap .u16 x = x % 65536 := by simp [IntKind.wrap, IntKind.bits, IntKind.signed]
theorem wi64 (x : Int) (h1 : -9223372036854775808 ≤ x) (h2 : x ≤ 9223372036854775807) : IntKind.wrap .i64 x = x := by
  simp only [IntKind.wrap, IntKind.bits, IntKind.signed, Bool.true_and]
  split
  · rename_i h; simp at h; omega
  · rename_i h; simp at h; omega
/-- Within a byte, a word. -/
abbrev B (x : Int) : Prop := 0 ≤ x ∧ x < 256
abbrev W (x : Int) : Prop := 0 ≤ x ∧ x < 65536
def isB (f n : Int) : Bool := if n = 0 then decide (f < 128) else if n = 1 then decide (128 ≤ f) else if n = 2 then decide (f / 16 % 2 = 0) else if n = 3 then decide (f / 16 % 2 = 1) else decide (n = 4)
def gv (n a b c d e h l : Int) : Int := if n = 0 then b else if n = 1 then c else if n = 2 then d else if n = 3 then e else if n = 4 then h else if n = 5 then l else if n = 7 then a else 0
def ge (n : Int) : Int := if 0 ≤ n ∧ n ≤ 7 ∧ n ≠ 6 then 0 else 1
/-- A byte of a set in which byte n was set: its own number is k. -/
def sv (k n x old : Int) : Int := if ge n = 0 then (if n = k then x else old) else 0
def up (f : Int) : Int := f / 16 * 16
def pw (h l : Int) : Int := h * 256 + l
def pv (n a f b c d e h l sp : Int) : Int := if n = 0 then pw b c else if n = 1 then pw d e else if n = 2 then pw h l else if n = 3 then sp else if n = 4 then pw a (up f) else 0
def pe (n : Int) : Int := if 0 ≤ n ∧ n ≤ 4 then 0 else 1
/-- A byte of a set in which pair n was set: it is a part y of pair k. -/
def tv (k n y old : Int) : Int := if pe n = 0 then (if n = k then y else old) else 0

theorem and240 : ∀ a : Nat, a < 256 → bits .and .u8 (a : Int) 240 = ((a / 16 * 16 : Nat) : Int) := by decide +kernel
theorem and128 : ∀ a : Nat, a < 256 → (bits .and .u8 (a : Int) 128 != 0) = decide (128 ≤ a) := by decide +kernel
theorem and16 : ∀ a : Nat, a < 256 → (bits .and .u8 (a : Int) 16 != 0) = decide (a / 16 % 2 = 1) := by decide +kernel
theorem b240 {f : Int} (h : B f) : bits .and .u8 f 240 = up f := by
  obtain ⟨n, rfl⟩ := Int.eq_ofNat_of_zero_le h.1
  rw [and240 n (by have := h.2; omega)]; simp [up]
theorem b128 {f : Int} (h : B f) : (bits .and .u8 f 128 != 0) = decide (128 ≤ f) := by
  obtain ⟨n, rfl⟩ := Int.eq_ofNat_of_zero_le h.1
  rw [and128 n (by have := h.2; omega)]
  rw [Bool.eq_iff_iff]; simp only [decide_eq_true_eq]; omega
theorem b16 {f : Int} (h : B f) : (bits .and .u8 f 16 != 0) = decide (f / 16 % 2 = 1) := by
  obtain ⟨n, rfl⟩ := Int.eq_ofNat_of_zero_le h.1
  rw [and16 n (by have := h.2; omega)]
  rw [Bool.eq_iff_iff]; simp only [decide_eq_true_eq]; omega
theorem bor {h l : Int} (hh : B h) (hl : B l) : bits .or .u16 (h * 256) l = pw h l := by
  obtain ⟨a, rfl⟩ := Int.eq_ofNat_of_zero_le hh.1
  obtain ⟨b, rfl⟩ := Int.eq_ofNat_of_zero_le hl.1
  have h1 := hh.2; have h2 := hl.2
  have e : ((a : Int) * 256) = ((a * 256 : Nat) : Int) := by simp
  rw [e, u16_or_nat (a * 256) b (by omega) (by omega)]
  have : a * 256 ||| b = a * 256 + b := by
    have := Nat.shiftLeft_add_eq_or_of_lt (a := a) (b := b) (i := 8) (by omega)
    rw [Nat.shiftLeft_eq] at this
    exact this.symm
  rw [this]; simp [pw]
theorem borw {h l : Int} (hh : B h) (hl : B l) : bits .or .u16 (h % 65536 * 2 ^ 8 % 65536) (l % 65536) = pw h l := by
  rw [← bor hh hl]
  congr 1
  · have := hh.1; have := hh.2; omega
  · have := hl.1; have := hl.2; omega
theorem up_B {f : Int} (h : B f) : B (up f) := by unfold up; have := h.1; have := h.2; exact ⟨by omega, by omega⟩
theorem andn15 (x : Nat) (hx : x < 65536) : bits .andNot .u16 (x : Int) 15 = ((x / 16 * 16 : Nat) : Int) := by
  have h := u16_andNot_nat x 15 hx (by omega)
  rw [show (15 : Int) = ((15 : Nat) : Int) from rfl, h]
  congr 1
  have e : x &&& (65535 - 15) = x - x % 16 := by
    have h1 : x &&& 65520 = (x >>> 4 <<< 4) &&& 65535 := by
      apply Nat.eq_of_testBit_eq
      intro i
      simp only [Nat.testBit_and, Nat.testBit_shiftLeft, Nat.testBit_shiftRight, show (65520 : Nat) = (4095 <<< 4) from rfl, show (65535 : Nat) = 2 ^ 16 - 1 from rfl, show (4095 : Nat) = 2 ^ 12 - 1 from rfl, Nat.testBit_two_pow_sub_one]
      by_cases hi : 4 ≤ i
      · simp [hi, Nat.add_sub_cancel' hi]
        by_cases h2 : i < 16
        · simp [h2, show i - 4 < 12 by omega]
        · simp [h2, show ¬ i - 4 < 12 by omega]
      · simp [hi]
    rw [h1, show (65535 : Nat) = 2 ^ 16 - 1 from rfl, Nat.and_two_pow_sub_one_eq_mod, Nat.shiftRight_eq_div_pow, Nat.shiftLeft_eq]
    omega
  rw [e]; omega
theorem bandn {x : Int} (h : W x) : bits .andNot .u16 x 15 = up x := by
  obtain ⟨n, rfl⟩ := Int.eq_ofNat_of_zero_le h.1
  rw [andn15 n (by have := h.2; omega)]; simp [up]
end Rg
end Go.Proofs.Ytmpkhjimemdhhaa
