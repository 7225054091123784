/-
  The plain law of a timer: its signal, a cycle, a write, a read, in numbers. Bytes are below 256, the counter below 65536.
-/
import Derived.Test.YtobenphpjphdlaaKit
import Derived.Laws.BitsAllLaws
namespace Go.Proofs.Ytobenphpjphdlaa
namespace Tm
theorem wu8 (x : Int) : IntKind.wrap .u8 x = x % 256 := by simp [IntKind.wrap, IntKind.bits, IntKind.signed]
theorem wu16 (x : Int) : IntKind.wrap .u16 x = x % 65536 := by simp [IntKind.wrap, IntKind.bits, IntKind.signed]
theorem wi64 (x : Int) (h1 : -9223372036854775808 ≤ x) (h2 : x ≤ 9223372036854775807) : IntKind.wrap .i64 x = x := by
  simp only [IntKind.wrap, IntKind.bits, IntKind.signed, Bool.true_and]
  split
  · rename_i h; simp at h; omega
  · rename_i h; simp at h; omega
/-- Within a byte, a word. -/
abbrev B (x : Int) : Prop := 0 ≤ x ∧ x < 256
abbrev W (x : Int) : Prop := 0 ≤ x ∧ x < 65536
/-- Which bit of the counter, by Tac's two lower bits: as its value. -/
def bitV (n : Int) : Int := if n = 0 then 512 else if n = 1 then 8 else if n = 2 then 32 else 128
def sg (c tac : Int) : Bool := decide (tac / 4 % 2 = 1) && decide (c / bitV (tac % 4) % 2 = 1)
/-- Behind a change: it counts, if the signal falls. -/
def fT (was now : Bool) (tima : Int) : Int := if was && !now then (tima + 1) % 256 else tima
def fO (was now : Bool) (tima : Int) (ov : Bool) : Bool := ov || (was && !now && decide ((tima + 1) % 256 = 0))
def aT (tima tma : Int) (ov : Bool) : Int := if ov then tma else tima
def tkC (c : Int) : Int := (c + 4) % 65536
def tkT (c tima tma tac : Int) (ov : Bool) : Int := fT (sg c tac) (sg (tkC c) tac) (aT tima tma ov)
def tkO (c tima tma tac : Int) (ov : Bool) : Bool := fO (sg c tac) (sg (tkC c) tac) (aT tima tma ov) false
def rd (n c tima tma tac : Int) : Int := if n = 0 then c / 256 else if n = 1 then tima else if n = 2 then tma else if n = 3 then 248 + tac % 8 else 255
def wC (n c : Int) : Int := if n = 0 then 0 else c
def wM (n x tma : Int) : Int := if n = 2 then x else tma
def wA (n x tac : Int) : Int := if n = 3 then x % 8 else tac
def wT (n x c tima tac : Int) : Int := if n = 1 then x else fT (sg c tac) (sg (wC n c) (wA n x tac)) tima
def wO (n x c tima tac : Int) (ov : Bool) : Bool := if n = 1 then false else fO (sg c tac) (sg (wC n c) (wA n x tac)) tima ov

theorem t4' : ∀ a : Nat, a < 256 → (bits .and .u8 (a : Int) 4 != 0) = decide (a / 4 % 2 = 1) := by decide +kernel
theorem t3' : ∀ a : Nat, a < 256 → bits .and .u8 (a : Int) 3 = ((a % 4 : Nat) : Int) := by decide +kernel
theorem t7' : ∀ a : Nat, a < 256 → bits .and .u8 (a : Int) 7 = ((a % 8 : Nat) : Int) := by decide +kernel
theorem r248' : ∀ a : Nat, a < 256 → bits .or .u8 (a : Int) 248 = ((248 + a % 8 : Nat) : Int) := by decide +kernel
theorem t4 {a : Int} (h : B a) : (bits .and .u8 a 4 != 0) = decide (a / 4 % 2 = 1) := by
  obtain ⟨n, rfl⟩ := Int.eq_ofNat_of_zero_le h.1
  rw [t4' n (by have := h.2; omega), Bool.eq_iff_iff]; simp only [decide_eq_true_eq]; omega
theorem t3 {a : Int} (h : B a) : bits .and .u8 a 3 = a % 4 := by
  obtain ⟨n, rfl⟩ := Int.eq_ofNat_of_zero_le h.1
  rw [t3' n (by have := h.2; omega)]; omega
theorem t7 {a : Int} (h : B a) : bits .and .u8 a 7 = a % 8 := by
  obtain ⟨n, rfl⟩ := Int.eq_ofNat_of_zero_le h.1
  rw [t7' n (by have := h.2; omega)]; omega
theorem r248 {a : Int} (h : B a) : bits .or .u8 a 248 = 248 + a % 8 := by
  obtain ⟨n, rfl⟩ := Int.eq_ofNat_of_zero_le h.1
  rw [r248' n (by have := h.2; omega)]; omega
theorem r248d : ∀ a : Nat, a < 256 → bits .or .u8 248 (a : Int) = ((248 + a % 8 : Nat) : Int) := by decide +kernel
theorem r248c {a : Int} (h : B a) : bits .or .u8 248 a = 248 + a % 8 := by
  obtain ⟨n, rfl⟩ := Int.eq_ofNat_of_zero_le h.1
  rw [r248d n (by have := h.2; omega)]; omega
theorem low1 {a : Int} (h : W a) : bits .and .u16 a 1 = a % 2 := by
  obtain ⟨x, rfl⟩ := Int.eq_ofNat_of_zero_le h.1
  have h := u16_and_nat x 1 (by have := h.2; omega) (by omega)
  rw [nat_mask1] at h
  rw [show (1 : Int) = ((1 : Nat) : Int) from rfl, h]; omega
end Tm
end Go.Proofs.Ytobenphpjphdlaa
