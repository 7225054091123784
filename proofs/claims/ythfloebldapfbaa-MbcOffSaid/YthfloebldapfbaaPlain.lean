/-
  The plain law of a cartridge's map: a write, a bank, a place, in numbers. Bytes are below 256, places below 65536.
-/
import Derived.Test.YthfloebldapfbaaKit
import Derived.Laws.BitsAllLaws
namespace Go.Proofs.Ythfloebldapfbaa
namespace Mb
theorem wu8 (x : Int) : IntKind.wrap .u8 x = x % 256 := by simp [IntKind.wrap, IntKind.bits, IntKind.signed]
theorem wu16 (x : Int) : IntKind.wrap .u16 x = x % 65536 := by simp [IntKind.wrap, IntKind.bits, IntKind.signed]
theorem wi64 (x : Int) (h1 : -9223372036854775808 ≤ x) (h2 : x ≤ 9223372036854775807) : IntKind.wrap .i64 x = x := by
  simp only [IntKind.wrap, IntKind.bits, IntKind.signed, Bool.true_and]
  split
  · rename_i h; simp at h; omega
  · rename_i h; simp at h; omega
abbrev B (x : Int) : Prop := 0 ≤ x ∧ x < 256
abbrev W (x : Int) : Prop := 0 ≤ x ∧ x < 65536
def one (x : Int) : Int := if x = 0 then 1 else x
def wOn (k a x : Int) (on : Bool) : Bool := if ((k = 1 ∨ k = 3 ∨ k = 5) ∧ a / 8192 % 4 = 0) ∨ (k = 2 ∧ a % 32768 < 16384 ∧ a / 256 % 2 = 0) then decide (x % 16 = 10) else on
def wLow (k a x low : Int) : Int :=
  if k = 1 ∧ a / 8192 % 4 = 1 then one (x % 32)
  else if k = 2 ∧ a % 32768 < 16384 ∧ a / 256 % 2 = 1 then one (x % 16)
  else if k = 3 ∧ a / 8192 % 4 = 1 then one (x % 128)
  else if k = 5 ∧ a / 4096 % 8 = 2 then low / 256 * 256 + x
  else if k = 5 ∧ a / 4096 % 8 = 3 then low % 256 + x % 2 * 256
  else low
def wHigh (k a x high : Int) : Int :=
  if k = 1 ∧ a / 8192 % 4 = 2 then x % 4
  else if (k = 3 ∨ k = 5) ∧ a / 8192 % 4 = 2 then x % 16
  else high
def wMode (k a x : Int) (mode : Bool) : Bool := if k = 1 ∧ a / 8192 % 4 = 3 then decide (x % 2 = 1) else mode
def wLast (k a x last : Int) : Int := if k = 3 ∧ a / 8192 % 4 = 3 then x else last
def wHeld (k a x last : Int) : Bool := decide (k = 3 ∧ a / 8192 % 4 = 3 ∧ last = 0 ∧ x = 1)
structure Ok (low high last : Int) : Prop where
  low : 0 ≤ low ∧ low < 512
  high : 0 ≤ high ∧ high < 16
  last : B last
theorem w_ok {k a x low high last : Int} (hx : B x) (h : Ok low high last) : Ok (wLow k a x low) (wHigh k a x high) (wLast k a x last) := by
  obtain ⟨l, hh, la⟩ := h
  refine ⟨?_, ?_, ?_⟩
  · unfold wLow one
    repeat' split
    all_goals omega
  · unfold wHigh
    repeat' split
    all_goals omega
  · unfold wLast
    split
    · exact hx
    · exact la
def bankN (k addr low high : Int) (mode : Bool) : Int :=
  if k = 0 then (if addr / 16384 % 2 = 1 then 1 else 0)
  else if k = 1 then (if addr / 16384 % 2 = 1 then high * 32 + low else if mode then high * 32 else 0)
  else if k = 2 ∨ k = 3 ∨ k = 5 then (if addr / 16384 % 2 = 1 then low else 0)
  else 0
def bank (k banks addr low high : Int) (mode : Bool) : Int := if banks < 1 then 0 else bankN k addr low high mode % banks
def rom (k banks addr low high : Int) (mode : Bool) : Int := 16384 * bank k banks addr low high mode + addr % 16384
def sees (k ram addr high : Int) (on : Bool) : Bool :=
  decide (40960 ≤ addr ∧ addr < 49152 ∧ on = true ∧ 1 ≤ ram ∧ (k = 0 ∨ k = 1 ∨ k = 2 ∨ (k = 3 ∧ high ≤ 3) ∨ k = 5))
def place (k addr high : Int) (mode : Bool) : Int :=
  if k = 0 then addr % 8192
  else if k = 1 then (if mode then addr % 8192 + 8192 * high else addr % 8192)
  else if k = 2 then addr % 512
  else addr % 8192 + 8192 * high
def at_ (k ram addr high : Int) (on mode : Bool) : Int := if sees k ram addr high on then place k addr high mode % ram else 0
def clk (k high : Int) (on : Bool) : Bool := decide (k = 3 ∧ on = true ∧ 8 ≤ high ∧ high ≤ 12)
def part (k high : Int) (on : Bool) : Int := if clk k high on then high - 8 else 0
def kindOf (n : Int) : Int := if n % 6 = 4 then 5 else if n % 6 = 5 then 4 else n % 6
def banksOf (n : Int) : Int := 2 * 2 ^ (n % 9).toNat
def ramOf (k n : Int) : Int := if k = 2 then 512 else if n % 6 = 0 then 0 else if n % 6 = 1 then 2048 else if n % 6 = 2 then 8192 else if n % 6 = 3 then 32768 else if n % 6 = 4 then 131072 else 65536
theorem banks_any (n : Int) : banksOf n = 2 ∨ banksOf n = 4 ∨ banksOf n = 8 ∨ banksOf n = 16 ∨ banksOf n = 32 ∨ banksOf n = 64 ∨ banksOf n = 128 ∨ banksOf n = 256 ∨ banksOf n = 512 := by
  unfold banksOf
  have h : (n % 9).toNat < 9 := by omega
  generalize (n % 9).toNat = j at h
  have : ∀ j : Nat, j < 9 → (2 * 2 ^ j : Int) = 2 ∨ (2 * 2 ^ j : Int) = 4 ∨ (2 * 2 ^ j : Int) = 8 ∨ (2 * 2 ^ j : Int) = 16 ∨ (2 * 2 ^ j : Int) = 32 ∨ (2 * 2 ^ j : Int) = 64 ∨ (2 * 2 ^ j : Int) = 128 ∨ (2 * 2 ^ j : Int) = 256 ∨ (2 * 2 ^ j : Int) = 512 := by decide
  exact this j h
end Mb
end Go.Proofs.Ythfloebldapfbaa
