/-
  The plain law of a clock: its hands, a second, as many cycles, a write, what is held, in numbers. Bytes are below 256, days 0 to 511, cycles of a second 0 to 1048576.
-/
import Derived.Test.YtpmgaoigelplgaaKit
import Derived.Laws.BitsAllLaws
namespace Go.Proofs.Ytpmgaoigelplgaa
namespace Ck
theorem wu8 (x : Int) : IntKind.wrap .u8 x = x % 256 := by simp [IntKind.wrap, IntKind.bits, IntKind.signed]
theorem wu16 (x : Int) : IntKind.wrap .u16 x = x % 65536 := by simp [IntKind.wrap, IntKind.bits, IntKind.signed]
theorem wu32 (x : Int) : IntKind.wrap .u32 x = x % 4294967296 := by simp [IntKind.wrap, IntKind.bits, IntKind.signed]
theorem wi64 (x : Int) (h1 : -9223372036854775808 ≤ x) (h2 : x ≤ 9223372036854775807) : IntKind.wrap .i64 x = x := by
  simp only [IntKind.wrap, IntKind.bits, IntKind.signed, Bool.true_and]
  split
  · rename_i h; simp at h; omega
  · rename_i h; simp at h; omega
abbrev B (x : Int) : Prop := 0 ≤ x ∧ x < 256
/-- Its hands. -/
structure Hd where
  s : Int
  m : Int
  h : Int
  d : Int
  cy : Bool
structure Ok (a : Hd) : Prop where
  s : B a.s
  m : B a.m
  h : B a.h
  d : 0 ≤ a.d ∧ a.d < 512
/-- A second comes. -/
def next (a : Hd) : Hd :=
  if (a.s + 1) % 64 = 60 then
    if (a.m + 1) % 64 = 60 then
      if (a.h + 1) % 32 = 24 then
        if a.d + 1 = 512 then ⟨0, 0, 0, 0, true⟩ else ⟨0, 0, 0, a.d + 1, a.cy⟩
      else ⟨0, 0, (a.h + 1) % 32, a.d, a.cy⟩
    else ⟨0, (a.m + 1) % 64, a.h, a.d, a.cy⟩
  else ⟨(a.s + 1) % 64, a.m, a.h, a.d, a.cy⟩
theorem next_ok {a : Hd} (h : Ok a) : Ok (next a) := by
  obtain ⟨⟨s1, s2⟩, ⟨m1, m2⟩, ⟨h1, h2⟩, ⟨d1, d2⟩⟩ := h
  unfold next
  repeat' split
  all_goals refine ⟨?_, ?_, ?_, ?_⟩ <;> simp only [B] <;> omega
/-- So many. -/
def secs : Nat → Hd → Hd
  | 0, a => a
  | k + 1, a => next (secs k a)
theorem secs_ok {a : Hd} (h : Ok a) : ∀ k, Ok (secs k a)
  | 0 => h
  | k + 1 => next_ok (secs_ok h k)
theorem secs_add (a : Hd) (j : Nat) : ∀ k, secs k (secs j a) = secs (j + k) a
  | 0 => rfl
  | k + 1 => by rw [← Nat.add_assoc]; show next (secs k (secs j a)) = next (secs (j + k) a); rw [secs_add a j k]
def mn (n : Int) : Int := if n < 1073741824 then n else 1073741824
def tkH (halt : Bool) (u n : Int) (a : Hd) : Hd := if halt = true ∨ n < 1 then a else secs ((u + mn n) / 1048576).toNat a
def tkU (halt : Bool) (u n : Int) : Int := if halt = true ∨ n < 1 then u else (u + mn n) % 1048576
theorem tkH_ok {halt : Bool} {u n : Int} {a : Hd} (h : Ok a) : Ok (tkH halt u n a) := by unfold tkH; split; (exact h); (exact secs_ok h _)
theorem tkU_ok {halt : Bool} {u n : Int} {b : Int} (hb : 1048575 ≤ b) (h : 0 ≤ u ∧ u ≤ b) : 0 ≤ tkU halt u n ∧ tkU halt u n ≤ b := by unfold tkU; split; (exact h); (exact ⟨by omega, by omega⟩)
theorem tk_stands {u n : Int} {a : Hd} : tkH true u n a = a ∧ tkU true u n = u := by simp [tkH, tkU]
/-- A write. -/
def wS (p x s : Int) : Int := if p = 0 then x % 64 else s
def wU (p u : Int) : Int := if p = 0 then 0 else u
def wM (p x m : Int) : Int := if p = 1 then x % 64 else m
def wH (p x h : Int) : Int := if p = 2 then x % 32 else h
def wD (p x d : Int) : Int := if p = 3 then d / 256 * 256 + x else if p = 4 then x % 2 * 256 + d % 256 else d
def wT (p x : Int) (t : Bool) : Bool := if p = 4 then decide (x / 64 % 2 = 1) else t
def wC (p x : Int) (c : Bool) : Bool := if p = 4 then decide (x / 128 = 1) else c
theorem wD_ok {p x d : Int} (hx : B x) (h : 0 ≤ d ∧ d < 512) : 0 ≤ wD p x d ∧ wD p x d < 512 := by
  unfold wD; split
  · exact ⟨by omega, by omega⟩
  · split
    · exact ⟨by omega, by omega⟩
    · exact h
theorem w_ok {p x : Int} {a : Hd} (hx : B x) (h : Ok a) : Ok ⟨wS p x a.s, wM p x a.m, wH p x a.h, wD p x a.d, wC p x a.cy⟩ := by
  obtain ⟨s, m, hh, d⟩ := h
  refine ⟨?_, ?_, ?_, wD_ok hx d⟩
  · show B (wS p x a.s); unfold wS; split; (exact ⟨by omega, by omega⟩); (exact s)
  · show B (wM p x a.m); unfold wM; split; (exact ⟨by omega, by omega⟩); (exact m)
  · show B (wH p x a.h); unfold wH; split; (exact ⟨by omega, by omega⟩); (exact hh)
theorem wU_ok {p u b : Int} (hb : 0 ≤ b) (h : 0 ≤ u ∧ u ≤ b) : 0 ≤ wU p u ∧ wU p u ≤ b := by unfold wU; split; (exact ⟨by omega, hb⟩); (exact h)
/-- What is held of the last part. -/
def top (d : Int) (t c : Bool) : Int := d / 256 % 2 + (if t then 64 else 0) + (if c then 128 else 0)
theorem top_B (d : Int) (t c : Bool) : B (top d t c) := by unfold top; constructor <;> split <;> split <;> omega
def rd (p a b c d e : Int) : Int := if p = 0 then a else if p = 1 then b else if p = 2 then c else if p = 3 then d else if p = 4 then e else 0
theorem m63' : ∀ a : Nat, a < 256 → bits .and .u8 (a : Int) 63 = ((a % 64 : Nat) : Int) := by decide +kernel
theorem m31' : ∀ a : Nat, a < 256 → bits .and .u8 (a : Int) 31 = ((a % 32 : Nat) : Int) := by decide +kernel
theorem m1' : ∀ a : Nat, a < 256 → bits .and .u8 (a : Int) 1 = ((a % 2 : Nat) : Int) := by decide +kernel
theorem m64' : ∀ a : Nat, a < 256 → (bits .and .u8 (a : Int) 64 != 0) = decide (a / 64 % 2 = 1) := by decide +kernel
theorem m128' : ∀ a : Nat, a < 256 → (bits .and .u8 (a : Int) 128 != 0) = decide (a / 128 = 1) := by decide +kernel
theorem m63 {a : Int} (h : B a) : bits .and .u8 a 63 = a % 64 := by
  obtain ⟨n, rfl⟩ := Int.eq_ofNat_of_zero_le h.1
  rw [m63' n (by have := h.2; omega)]; omega
theorem m31 {a : Int} (h : B a) : bits .and .u8 a 31 = a % 32 := by
  obtain ⟨n, rfl⟩ := Int.eq_ofNat_of_zero_le h.1
  rw [m31' n (by have := h.2; omega)]; omega
theorem m1 {a : Int} (h : B a) : bits .and .u8 a 1 = a % 2 := by
  obtain ⟨n, rfl⟩ := Int.eq_ofNat_of_zero_le h.1
  rw [m1' n (by have := h.2; omega)]; omega
theorem m64 {a : Int} (h : B a) : (bits .and .u8 a 64 != 0) = decide (a / 64 % 2 = 1) := by
  obtain ⟨n, rfl⟩ := Int.eq_ofNat_of_zero_le h.1
  rw [m64' n (by have := h.2; omega), Bool.eq_iff_iff]; simp only [decide_eq_true_eq]; omega
theorem m128 {a : Int} (h : B a) : (bits .and .u8 a 128 != 0) = decide (a / 128 = 1) := by
  obtain ⟨n, rfl⟩ := Int.eq_ofNat_of_zero_le h.1
  rw [m128' n (by have := h.2; omega), Bool.eq_iff_iff]; simp only [decide_eq_true_eq]; omega
/-- Days: below 512. -/
theorem dall : ∀ d : Nat, d < 512 → bits .andNot .i64 (d : Int) 255 = ((d / 256 * 256 : Nat) : Int) ∧ bits .and .i64 (d : Int) 255 = ((d % 256 : Nat) : Int) := by decide +kernel
theorem dnot {d : Int} (h : 0 ≤ d ∧ d < 512) : bits .andNot .i64 d 255 = d / 256 * 256 := by
  obtain ⟨n, rfl⟩ := Int.eq_ofNat_of_zero_le h.1
  rw [(dall n (by have := h.2; omega)).1]; omega
theorem dand {d : Int} (h : 0 ≤ d ∧ d < 512) : bits .and .i64 d 255 = d % 256 := by
  obtain ⟨n, rfl⟩ := Int.eq_ofNat_of_zero_le h.1
  rw [(dall n (by have := h.2; omega)).2]; omega
theorem or1' : ∀ x : Nat, x < 256 → bits .or .i64 0 (x : Int) = (x : Int) ∧ bits .or .i64 256 (x : Int) = ((256 + x : Nat) : Int) ∧ bits .or .i64 (x : Int) 0 = (x : Int) ∧ bits .or .i64 (x : Int) 256 = ((256 + x : Nat) : Int) := by decide +kernel
theorem or1 {k x : Int} (hk : k = 0 ∨ k = 1) (h : B x) : bits .or .i64 (k * 256) x = k * 256 + x := by
  obtain ⟨n, rfl⟩ := Int.eq_ofNat_of_zero_le h.1
  obtain ⟨h1, h2, _⟩ := or1' n (by have := h.2; omega)
  rcases hk with rfl | rfl
  · rw [show (0 : Int) * 256 = 0 from rfl, h1]; omega
  · rw [show (1 : Int) * 256 = 256 from rfl, h2]; omega
theorem or2 {k x : Int} (hk : k = 0 ∨ k = 1) (h : B x) : bits .or .i64 x (k * 256) = k * 256 + x := by
  obtain ⟨n, rfl⟩ := Int.eq_ofNat_of_zero_le h.1
  obtain ⟨_, _, h1, h2⟩ := or1' n (by have := h.2; omega)
  rcases hk with rfl | rfl
  · rw [show (0 : Int) * 256 = 0 from rfl, h1]; omega
  · rw [show (1 : Int) * 256 = 256 from rfl, h2]; omega
/-- A bit, as its value. -/
def bt (n : Int) (c : Bool) : Int := if c then (if n = 6 then 64 else 128) else 0
theorem top3 {k : Int} (hk : k = 0 ∨ k = 1) (t c : Bool) : bits .or .u8 (bits .or .u8 k (bt 6 t)) (bt 7 c) = k + (if t then 64 else 0) + (if c then 128 else 0) := by
  rcases hk with rfl | rfl <;> cases t <;> cases c <;> decide +kernel
end Ck
end Go.Proofs.Ytpmgaoigelplgaa
