/-
  What all walks with rows of this seat share: bytes, pieces of rows, what a row of one's own is. Conditions stand in each theorem.
-/
import Derived.Test.YtmbahohmiecfiaaSymB
import Derived.Test.YtmbahohmiecfiaaSymE
import Derived.Test.YtmbahohmiecfiaaKit
import Derived.Laws.BitsAllLaws
namespace Go.Proofs.Ytmbahohmiecfiaa
open Go.RowKit sym
set_option linter.unusedVariables false
set_option linter.unusedSimpArgs false
theorem base : Base Try.prog (fun _ => false) := ⟨by kernel_rfl, names_of (by kernel_rfl), fun _ h => by (cases h)⟩
theorem base2 : Base Try.prog (flatT Try.prog) := ⟨base.mixed, base.names, flat_ok _⟩
theorem wu8 (x : Int) : IntKind.wrap .u8 x = x % 256 := by simp [IntKind.wrap, IntKind.bits, IntKind.signed]
theorem wu16 (x : Int) : IntKind.wrap .u16 x = x % 65536 := by simp [IntKind.wrap, IntKind.bits, IntKind.signed]
theorem wi64 (x : Int) (h1 : -9223372036854775808 ≤ x) (h2 : x ≤ 9223372036854775807) : IntKind.wrap .i64 x = x := by
  simp only [IntKind.wrap, IntKind.bits, IntKind.signed, Bool.true_and]
  split
  · rename_i h; simp at h; omega
  · rename_i h; simp at h; omega
abbrev B (x : Int) : Prop := 0 ≤ x ∧ x < 256
abbrev W (x : Int) : Prop := 0 ≤ x ∧ x < 65536
/-- Bytes, all of them. -/
def Bs (xs : List Int) : Prop := ∀ j, B (xs.getD j 0)
theorem Bs.nil : Bs [] := fun j => ⟨by simp, by simp⟩
theorem Bs.mem {xs : List Int} (h : Bs xs) {x : Int} (hx : x ∈ xs) : B x := by
  obtain ⟨j, hj, rfl⟩ := List.getElem_of_mem hx
  have := h j
  rwa [List.getD_eq_getElem?_getD, List.getElem?_eq_getElem hj] at this
theorem Bs.of {xs : List Int} (h : ∀ x ∈ xs, B x) : Bs xs := fun j => by
  rw [List.getD_eq_getElem?_getD]
  cases hj : xs[j]? with
  | none => exact ⟨by simp, by simp⟩
  | some x => exact h x (List.mem_of_getElem? hj)
theorem Bs.append {xs ys : List Int} (h1 : Bs xs) (h2 : Bs ys) : Bs (xs ++ ys) := .of fun x hx => by
  rcases List.mem_append.1 hx with h | h
  · exact h1.mem h
  · exact h2.mem h
theorem Bs.take {xs : List Int} (h : Bs xs) (n : Nat) : Bs (xs.take n) := .of fun x hx => h.mem (List.mem_of_mem_take hx)
theorem Bs.drop {xs : List Int} (h : Bs xs) (n : Nat) : Bs (xs.drop n) := .of fun x hx => h.mem (List.mem_of_mem_drop hx)
theorem Bs.one {x : Int} (h : B x) : Bs [x] := .of fun y hy => by simp at hy; subst hy; exact h
theorem Bs.cons {x : Int} {xs : List Int} (h : B x) (h2 : Bs xs) : Bs (x :: xs) := .of fun y hy => by
  rcases List.mem_cons.1 hy with rfl | h3
  · exact h
  · exact h2.mem h3
theorem Bs.cut {xs : List Int} (h : Bs xs) (a b c : Nat) : Bs (cutL xs a b c) := (h.drop _).take _
theorem Bs.set {xs : List Int} (h : Bs xs) (i : Nat) {x : Int} (hx : B x) : Bs (xs.set i x) := .of fun y hy => by
  rcases List.mem_or_eq_of_mem_set hy with h1 | rfl
  · exact h.mem h1
  · exact hx
theorem cut1 (xs : List Int) (l h : Nat) : cutL xs l h 1 = (xs.drop l).take (h - l) := by simp [cutL]
theorem cut_all (xs : List Int) (l : Nat) : cutL xs l xs.length 1 = xs.drop l := by
  rw [cut1]
  exact List.take_of_length_le (by simp)
/-- A row of one's own, so long. -/
structure RowR (len : Nat) where
  nl : Bool
  cap : Nat
  nil : nl = true → len = 0 ∧ cap = 0
  le : len ≤ cap
  max : cap ≤ maxLen
def rowR {nl : Bool} {m n : Nat} (g : Grown nl m n) : RowR n := ⟨g.nl', g.cap, fun h => by
  have h1 := g.none h
  have h2 := g.le
  exact ⟨by omega, h1⟩, g.le, g.max⟩
theorem xr_cut {w : World} {a : Option Addr} {ks : List IntKind} {xs : List Int} {len cap l h : Nat} (hX : XR w a ks xs len) (hc : len ≤ cap) (h1 : l ≤ h) (h2 : h ≤ len) : XR w (cutA a cap l ks.length) ks (cutL xs l h ks.length) (h - l) := by
  have hle : h * ks.length ≤ xs.length := by rw [hX.1]; exact Nat.mul_le_mul_right _ h2
  have hl := cutL_length (xs := xs) (l := l) hle
  refine ⟨hl, fun j hj => ?_⟩
  obtain ⟨g1, g2⟩ := cutL_get hj
  obtain ⟨b, off, rfl, hb, hcell⟩ := hX.2 _ g1
  have hcl : cap ≠ l := by
    rintro rfl
    have : h - cap = 0 := by omega
    rw [hl, this, Nat.zero_mul] at hj
    omega
  refine ⟨b, off + l * ks.length, by simp [cutA, hcl, add_plain], hb, ?_⟩
  rw [g2, Nat.add_assoc, hcell]
  congr 2
  rw [Nat.add_comm (l * ks.length) j, Nat.add_mul_mod_self_right]
theorem xr_nil {w : World} {a : Option Addr} {ks : List IntKind} : XR w a ks [] 0 := ⟨by simp, fun j hj => by simp at hj⟩
/-- What was handed in, as a list. -/
def ofF (n : Nat) (z : Nat → Int) : List Int := (List.range n).map z
theorem ofF_length (n : Nat) (z : Nat → Int) : (ofF n z).length = n := by simp [ofF]
theorem ofF_get {n : Nat} {z : Nat → Int} {j : Nat} (h : j < n) : (ofF n z).getD j 0 = z j := by simp [ofF, h]
theorem ofF_B {n : Nat} {z : Nat → Int} (h : ∀ j, B (z j)) : Bs (ofF n z) := .of fun x hx => by
  obtain ⟨j, _, rfl⟩ := List.mem_map.1 hx
  exact h j
end Go.Proofs.Ytmbahohmiecfiaa
