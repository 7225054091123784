/-
  Slices of arrays of integers, opened. Conditions stand in the theorem.
-/
import Derived.Test.YtcfnfihemejjkaaKit
namespace Go.Proofs.Ytcfnfihemejjkaa
open Go.ChangeShapes Go.WideShapes Go.ChangeAt Go.RowKit
open Go.Deep Go.Deep in
/-- A slice of arrays of integers: its cells. -/
theorem open_arrays_any {H : Type} {enc : TypeId × Value → H} {P : Program} {w : World} {r : Reach} {base : Nat} {t e e0 : TypeId} {k : IntKind} {n : Nat} {v : Value} {d : DataW H} {p : List MemPlace} (ht : P.underlying t = some (.slice e)) (he : P.underlying e = some (.array n e0)) (hk : P.underlying e0 = some (.int k))
    (hc0 : P.cellsOf e0 = 1) (hC : P.cellsOf e = n) (h0 : 0 < n) (hv : Value.okWide P w r base t v) (h : DataW.Trod enc P w 0 (fun _ => true) true t v d p) :
    ∃ (A : Option Addr) (len cap : Nat), v = .slice A len cap ∧ cap ≤ maxLen ∧ len ≤ cap ∧
      ∀ i, i < len * n → ∃ b off, A = some ⟨b, off, none⟩ ∧ b < w.heap.size ∧ w.cell? ⟨b, off + i, none⟩ = some (.int k (kit.cellInt w A i)) ∧ (Lit.int k (kit.cellInt w A i)).wf = true := by
  obtain ⟨a0, len, cap, rfl⟩ := okWide_slice ht hv
  obtain ⟨fuel, hf⟩ := h
  rcases open_slice ht hf with ⟨hcs, _⟩ | ⟨a, len', cap', m, n', D, Pl, hcs, _, hl, hm, hmm, _, hi⟩
  · simp [Value.cells] at hcs
    obtain ⟨rfl, rfl, rfl⟩ := hcs
    exact ⟨none, 0, 0, rfl, by simp [maxLen], Nat.le_refl _, fun i hi => absurd hi (by omega)⟩
  · simp [Value.cells] at hcs
    obtain ⟨rfl, rfl, rfl⟩ := hcs
    have hml : len ≤ m := by rw [hmm]; split <;> omega
    have one : ∀ i, i < len * n → ∃ x, w.cell? (a.add i) = some (.int k x) ∧ (Lit.int k x).wf = true := by
      intro i hil
      have hq : i / n < len := Nat.div_lt_of_lt_mul (by rw [Nat.mul_comm]; exact hil)
      have hr : i % n < n := Nat.mod_lt _ h0
      obtain ⟨cs', hc, ht'⟩ := hi (i / n) (by omega)
      rw [hC] at hc
      obtain ⟨xs, m', _, _, _, hxl, hg⟩ := DataW.trod_array he ht'
      obtain ⟨_, hcl, hat⟩ := World.cells?_some hc
      have hv' : cs'[i % n]? = some (cs'[i % n]'(by omega)) := List.getElem?_eq_getElem (by omega)
      have h1 := hg (i % n) hr
      rw [hc0, Nat.mul_one] at h1
      have hone' : (cs'.drop (i % n)).take 1 = [cs'[i % n]'(by omega)] := by
        rw [List.drop_eq_getElem_cons (by omega)]
        rfl
      rw [hone', List.getElem?_eq_getElem (by omega : i % n < xs.length)] at h1
      obtain ⟨x, e1, _, wx⟩ := DataW.trod_int hk h1
      simp at e1
      have hcell := hat (i % n) hr
      rw [hv', e1, Go.Deep.add_add] at hcell
      refine ⟨x, ?_, wx⟩
      rw [← hcell]
      congr 2
      rw [Nat.mul_comm]
      exact (Nat.div_add_mod i n).symm
    refine ⟨some a, len, cap, rfl, hm, hl, fun i hil => ?_⟩
    obtain ⟨x, hx, wx⟩ := one i hil
    obtain ⟨b, off, spot⟩ := a
    have hspot : spot = none := by
      obtain ⟨x0, hx0, _⟩ := one 0 (by omega)
      have := World.cell?_spot hx0
      unfold Addr.add at this
      rw [if_pos rfl] at this
      exact this
    subst hspot
    rw [Go.WideShapes.add_plain] at hx
    have e1 : kit.cellInt w (some ⟨b, off, none⟩) i = x := by
      unfold kit.cellInt
      simp only [hx]
    rw [e1]
    exact ⟨b, off, rfl, block_lt_of_cell hx, hx, wx⟩
end Go.Proofs.Ytcfnfihemejjkaa
