/-
  How a slice that is a cell of a struct is opened. No conditions.
-/
import Derived.Test.YtmbahohmiecfiaaKit
namespace Go.Proofs.Ytmbahohmiecfiaa
open Go.ChangeShapes Go.WideShapes Go.ChangeAt Go.RowKit
/-- A slice of integers that is a cell of a struct: its cells up to the length. -/
theorem open_ints_cell {H : Type} {enc : TypeId × Value → H} {P : Program} {w : World} {t sl e : TypeId} {fs : Array Field} {f : Field} {k : IntKind} {cs : List Value} {j o : Nat} {c : Value} {d : DataW H} {p : List MemPlace} (ht : P.underlying t = some (.struct fs)) (hf : fs[j]? = some f) (hft : f.type = sl) (hfo : f.offset = o)
    (hs : P.underlying sl = some (.slice e)) (he : P.underlying e = some (.int k)) (hc : P.cellsOf e = 1) (hc1 : P.cellsOf sl = 1) (hcell : cs[o]? = some c) (h : DataW.Trod enc P w 0 (fun _ => true) true t (.agg cs.toArray) d p) :
    ∃ (A : Option Addr) (len cap : Nat) (zs : Nat → Int), c = .slice A len cap ∧ cap ≤ maxLen ∧ len ≤ cap ∧ (∀ i, (Lit.int k (zs i)).wf = true) ∧
      ∀ i, i < len → ∃ b off, A = some ⟨b, off, none⟩ ∧ b < w.heap.size ∧ ∀ j, j < len → w.cell? ⟨b, off + j, none⟩ = some (.int k (zs j)) := by
  obtain ⟨fuel, hfu⟩ := h
  have hfu : DataW.trod enc P w 0 (fun _ => true) true fuel t cs = some (d, p) := by simpa [Value.cells] using hfu
  obtain ⟨xs, n, _, _, hl, hlen, hfs⟩ := DataW.trod_struct ht hfu
  have h1 := hfs j f hf
  have ho : o < cs.length := (List.getElem?_eq_some_iff.1 hcell).1
  have hone : (cs.drop o).take 1 = [c] := by
    rw [List.drop_eq_getElem_cons ho]
    have : cs[o] = c := (List.getElem?_eq_some_iff.1 hcell).2
    rw [this]
    rfl
  rw [hft, hfo, hc1, hone] at h1
  have hj : j < xs.length := by rw [hlen]; exact (Array.getElem?_eq_some_iff.1 hf).1
  rw [List.getElem?_eq_getElem hj] at h1
  rcases Go.ChangeShapes.open_ints hs he hc h1 with ⟨hcs, _⟩ | ⟨a, len, cap, zs, hcs, _, hl', hm, hz, _, hcell', hwz⟩
  · simp at hcs
    subst hcs
    exact ⟨none, 0, 0, fun _ => 0, rfl, by simp [maxLen], Nat.le_refl _, fun _ => kit.wf_zero k, fun i hi => absurd hi (by omega)⟩
  · simp at hcs
    subst hcs
    have hzl : len ≤ zs.length := by rw [hz]; split <;> omega
    refine ⟨some a, len, cap, fun i => zs.getD i 0, rfl, hm, hl', fun i => ?_, fun i hi => ?_⟩
    · by_cases hi : i < zs.length
      · simp only [List.getD_eq_getElem?_getD, List.getElem?_eq_getElem hi, Option.getD_some]
        exact hwz _ (List.getElem_mem hi)
      · simp only [List.getD_eq_getElem?_getD, List.getElem?_eq_none (Nat.le_of_not_lt hi), Option.getD_none]
        exact kit.wf_zero k
    · obtain ⟨b, off, rfl, hcc⟩ := ints_at hcell' (by omega)
      exact ⟨b, off, rfl, block_lt_of_cell (hcc i (by omega)), fun j hj => hcc j (by omega)⟩
end Go.Proofs.Ytmbahohmiecfiaa
