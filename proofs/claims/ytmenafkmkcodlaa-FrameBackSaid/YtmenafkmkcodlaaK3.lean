/-
  How a slice of structs of a number and bytes is opened. No conditions.
-/
import Derived.Test.YtmenafkmkcodlaaR17
import Derived.Test.YtmenafkmkcodlaaK2
namespace Go.Proofs.Ytmenafkmkcodlaa
open Go.ChangeShapes Go.WideShapes Go.ChangeAt Go.RowKit
set_option linter.unusedVariables false
set_option linter.unusedSimpArgs false
theorem wf_B {x : Int} (h : (Lit.int IntKind.u8 x).wf = true) : B x := by
  simp [Lit.wf, IntKind.min, IntKind.max, IntKind.signed, IntKind.bits] at h
  exact ⟨by omega, by omega⟩
/-- What is known of one of them. -/
structure FrAt (w : World) (b off : Nat) (i : Nat) (v : FrIn) : Prop where
  c0 : w.cell? ⟨b, off + (i * 2 + 0), none⟩ = some (.int .u8 v.s)
  c1 : w.cell? ⟨b, off + (i * 2 + 1), none⟩ = some (.slice v.a v.n v.c)
  s : B v.s
  x : sym.XR w v.a [.u8] v.xs v.n
  le : v.n ≤ v.c
  bs : Bs v.xs
theorem open_frames {H : Type} {enc : TypeId × Value → H} {P : Program} {w : World} {A : Option Addr} {len : Nat} {fs : Array Field} {el : TypeId} {f0 f1 : Field}
    (h : ∀ i, i < len → ∃ b off, A = some ⟨b, off, none⟩ ∧ b < w.heap.size ∧ ∀ j, j < len → ∀ (q : Nat) (f : Field), fs[q]? = some f → ∃ (u : Value) (y : DataW H × List MemPlace) (n : Nat), w.cell? ⟨b, off + (j * fs.size + q), none⟩ = some u ∧ DataW.trod enc P w 0 (fun _ => true) true n f.type [u] = some y)
    (hsz : fs.size = 2) (h0 : fs[0]? = some f0) (h1 : fs[1]? = some f1) (k0 : P.underlying f0.type = some (.int .u8)) (ks : P.underlying f1.type = some (.slice el)) (ke : P.underlying el = some (.int .u8)) (hc : P.cellsOf el = 1) :
    ∃ F : Nat → FrIn, sym.XOk w A (frCell F) 2 len ∧ ∀ i, i < len → B (F i).s ∧ sym.XR w (F i).a [.u8] (F i).xs (F i).n ∧ (F i).n ≤ (F i).c ∧ Bs (F i).xs := by
  have one : ∀ i, ∃ v : FrIn, i < len → ∃ b off, A = some ⟨b, off, none⟩ ∧ b < w.heap.size ∧ FrAt w b off i v := fun i => by
    by_cases hi : i < len
    · obtain ⟨b, off, hA, hb, hcc⟩ := h i hi
      rw [hsz] at hcc
      obtain ⟨u, y, n, hcell, ht⟩ := hcc i hi 0 f0 h0
      obtain ⟨a, e0, _, wa⟩ := DataW.trod_int k0 ht
      simp at e0
      subst e0
      obtain ⟨u1, ⟨D, Pl⟩, n1, hcell1, ht1⟩ := hcc i hi 1 f1 h1
      rcases Go.ChangeShapes.open_ints ks ke hc ht1 with ⟨hcs, _⟩ | ⟨a2, len2, cap2, zs, hcs, _, hl', hm, hz, _, hcell', hwz⟩
      · simp at hcs
        subst hcs
        exact ⟨⟨a, none, [], 0, 0⟩, fun _ => ⟨b, off, hA, hb, hcell, hcell1, wf_B wa, ⟨rfl, fun j hj => by simp at hj⟩, Nat.le_refl _, Bs.nil⟩⟩
      · simp at hcs
        subst hcs
        have hzl : len2 ≤ zs.length := by rw [hz]; split <;> omega
        refine ⟨⟨a, some a2, zs.take len2, len2, cap2⟩, fun _ => ⟨b, off, hA, hb, hcell, hcell1, wf_B wa, ⟨by simp; omega, fun j hj => ?_⟩, hl', .of fun z hz' => wf_B (hwz z (List.mem_of_mem_take hz'))⟩⟩
        have hj2 : j < len2 := by rw [List.length_take] at hj; omega
        obtain ⟨b2, off2, e2, hcc2⟩ := ints_at hcell' (by omega)
        subst e2
        refine ⟨b2, off2, rfl, block_lt_of_cell (hcc2 j (by omega)), ?_⟩
        rw [hcc2 j (by omega)]
        have e3 : (zs.take len2).getD j 0 = zs.getD j 0 := by
          rw [List.getD_eq_getElem?_getD, List.getElem?_take, if_pos hj2, ← List.getD_eq_getElem?_getD]
        rw [e3]
        simp [Nat.mod_one]
    · exact ⟨⟨0, none, [], 0, 0⟩, fun h => absurd h hi⟩
  refine ⟨fun i => Classical.choose (one i), fun i hi q hq => ?_, fun i hi => ?_⟩
  · obtain ⟨b, off, hA, hb, hv⟩ := Classical.choose_spec (one i) hi
    refine ⟨b, off, hA, hb, ?_⟩
    have : q = 0 ∨ q = 1 := by omega
    rcases this with rfl | rfl
    · exact ⟨hv.c0, rfl⟩
    · exact ⟨hv.c1, rfl⟩
  · obtain ⟨b, off, hA, hb, hv⟩ := Classical.choose_spec (one i) hi
    exact ⟨hv.s, hv.x, hv.le, hv.bs⟩
end Go.Proofs.Ytmenafkmkcodlaa
