/-
  The frame that all laws of this seat share: from 'the call returns true and nothing below the old heap has turned' to the row's post; and how a struct by value is opened. No conditions.
-/
import Derived.Test.YtmbahohmiecfiaaRows
import Derived.WalkKit
import Derived.ProofKit
import Derived.OpenShut
import Derived.Carry
import Derived.Deep.Slices
import Derived.Deep.Fields
import Derived.ChangeSame
import Derived.WideKeyArgs
namespace Go.Proofs.Ytmbahohmiecfiaa.kit
open Go.ChangeShapes Go.WideShapes Go.ChangeAt Go.RowKit

theorem trodAll_stays {H : Type} {enc : TypeId × Value → H} {P : Program} (hl : laidOutB P = true) {W W' : World} {sp : Nat → Bool} (hb : Below W.heap.size W W') :
    ∀ (ts : List TypeId) (vs : List Value) (ds : List (DataW H)) (ps : List MemPlace), (∀ t ∈ ts, P.readableRec t = true ∧ t < P.types.size) →
      DataW.TrodAll enc P W 0 (fun _ => true) true ts vs ds ps → (∀ x ∈ ps, x.block < W.heap.size) → (∀ x ∈ ps, sp x.block = true) → DataW.TrodAll enc P W' 0 sp true ts vs ds ps
  | [], [], [], _, _, h, _, _ => h
  | t :: ts, v :: vs, d :: ds, _, hr, ⟨p, q, h0, hq, e⟩, hlt, hs => by
    subst e
    refine ⟨p, q, ?_, trodAll_stays hl hb ts vs ds q (fun x hx => hr x (List.mem_cons_of_mem _ hx)) hq (fun x hx => hlt x (List.mem_append_right _ hx)) (fun x hx => hs x (List.mem_append_right _ hx)), rfl⟩
    exact WideElems.Trod_stays hl (hr t List.mem_cons_self).1 (hr t List.mem_cons_self).2 h0 (fun x hx => hb.same (hlt x (List.mem_append_left _ hx))) (fun x hx => hs x (List.mem_append_left _ hx))
  | [], [], _ :: _, _, _, h, _, _ => h.elim
  | [], _ :: _, _, _, _, h, _, _ => h.elim
  | _ :: _, [], _, _, _, h, _, _ => h.elim
  | _ :: _, _ :: _, [], _, _, h, _, _ => h.elim

/-- The row's post, from the walk's two words. -/
theorem law_post {H : Type} {enc : TypeId × Value → H} {P : Program} {f : Func} {s : ChangeSpec} {W W' : World} {args : Array Value} {ds gs : List (DataW H)} {before : List MemPlace} {b : TypeId}
    (hl : laidOutB P = true) (hps : f.params.toList.all (fun t => P.readableRec t && decide (t < P.types.size)) = true) (hres : f.resultTypes = #[b]) (hb4 : P.underlying b = some .bool) (hv : s.vars = [])
    (hW : DataW.Whole enc P f.params.toList s.vars false W args.toList ds gs before)
    (hs : s.fn H ds = { results := [.lit (.bool true)], args := ds }) (hb : Below W.heap.size W W') :
    s.post enc P f false true false false W args (.bool true) W' := by
  have hW' := hW
  obtain ⟨p, q, hA, hV, hpq, hfz, hnd⟩ := hW
  have hg : gs = [] ∧ q = [] := by
    rw [hv] at hV
    cases gs with
    | nil => exact ⟨rfl, hV⟩
    | cons x r => exact hV.elim
  obtain ⟨rfl, rfl⟩ := hg
  simp only [List.append_nil] at hpq
  subst hpq
  have e : s.fn H (ds ++ []) = { results := [.lit (.bool true)], args := ds } := by rw [List.append_nil]; exact hs
  refine ⟨ds, [], before, [], before, [], hW', ?_, ?_, ?_, hb.frame _, fun h => by cases h⟩
  · rw [e, hres]
    exact ⟨[], [], shut_bool hb4 true, rfl, rfl⟩
  · rw [e]
    refine trodAll_stays hl hb _ _ _ _ (fun t ht => ?_) hA (fun x hx => hW'.lt x hx) (fun x hx => by simpa using hW'.lt x hx)
    have := List.all_eq_true.1 hps t ht
    simpa using this
  · rw [e, hv]
    rfl

/-- A struct or an array by value: its cells, each of its own type. -/
theorem open_row {P : Program} {w : World} {r : Reach} {b : Nat} {t : TypeId} {v : Value} {ts : List TypeId} (hs : (match P.underlying t with | some (.struct _) | some (.array _ _) => true | _ => false) = true)
    (hct : P.cellTypes P.depth t = some ts) (hC : P.cellsOf t = ts.length) (h : Value.okWide P w r b t v) :
    ∃ cs : List Value, v = .agg cs.toArray ∧ cs.length = ts.length ∧ ∀ (i : Nat) (u : TypeId), ts[i]? = some u → ∃ c, cs[i]? = some c ∧ Cell.okWide P w r b u c := by
  have h' : ∃ cs, v = .agg cs ∧ cs.size = P.cellsOf t ∧ Row.okWide P w r b t cs := by
    unfold Value.okWide at h
    split at h <;> first | exact h | (rename_i h1 h2; revert hs; split <;> simp_all)
  obtain ⟨cs, rfl, hsz, ts', hct', _, hcell⟩ := h'
  rw [hct] at hct'
  injection hct' with hct'
  subst hct'
  refine ⟨cs.toList, by simp, by simp; omega, fun i u hu => ?_⟩
  have hi : i < ts.length := (List.getElem?_eq_some_iff.1 hu).1
  have hi' : i < cs.size := by omega
  obtain ⟨u', hu', hok⟩ := hcell i cs[i] (Array.getElem?_eq_getElem hi')
  rw [Nat.mod_eq_of_lt hi, hu] at hu'
  injection hu' with hu'
  subst hu'
  exact ⟨cs[i], by simp [hi'], hok⟩
theorem cell_int {P : Program} {w : World} {r : Reach} {b : Nat} {t : TypeId} {v : Value} {k : IntKind} (ht : P.underlying t = some (.int k)) (h : Cell.okWide P w r b t v) : ∃ n, v = .int k n ∧ (Lit.int k n).wf = true := by
  unfold Cell.okWide at h
  rw [ht] at h
  cases v <;> simp [Cell.ok, ht] at h
  rename_i k' n
  obtain ⟨rfl, h⟩ := h
  exact ⟨n, rfl, by simpa [Lit.wf, IntKind.has] using h⟩
theorem cell_bool {P : Program} {w : World} {r : Reach} {b : Nat} {t : TypeId} {v : Value} (ht : P.underlying t = some .bool) (h : Cell.okWide P w r b t v) : ∃ x, v = .bool x := by
  unfold Cell.okWide at h
  rw [ht] at h
  cases v <;> simp [Cell.ok, ht] at h
  exact ⟨_, rfl⟩
theorem wf_zero (k : IntKind) : (Lit.int k 0).wf = true := by cases k <;> rfl
/-- A slice of integers: its cells up to the length. -/
theorem open_ints_any {H : Type} {enc : TypeId × Value → H} {P : Program} {w : World} {r : Reach} {base : Nat} {t e : TypeId} {k : IntKind} {v : Value} {d : DataW H} {p : List MemPlace} (ht : P.underlying t = some (.slice e)) (he : P.underlying e = some (.int k)) (hc : P.cellsOf e = 1)
    (hv : Value.okWide P w r base t v) (h : DataW.Trod enc P w 0 (fun _ => true) true t v d p) :
    ∃ (A : Option Addr) (len cap : Nat) (zs : Nat → Int), v = .slice A len cap ∧ cap ≤ maxLen ∧ len ≤ cap ∧ (∀ i, (Lit.int k (zs i)).wf = true) ∧
      ∀ i, i < len → ∃ b off, A = some ⟨b, off, none⟩ ∧ b < w.heap.size ∧ ∀ j, j < len → w.cell? ⟨b, off + j, none⟩ = some (.int k (zs j)) := by
  obtain ⟨a0, len, cap, rfl⟩ := okWide_slice ht hv
  obtain ⟨fuel, hf⟩ := h
  rcases Go.ChangeShapes.open_ints ht he hc hf with ⟨hcs, _⟩ | ⟨a, len', cap', zs, hcs, _, hl, hm, hz, _, hcell, hwz⟩
  · simp [Value.cells] at hcs
    obtain ⟨rfl, rfl, rfl⟩ := hcs
    exact ⟨none, 0, 0, fun _ => 0, rfl, by simp [maxLen], Nat.le_refl _, fun _ => wf_zero k, fun i hi => absurd hi (by omega)⟩
  · simp [Value.cells] at hcs
    obtain ⟨rfl, rfl, rfl⟩ := hcs
    have hzl : len ≤ zs.length := by rw [hz]; split <;> omega
    refine ⟨some a, len, cap, fun i => zs.getD i 0, rfl, hm, hl, fun i => ?_, fun i hi => ?_⟩
    · by_cases hi : i < zs.length
      · simp only [List.getD_eq_getElem?_getD, List.getElem?_eq_getElem hi, Option.getD_some]
        exact hwz _ (List.getElem_mem hi)
      · simp only [List.getD_eq_getElem?_getD, List.getElem?_eq_none (Nat.le_of_not_lt hi), Option.getD_none]
        exact wf_zero k
    · obtain ⟨b, off, rfl, hcc⟩ := ints_at hcell (by omega)
      exact ⟨b, off, rfl, block_lt_of_cell (hcc i (by omega)), fun j hj => hcc j (by omega)⟩

section
open Go.Deep
variable {H : Type} {enc : TypeId × Value → H} {P : Program} {w : World} {base : Nat} {spare : Nat → Bool} {held : Bool}
/- A slice of structs of one-cell fields, opened: a lemma that the guide gives to be copied (extra-structs). -/
theorem open_slice_fields {t e : TypeId} {fs : Array Field} {fuel : Nat} {cs : List Value} {x : DataW H × List MemPlace} (ht : P.underlying t = some (.slice e)) (he : P.underlying e = some (.struct fs))
    (hone : oneCellFields P fs = true) (hC : P.cellsOf e = fs.size) (h : DataW.trod enc P w base spare held fuel t cs = some x) :
    (cs = [.slice none 0 0] ∧ x = (.nil, [])) ∨
    ∃ (a : Addr) (len cap m : Nat) (D : Nat → DataW H) (Pl : Nat → List MemPlace), cs = [.slice (some a) len cap] ∧ base ≤ a.block ∧ len ≤ cap ∧ cap ≤ maxLen ∧ m = (if spare a.block then cap else len) ∧
      x = (.slice ((List.range len).map D) ((List.range (m - len)).map fun j => D (len + j)), MemPlace.row a (m * fs.size) ++ (List.range m).flatMap Pl) ∧
      ∀ i, i < m → ∃ (ys : List (DataW H × List MemPlace)) (n : Nat), D i = .agg (ys.map (·.1)) ∧ Pl i = ys.flatMap (·.2) ∧ ys.length = fs.size ∧
        ∀ (j : Nat) (f : Field), fs[j]? = some f → ∃ (v : Value) (y : DataW H × List MemPlace), w.cell? (a.add (i * fs.size + j)) = some v ∧ ys[j]? = some y ∧ DataW.trod enc P w base spare held n f.type [v] = some y := by
  rcases open_slice ht h with h0 | ⟨a, len, cap, m, n, D, Pl, hcs, hb, hl, hm, hmm, hx, hi⟩
  · exact .inl h0
  · refine .inr ⟨a, len, cap, m, D, Pl, hcs, hb, hl, hm, hmm, by rw [hC] at hx; exact hx, fun i him => ?_⟩
    obtain ⟨cs', hc, ht'⟩ := hi i him
    rw [hC] at hc
    obtain ⟨ys, n', hn', hy, hlen, hyl, hf⟩ := DataW.trod_struct he ht'
    obtain ⟨_, hcl, hat⟩ := World.cells?_some hc
    simp only [Prod.mk.injEq] at hy
    refine ⟨ys, n', hy.1, hy.2, hyl, fun j f hj => ?_⟩
    obtain ⟨ho, hk⟩ := hone_of hone j f hj
    have hjl : j < fs.size := (Array.getElem?_eq_some_iff.1 hj).1
    have hcell := hat j hjl
    have hv : cs'[j]? = some (cs'[j]'(by omega)) := List.getElem?_eq_getElem (by omega)
    have h1 := hf j f hj
    rw [ho, hk] at h1
    have hone' : (cs'.drop j).take 1 = [cs'[j]'(by omega)] := by
      rw [List.drop_eq_getElem_cons (by omega)]
      rfl
    rw [hone'] at h1
    have hys : ys[j]? = some (ys[j]'(by omega)) := List.getElem?_eq_getElem (by omega)
    refine ⟨_, _, ?_, hys, h1.trans hys⟩
    rw [← Go.Deep.add_add, hcell, hv]
end

open Go.Deep in
/-- A slice of structs of integers and bools: each element's cells, and each field's own reading. -/
theorem open_structs_any {H : Type} {enc : TypeId × Value → H} {P : Program} {w : World} {r : Reach} {base : Nat} {t e : TypeId} {fs : Array Field} {v : Value} {d : DataW H} {p : List MemPlace} (ht : P.underlying t = some (.slice e)) (he : P.underlying e = some (.struct fs))
    (hone : oneCellFields P fs = true) (hC : P.cellsOf e = fs.size) (h0 : 0 < fs.size) (hv : Value.okWide P w r base t v) (h : DataW.Trod enc P w 0 (fun _ => true) true t v d p) :
    ∃ (A : Option Addr) (len cap : Nat), v = .slice A len cap ∧ cap ≤ maxLen ∧ len ≤ cap ∧
      ∀ i, i < len → ∃ b off, A = some ⟨b, off, none⟩ ∧ b < w.heap.size ∧ ∀ j, j < len → ∀ (q : Nat) (f : Field), fs[q]? = some f → ∃ (u : Value) (y : DataW H × List MemPlace) (n : Nat), w.cell? ⟨b, off + (j * fs.size + q), none⟩ = some u ∧ DataW.trod enc P w 0 (fun _ => true) true n f.type [u] = some y := by
  obtain ⟨a0, len, cap, rfl⟩ := okWide_slice ht hv
  obtain ⟨fuel, hf⟩ := h
  rcases open_slice_fields ht he hone hC hf with ⟨hcs, _⟩ | ⟨a, len', cap', m, D, Pl, hcs, _, hl, hm, hmm, _, hi⟩
  · simp [Value.cells] at hcs
    obtain ⟨rfl, rfl, rfl⟩ := hcs
    exact ⟨none, 0, 0, rfl, by simp [maxLen], Nat.le_refl _, fun i hi => absurd hi (by omega)⟩
  · simp [Value.cells] at hcs
    obtain ⟨rfl, rfl, rfl⟩ := hcs
    have hml : len ≤ m := by rw [hmm]; split <;> omega
    refine ⟨some a, len, cap, rfl, hm, hl, fun i hil => ?_⟩
    obtain ⟨ys, n, _, _, _, hg⟩ := hi 0 (by omega)
    obtain ⟨f0, hf0⟩ : ∃ f, fs[0]? = some f := ⟨fs[0], Array.getElem?_eq_getElem h0⟩
    obtain ⟨u, _, hc0, _⟩ := hg 0 f0 hf0
    obtain ⟨b, off, spot⟩ := a
    have hspot : spot = none := by
      have := World.cell?_spot hc0
      simpa [Addr.add] using this
    subst hspot
    rw [Go.WideShapes.add_plain] at hc0
    refine ⟨b, off, rfl, block_lt_of_cell hc0, fun j hj q f hq => ?_⟩
    obtain ⟨ys, n, _, _, _, hg⟩ := hi j (by omega)
    obtain ⟨u, y, hc, _, ht'⟩ := hg q f hq
    rw [Go.WideShapes.add_plain] at hc
    exact ⟨u, y, n, hc, ht'⟩

/-- The number in a cell of a slice. -/
def cellInt (w : World) (A : Option Addr) (m : Nat) : Int := match A with
  | some a => match w.cell? ⟨a.block, a.off + m, none⟩ with
    | some (.int _ n) => n
    | _ => 0
  | none => 0
theorem structs_int {H : Type} {enc : TypeId × Value → H} {P : Program} {w : World} {A : Option Addr} {len : Nat} {fs : Array Field}
    (h : ∀ i, i < len → ∃ b off, A = some ⟨b, off, none⟩ ∧ b < w.heap.size ∧ ∀ j, j < len → ∀ (q : Nat) (f : Field), fs[q]? = some f → ∃ (u : Value) (y : DataW H × List MemPlace) (n : Nat), w.cell? ⟨b, off + (j * fs.size + q), none⟩ = some u ∧ DataW.trod enc P w 0 (fun _ => true) true n f.type [u] = some y)
    {q : Nat} {f : Field} {k : IntKind} (hq : fs[q]? = some f) (hk : P.underlying f.type = some (.int k)) {b off : Nat} (hA : A = some ⟨b, off, none⟩) :
    ∀ j, j < len → w.cell? ⟨b, off + (j * fs.size + q), none⟩ = some (.int k (cellInt w A (j * fs.size + q))) ∧ (Lit.int k (cellInt w A (j * fs.size + q))).wf = true := by
  intro j hj
  obtain ⟨b', off', e, _, hc⟩ := h j hj
  rw [hA] at e
  injection e with e
  injection e with e1 e2 _
  subst e1 e2
  obtain ⟨u, y, n, hcell, ht⟩ := hc j hj q f hq
  obtain ⟨a, e0, _, wa⟩ := DataW.trod_int hk ht
  simp at e0
  subst e0
  have e1 : cellInt w A (j * fs.size + q) = a := by
    unfold cellInt
    rw [hA]
    simp only [hcell]
  rw [e1]
  exact ⟨hcell, wa⟩

theorem own : ownKnob Try.prog.godebug = none := by kernel_rfl
theorem laidOut : laidOutB Try.prog = true := by kernel_rfl
end Go.Proofs.Ytmbahohmiecfiaa.kit
