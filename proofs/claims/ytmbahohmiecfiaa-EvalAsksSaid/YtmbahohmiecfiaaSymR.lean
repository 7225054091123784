/-
  The walk by computing is sound: rows that grow, that are copied into, that are written. Conditions stand in each theorem.
-/
import Derived.Test.YtmbahohmiecfiaaSym7
import Derived.LoopN
import Derived.Laws.OwnMore
namespace Go.Proofs.Ytmbahohmiecfiaa.sym
open Go.RowKit
set_option linter.unusedVariables false
set_option linter.unusedSimpArgs false

/-- What an operation comes to, in memory with more blocks. -/
abbrev Goes (w0 : World) (bs : List Nat) (s : ASt) (K : AV × Eff → Prop) : Value → World → Prop := fun u w' => ∃ x e more, K (x, e) ∧ x.Is (bs ++ more) u ∧ Rep (lt (e.app s.h).length) w0 (bs ++ more) (e.app s.h) w'
theorem like_of_lt {bs b : List Nat} {n : Nat} (h : bs.length = n) : Like (lt n) bs (bs ++ b) := by rw [← h]; exact like_more bs b

/-! ### What a row holds, as values -/
def rowVals (ks : List IntKind) (xs : List Int) : List Value := (List.range xs.length).map fun j => .int (ks.getD (j % ks.length) .u8) (xs.getD j 0)
theorem rowVals_length (ks : List IntKind) (xs : List Int) : (rowVals ks xs).length = xs.length := by simp [rowVals]
theorem rowVals_get {ks : List IntKind} {xs : List Int} {j : Nat} (h : j < xs.length) : (rowVals ks xs)[j]? = some (.int (ks.getD (j % ks.length) .u8) (xs.getD j 0)) := by simp [rowVals, h]
theorem rowVals_none {ks : List IntKind} {xs : List Int} {j : Nat} (h : xs.length ≤ j) : (rowVals ks xs)[j]? = none := List.getElem?_eq_none (by rw [rowVals_length]; exact h)
theorem rowVals_some {ks : List IntKind} {xs : List Int} {j : Nat} {v : Value} (h : (rowVals ks xs)[j]? = some v) : j < xs.length ∧ v = .int (ks.getD (j % ks.length) .u8) (xs.getD j 0) := by
  rcases Nat.lt_or_ge j xs.length with h1 | h1
  · rw [rowVals_get h1] at h; cases h; exact ⟨h1, rfl⟩
  · rw [rowVals_none h1] at h; cases h
theorem rowVals_one (ks : List IntKind) (xs : List Int) : ∀ u ∈ rowVals ks xs, u.oneCell' = true := by
  intro u hu
  obtain ⟨j, _, rfl⟩ := List.mem_map.1 hu
  rfl
theorem rowVals_append {ks : List IntKind} {xs ys : List Int} {n : Nat} (h : xs.length = n * ks.length) : rowVals ks (xs ++ ys) = rowVals ks xs ++ rowVals ks ys := by
  apply List.ext_getElem?
  intro j
  rw [List.getElem?_append, rowVals_length]
  by_cases h1 : j < xs.length
  · rw [if_pos h1, rowVals_get (by simp; omega), rowVals_get h1]
    simp only [List.getD_eq_getElem?_getD, List.getElem?_append_left h1]
  · rw [if_neg h1]
    by_cases h2 : j - xs.length < ys.length
    · rw [rowVals_get (by simp; omega), rowVals_get h2]
      have e1 : (j - xs.length) % ks.length = j % ks.length := by
        rw [h]
        have : j = (j - n * ks.length) + n * ks.length := by omega
        conv => rhs; rw [this]
        rw [Nat.add_mul_mod_self_right]
      rw [e1]
      simp only [List.getD_eq_getElem?_getD, List.getElem?_append_right (Nat.le_of_not_lt h1)]
    · rw [rowVals_none (by simp; omega), rowVals_none (by omega)]
theorem RowIs.take {cur : Array Value} {ks : List IntKind} {xs : List Int} {cap n : Nat} (h : RowIs cur ks xs cap) (hn : n ≤ xs.length) : cur.toList.take n = rowVals ks (xs.take n) := by
  apply List.ext_getElem?
  intro j
  rw [List.getElem?_take]
  by_cases h1 : j < n
  · rw [if_pos h1, rowVals_get (by simp; omega)]
    have := h.cell j (by omega)
    simp only [List.getD_eq_getElem?_getD, List.getElem?_take, if_pos h1]
    simpa using this
  · rw [if_neg h1, rowVals_none (by simp; omega)]
theorem RowIs.of_take {cur : Array Value} {ks : List IntKind} {xs : List Int} {cap : Nat} (hs : cur.size = cap * ks.length) (ht : cur.toList.take xs.length = rowVals ks xs) : RowIs cur ks xs cap := by
  have hl : xs.length ≤ cur.size := by
    have := congrArg List.length ht
    have h2 : cur.toList.length = cur.size := Array.length_toList
    rw [rowVals_length, List.length_take, h2] at this
    omega
  refine ⟨hs, hl, fun j hj => ?_⟩
  have := congrArg (fun l => l[j]?) ht
  simp only [List.getElem?_take, if_pos hj, rowVals_get hj] at this
  simpa using this

/-! ### What a slice holds -/
theorem intsAs_ok {bs : List Nat} {ks : List IntKind} : ∀ (l : List Sc) (j : Nat) (ys : List Int), intsAs ks j l = some ys → ys.length = l.length ∧ ∀ i, i < l.length → (l[i]?).map (Sc.γ bs) = some (.int (ks.getD ((j + i) % ks.length) .u8) (ys.getD i 0))
  | [], j, ys, h => by cases h; exact ⟨rfl, fun i hi => by simp at hi⟩
  | c :: l, j, ys, h => by
    cases c <;> simp only [intsAs, reduceCtorEq] at h
    rename_i lit k n
    split at h
    · rename_i hk
      split at h
      · rename_i zs hz
        cases h
        obtain ⟨h1, h2⟩ := intsAs_ok (bs := bs) l (j + 1) zs hz
        refine ⟨by simp [h1], fun i hi => ?_⟩
        cases i with
        | zero => subst hk; simp [Sc.γ]
        | succ i =>
          have := h2 i (by simpa using hi)
          simpa [Nat.add_assoc, Nat.add_comm 1 i] using this
      · cases h
    · cases h
/-- What is told of a source, in a world. -/
structure SrcIs (w : World) (ks : List IntKind) (m : Nat) (ys : List Int) (u : Value) : Prop where
  len : ys.length = m * ks.length
  it : ∃ a c, (u = .slice a m c ∧ m ≤ c) ∧ ((a = none ∧ m = 0) ∨ ∃ ad, a = some ad ∧ ∀ j v, (rowVals ks ys)[j]? = some v → w.cell? (ad.add j) = some v)
theorem srcT_ok {w0 w : World} {bs : List Nat} {h : List Blk} {ks : List IntKind} {x : AV} {pre : Prop} {m : Nat} {ys : List Int} {u : Value} (hk : 0 < ks.length) (e : srcT w0 h ks x = some (pre, m, ys)) (hp : pre) (hu : x.Is bs u) (hw : x.wf (lt h.length) = true) (R : Rep (lt h.length) w0 bs h w) : SrcIs w ks m ys u := by
  unfold srcT at e
  split at e
  · rename_i a ks' xs len cap
    split at e
    · rename_i hks
      subst hks
      cases e
      have hu' : u = .slice a m cap := hu
      obtain ⟨hp, hcap⟩ := hp
      refine ⟨hp.1, a, cap, ⟨hu', hcap⟩, ?_⟩
      cases a with
      | none =>
        left
        refine ⟨rfl, ?_⟩
        rcases Nat.eq_zero_or_pos m with h0 | h0
        · exact h0
        · obtain ⟨b, off, e, _⟩ := hp.2 0 (by rw [hp.1]; exact Nat.mul_pos h0 hk)
          cases e
      | some ad =>
        right
        refine ⟨ad, rfl, fun j v hj => ?_⟩
        obtain ⟨h1, rfl⟩ := rowVals_some hj
        obtain ⟨b, off, e, hlt, hc⟩ := hp.2 j h1
        cases e
        rw [add_plain, R.below.cell (p := ⟨b, off + j, none⟩) hlt, hc]
    · cases e
  · rename_i r nl sz off len cap
    split at e
    · rename_i nl' ks' xs cap' t hro
      obtain ⟨k, hr, hc, rfl⟩ := rowOf_some hro
      split at e
      · rename_i hks
        obtain ⟨rfl, rfl⟩ := hks
        cases e
        obtain ⟨rfl, hle, hcap⟩ := hp
        have hm : lt h.length r = true := lt_iff.2 (List.getElem?_eq_some_iff.1 hr).1
        have hcl := cutL_length (xs := xs) (l := off) (h := off + m) (sz := ks'.length) hle
        rw [Nat.add_sub_cancel_left] at hcl
        have hu' : u = Sc.γ bs (.gs r nl ks'.length off m cap) := hu
        refine ⟨hcl, _, cap, ⟨hu', hcap⟩, ?_⟩
        cases nl with
        | true =>
          left
          have := (R.blk r k hm hr).nil _ _ _ hc
          subst this
          refine ⟨rfl, ?_⟩
          have h0 : (off + m) * ks'.length = 0 := by simpa using hle
          rcases Nat.mul_eq_zero.1 h0 with h0 | h0 <;> omega
        | false =>
          right
          refine ⟨_, rfl, fun j v hj => ?_⟩
          obtain ⟨h1, rfl⟩ := rowVals_some hj
          obtain ⟨g1, g2⟩ := cutL_get h1
          have := R.rowCell hm hr hc g1
          rw [add_plain, this, g2]
          congr 2
          rw [Nat.add_comm (off * ks'.length) j, Nat.add_mul_mod_self_right]
      · cases e
    · cases e
  · rename_i r off len cap
    split at e
    · rename_i k hr
      split at e
      · rename_i ys' hpl hys
        split at e
        · rename_i hl
          cases e
          have hm : lt h.length r = true := lt_iff.2 (List.getElem?_eq_some_iff.1 hr).1
          have hu' : u = .slice (some ⟨bs.getD r 0, off, none⟩) m cap := hu
          refine ⟨hl.1, _, cap, ⟨hu', hl.2⟩, .inr ⟨_, rfl, fun j v hj => ?_⟩⟩
          obtain ⟨h1, rfl⟩ := rowVals_some hj
          obtain ⟨g1, g2⟩ := intsAs_ok (bs := bs) _ _ _ hys
          have g3 := g2 j (by rw [← g1]; exact h1)
          rw [Nat.zero_add] at g3
          cases hq : ((k.cells.drop off).take (m * ks.length))[j]? with
          | none => rw [hq] at g3; cases g3
          | some c =>
            rw [hq] at g3
            simp only [Option.map_some, Option.some.injEq] at g3
            obtain ⟨_, hq'⟩ := take_drop_get hq
            rw [add_plain, R.cell hm hr hpl hq', g3]
        · cases e
      · cases e
    · cases e
  · cases e
    have hu' : u = .slice none 0 0 := hu
    exact ⟨by simp, none, 0, ⟨hu', Nat.le_refl _⟩, .inl ⟨rfl, rfl⟩⟩
  · rename_i r b off xs cap
    split at e
    · rename_i k hr
      split at e
      · rename_i L O hc
        split at e
        · rename_i hks
          subst hks
          cases e
          obtain ⟨hcap, C, t, fr, hL, hC⟩ := hp
          have hu' : u = .slice (some ⟨b, off, none⟩) _ cap := hu
          have hm : lt h.length r = true := lt_iff.2 (List.getElem?_eq_some_iff.1 hr).1
          have hkp : keepIn k = some (L, O) := by unfold keepIn; rw [hc]
          have hb := ((R.blk r k hm hr).keep L O hkp).1 b _ hL
          refine ⟨by simp, _, cap, ⟨hu', hcap⟩, .inr ⟨_, rfl, fun j v hj => ?_⟩⟩
          obtain ⟨h1, rfl⟩ := rowVals_some hj
          rw [add_plain]
          simp only [World.cell?, hb, hC j h1, List.length_singleton, Nat.mod_one]
          rfl
        · cases e
      · cases e
    · cases e
  · cases e

/-! ### Growing -/
theorem kill_get (h : List Blk) (r i : Nat) : (kill h r)[i]? = if i = r then (h[i]?).map (fun k => ⟨[.dead], k.t⟩) else h[i]? := updBlk_get _ h r i
theorem kill_length (h : List Blk) (r : Nat) : (kill h r).length = h.length := updBlk_length _ h r
theorem dead_not_live {t : TypeId} : ¬ live ⟨[.dead], t⟩ := by
  rintro (h | ⟨ks, xs, cap, h⟩ | ⟨fs, cap, h⟩)
  · cases h
  · cases h
  · cases h
theorem dead_is {n0 : Nat} {w : World} {bs : List Nat} {b : Nat} {t : TypeId} : BlkIs n0 w bs b ⟨[.dead], t⟩ := ⟨fun h => (by cases h), fun ks xs cap h => (by cases h), fun ks xs cap h => (by cases h), fun nl fs cap h => (by cases h), fun L O h => (by cases h)⟩
/-- Behind a slice that has grown, in place or elsewhere. -/
theorem Rep.grow {w0 w w' : World} {bs : List Nat} {h h1 : List Blk} (R : Rep (lt h.length) w0 bs h w) {row : Option Nat} (hg : w.grownBy w' row)
    (hl : h1.length = h.length) (h1d : ∀ (i : Nat) (k : Blk), h1[i]? = some k → live k → h[i]? = some k ∧ row ≠ some (bs.getD i 0)) (h1c : ∀ (i : Nat) (k : Blk), h1[i]? = some k → (h[i]? = some k) ∨ ∃ t, k = ⟨[.dead], t⟩)
    (hrow : ∀ g, row = some g → w0.heap.size ≤ g ∧ ∃ (i : Nat) (x : Blk), h[i]? = some x ∧ live x ∧ bs.getD i 0 = g) (k : Blk) (b : Nat) (hk : ∀ c ∈ k.cells, c.wf (lt h.length) = true) (hb : live k → w.heap.size ≤ b ∨ row = some b) (hbk : BlkIs w0.heap.size w' (bs ++ [b]) b k) (hfar : ∀ f ∈ frsIn k, FrIs w f ∧ ∀ b' off, f.a = some ⟨b', off, none⟩ → f.xs ≠ [] → row ≠ some b' ∧ (∀ (i : Nat) (x : Blk), h1[i]? = some x → live x → bs.getD i 0 ≠ b') ∧ ∀ (i : Nat) (x : Blk) (L : Nat → Option Obj) (O : Nat → Bool), h1[i]? = some x → keepIn x = some (L, O) → O b' = false) (hkk : ∀ L O, keepIn k = some (L, O) → (∀ (i : Nat) (x : Blk), h1[i]? = some x → live x → L (bs.getD i 0) = none) ∧ ∀ b, O b = false) :
    Rep (lt (h1 ++ [k]).length) w0 (bs ++ [b]) (h1 ++ [k]) w' := by
  have hlk : Like (lt h.length) bs (bs ++ [b]) := by rw [← R.len]; exact like_more bs [b]
  have hself : (bs ++ [b]).getD h.length 0 = b := by
    rw [List.getD_eq_getElem?_getD, ← R.len, List.getElem?_append_right (Nat.le_refl _)]; simp
  have hlen : (h1 ++ [k]).length = h.length + 1 := by simp [hl]
  have hbel : Below w0.heap.size w0 w' := ⟨hg.os.trans R.below.os, hg.tape.trans R.below.tape, hg.output.trans R.below.output, Nat.le_trans R.below.size hg.size, fun i hi => by
    rw [hg.block i (Nat.lt_of_lt_of_le hi R.below.size) (fun e => by have := (hrow i e.symm).1; omega)]
    exact R.below.block i hi⟩
  have split' : ∀ {i : Nat} {x : Blk}, (h1 ++ [k])[i]? = some x → (i < h.length ∧ h1[i]? = some x) ∨ (i = h.length ∧ x = k) := by
    intro i x hx
    rcases Nat.lt_or_ge i h1.length with g | g
    · rw [List.getElem?_append_left g] at hx; exact .inl ⟨by omega, hx⟩
    · rw [List.getElem?_append_right g] at hx
      have : i - h1.length = 0 := by
        rcases Nat.eq_zero_or_pos (i - h1.length) with e | e
        · exact e
        · rw [List.getElem?_eq_none (by simp; omega)] at hx; cases hx
      rw [this] at hx
      simp at hx
      exact .inr ⟨by omega, hx.symm⟩
  have bound : ∀ {i : Nat} {x : Blk}, i < h.length → h1[i]? = some x → live x → bs.getD i 0 < w.heap.size := by
    intro i x hi hx hl'
    obtain ⟨e, _⟩ := h1d i x hx hl'
    obtain ⟨_, cur, hc⟩ := (R.blk i x (lt_iff.2 hi) e).here hl'
    exact (Array.getElem?_eq_some_iff.1 hc).1
  refine ⟨hbel, by rw [hlen]; simp [R.len], fun r hr => lt_iff.1 hr, fun r k' hr hk' => ?_, fun r r' k1 k2 hr hr' g1 g2 l1 l2 e => ?_, fun r k' hr hk' c hc => ?_, fun r k' hr hk' f hf b' off ha hne => ⟨fun r1 k1 hr1 g1 l1 => ?_, fun r1 k1 L O hr1 g1 hkp => ?_⟩, fun r k' L O hr hk' hkp r1 k1 hr1 g1 l1 => ?_⟩
  · rcases split' hk' with ⟨hi, hx⟩ | ⟨rfl, rfl⟩
    · rw [hlk r (lt_iff.2 hi)]
      rcases h1c r k' hx with e | ⟨t, rfl⟩
      · refine (R.blk r k' (lt_iff.2 hi) e).to (fun _ => rfl) (fun hl' => ?_) (fun f hf => ?_) (fun L O hkp b' o ho => ?_) (map_γ_like hlk (R.wf r k' (lt_iff.2 hi) e))
        · exact hg.block _ (bound hi hx hl') (fun e => (h1d r k' hx hl').2 e.symm)
        · refine ((R.blk r k' (lt_iff.2 hi) e).ice hf).same hg.size fun b' off ha hne hlt => hg.block _ hlt fun e' => ?_
          obtain ⟨_, i, x, hix, hlx, he⟩ := hrow b' e'.symm
          exact (R.far r k' (lt_iff.2 hi) e f hf b' off ha hne).1 i x (lt_iff.2 (List.getElem?_eq_some_iff.1 hix).1) hix hlx he
        · refine hg.block _ (Array.getElem?_eq_some_iff.1 (((R.blk r k' (lt_iff.2 hi) e).keep L O hkp).1 b' o ho)).1 fun e' => ?_
          obtain ⟨_, i, x, hix, hlx, he⟩ := hrow b' e'.symm
          have := R.kept r k' L O (lt_iff.2 hi) e hkp i x (lt_iff.2 (List.getElem?_eq_some_iff.1 hix).1) hix hlx
          rw [he, ho] at this
          cases this
      · exact dead_is
    · rw [hself]; exact hbk
  · rcases split' g1 with ⟨hi, hx⟩ | ⟨rfl, rfl⟩ <;> rcases split' g2 with ⟨hi', hx'⟩ | ⟨rfl, rfl⟩
    · rw [hlk r (lt_iff.2 hi), hlk r' (lt_iff.2 hi')] at e
      exact R.apart _ _ _ _ (lt_iff.2 hi) (lt_iff.2 hi') (h1d r k1 hx l1).1 (h1d r' k2 hx' l2).1 l1 l2 e
    · rw [hlk r (lt_iff.2 hi), hself] at e
      have := bound hi hx l1
      rcases hb l2 with h3 | h3
      · omega
      · exact absurd (by rw [h3, e]) (h1d r k1 hx l1).2
    · rw [hlk r' (lt_iff.2 hi'), hself] at e
      have := bound hi' hx' l2
      rcases hb l1 with h3 | h3
      · omega
      · exact absurd (by rw [h3, ← e]) (h1d r' k2 hx' l2).2
    · rfl
  · rw [hlen]
    rcases split' hk' with ⟨hi, hx⟩ | ⟨rfl, rfl⟩
    · rcases h1c r k' hx with e | ⟨t, rfl⟩
      · exact Sc.wf_mono (fun r h => by rw [lt_iff] at *; omega) (R.wf r k' (lt_iff.2 hi) e c hc)
      · simp at hc; subst hc; rfl
    · exact Sc.wf_mono (fun r h => by rw [lt_iff] at *; omega) (hk c hc)
  · rcases split' hk' with ⟨hi, hx⟩ | ⟨rfl, rfl⟩
    · rcases h1c r k' hx with e | ⟨t, rfl⟩
      · rcases split' g1 with ⟨hi1, hx1⟩ | ⟨rfl, rfl⟩
        · rw [hlk r1 (lt_iff.2 hi1)]
          exact (R.far r k' (lt_iff.2 hi) e f hf b' off ha hne).1 r1 k1 (lt_iff.2 hi1) (h1d r1 k1 hx1 l1).1 l1
        · rw [hself]
          rintro rfl
          rcases hb l1 with h3 | h3
          · have := ((R.blk r k' (lt_iff.2 hi) e).ice hf b off ha 0 (by cases hx : f.xs with | nil => exact absurd hx hne | cons => simp)).1
            omega
          · obtain ⟨_, i, x, hix, hlx, he⟩ := hrow b h3
            exact (R.far r k' (lt_iff.2 hi) e f hf b off ha hne).1 i x (lt_iff.2 (List.getElem?_eq_some_iff.1 hix).1) hix hlx he
      · cases hf
    · obtain ⟨f1, f2⟩ := hfar f hf
      obtain ⟨f3, f4⟩ := f2 b' off ha hne
      rcases split' g1 with ⟨hi1, hx1⟩ | ⟨rfl, rfl⟩
      · rw [hlk r1 (lt_iff.2 hi1)]
        exact f4.1 r1 k1 hx1 l1
      · rw [hself]
        rintro rfl
        rcases hb l1 with h3 | h3
        · have := (f1 b off ha 0 (by cases hx : f.xs with | nil => exact absurd hx hne | cons => simp)).1
          omega
        · exact f3 h3
  · rcases split' g1 with ⟨hi1, hx1⟩ | ⟨rfl, rfl⟩
    · have e1 : h[r1]? = some k1 := by
        rcases h1c r1 k1 hx1 with e1 | ⟨t, rfl⟩
        · exact e1
        · cases hkp
      rcases split' hk' with ⟨hi, hx⟩ | ⟨rfl, rfl⟩
      · rcases h1c r k' hx with e | ⟨t, rfl⟩
        · exact (R.far r k' (lt_iff.2 hi) e f hf b' off ha hne).2 r1 k1 L O (lt_iff.2 hi1) e1 hkp
        · cases hf
      · exact ((hfar f hf).2 b' off ha hne).2.2 r1 k1 L O hx1 hkp
    · exact (hkk L O hkp).2 b'
  · rcases split' hk' with ⟨hi, hx⟩ | ⟨rfl, rfl⟩
    · rcases h1c r k' hx with e | ⟨t, rfl⟩
      · rcases split' g1 with ⟨hi1, hx1⟩ | ⟨rfl, rfl⟩
        · rw [hlk r1 (lt_iff.2 hi1)]
          exact R.kept r k' L O (lt_iff.2 hi) e hkp r1 k1 (lt_iff.2 hi1) (h1d r1 k1 hx1 l1).1 l1
        · rw [hself]
          cases ho : L b with
          | none => rfl
          | some o =>
            rcases hb l1 with h3 | h3
            · have := (Array.getElem?_eq_some_iff.1 (((R.blk r k' (lt_iff.2 hi) e).keep L O hkp).1 b o ho)).1
              omega
            · obtain ⟨_, i, x, hix, hlx, he⟩ := hrow b h3
              have := R.kept r k' L O (lt_iff.2 hi) e hkp i x (lt_iff.2 (List.getElem?_eq_some_iff.1 hix).1) hix hlx
              rw [he, ho] at this
              cases this
      · cases hkp
    · rcases split' g1 with ⟨hi1, hx1⟩ | ⟨rfl, rfl⟩
      · rw [hlk r1 (lt_iff.2 hi1)]
        exact (hkk L O hkp).1 r1 k1 hx1 l1
      · rw [live_keep l1] at hkp; cases hkp

/-! ### The builtins -/
section
variable {P : Program} {w : World}
theorem run_append_nothing {t ty e : TypeId} {i : TypeInfo} (ht : P.underlying t = some (.slice e)) (hi : P.info? e = some i) (a : Option Addr) (n cap c : Nat) (hn : n ≤ cap) :
    (Builtin.append_ #[t, t] ty #[.slice a n cap, .slice none 0 c]).run P w = .ok (.slice a n cap) w := by
  cases a <;> simp [Builtin.append_, run_underlying ht, sizeOf, typeInfo, hi, Builtin.lenOf, Builtin.firstCells, hn, storeCells]
/-- What an append comes to: the row it stands in. -/
structure Into (w w' : World) (e : TypeId) (ks : List IntKind) (row : Option Nat) (n cap g : Nat) (zs : List Value) (cur : Array Value) : Prop where
  it : w'.heap[g]? = some (.cells cur e (0, 0))
  from_ : row = some g ∨ g = w.heap.size
  le : n ≤ cap
  max : cap ≤ maxLen
  size : cur.size = cap * ks.length
  take : cur.toList.take (n * ks.length) = zs
theorem run_append_into {t ty e : TypeId} {i : TypeInfo} {z : Value} {ks : List IntKind} (ht : P.underlying t = some (.slice e)) (hi : P.info? e = some i) (hz : i.zero = some z) (hsz : i.size = ks.length) (hzs : z.cells.size = ks.length) (hk : 0 < ks.length) (hby : 0 < i.bytes)
    {u : Value} {n : Nat} {xs : List Value} (hx : xs.length = n * ks.length)
    (hu : (u = .slice none 0 0 ∧ n = 0) ∨ ∃ g cap cur, u = .slice (some ⟨g, 0, none⟩) n cap ∧ Into w w e ks (some g) n cap g xs cur)
    (a : Addr) (m c : Nat) (news : List Value) (hl : news.length = m * ks.length) (hnews : ∀ j v, news[j]? = some v → w.cell? (a.add j) = some v) (h1 : ∀ v ∈ news, v.oneCell' = true)
    (hb : (n + m) * i.bytes ≤ 140737488355328) :
    ∃ v' w', (Builtin.append_ #[t, t] ty #[u, .slice (some a) m c]).run P w = .ok v' w' ∧ w.grownBy w' u.ownBlock ∧
      ((u = .slice none 0 0 ∧ m = 0 ∧ v' = .slice none 0 0) ∨ (¬ (u = .slice none 0 0 ∧ m = 0) ∧ ∃ g cap cur, v' = .slice (some ⟨g, 0, none⟩) (n + m) cap ∧ Into w w' e ks u.ownBlock (n + m) cap g (xs ++ news) cur)) := by
  have hnm : n + m ≤ 140737488355328 := Nat.le_trans (Nat.le_mul_of_pos_right _ hby) hb
  have hmax : n + m ≤ maxLen := by simp only [maxLen]; omega
  have hlen : (xs ++ news).length = (n + m) * ks.length := by rw [List.length_append, hx, hl, Nat.add_mul]
  have new : ∀ (old : Nat) (row : Option Nat), old < n + m → w.grownBy (w.drew.alloc (.cells (xs.toArray ++ news.toArray ++ Builtin.zeroCells z.cells (grownCap w (n + m) old e - (n + m))) e)) row ∧
      Into w (w.drew.alloc (.cells (xs.toArray ++ news.toArray ++ Builtin.zeroCells z.cells (grownCap w (n + m) old e - (n + m))) e)) e ks row (n + m) (grownCap w (n + m) old e) w.heap.size (xs ++ news) (xs.toArray ++ news.toArray ++ Builtin.zeroCells z.cells (grownCap w (n + m) old e - (n + m))) := by
    intro old row ho
    have hge := grownCap_ge w (n + m) old e
    refine ⟨⟨rfl, rfl, rfl, by simp, fun k hk' _ => heap_alloc_old w.drew _ hk'⟩, heap_alloc_new w.drew _, .inr rfl, hge, grownCap_le_maxLen w (n + m) old e hmax, ?_, ?_⟩
    · simp only [Array.size_append, List.size_toArray, size_zeroCells, hzs, hx, hl, ← Nat.add_mul]
      congr 1
      omega
    · simp only [Array.toList_append, List.append_assoc]
      rw [← List.append_assoc, ← hlen]
      exact List.take_left
  rcases hu with ⟨rfl, rfl⟩ | ⟨g, cap, cur, rfl, I⟩
  · have hxs : xs = [] := List.eq_nil_of_length_eq_zero (by simpa using hx)
    subst hxs
    by_cases hm : m = 0
    · subst hm
      have hn : news = [] := List.eq_nil_of_length_eq_zero (by simpa using hl)
      subst hn
      refine ⟨.slice none 0 0, w, ?_, ⟨rfl, rfl, rfl, Nat.le_refl _, fun _ _ _ => rfl⟩, .inl ⟨rfl, rfl, rfl⟩⟩
      simp [Builtin.append_, run_underlying ht, sizeOf, typeInfo, hi, Builtin.lenOf, Builtin.firstCells, loadCells, loadCellsFrom]
    · have hr := run_append_nil (P := P) w t ty e i z ht hi hz a m c news (by rw [hsz]; exact hl) hnews (by omega) (by omega) (by simp only [Nat.zero_add] at hb; omega)
      have := new 0 none (by omega)
      simp only [Nat.zero_add, List.nil_append, Array.empty_append] at this ⊢
      exact ⟨_, _, hr, this.1, .inr ⟨fun h => hm h.2, _, _, _, rfl, this.2⟩⟩
  · by_cases hroom : n + m ≤ cap
    · have hfit : n * i.size + news.length ≤ cur.size := by rw [hl, I.size, hsz, ← Nat.add_mul]; exact Nat.mul_le_mul_right _ hroom
      have hr := run_append_room (P := P) w t ty e i ht hi g n cap cur I.it a m c news (by rw [hsz]; exact hl) hnews h1 hroom hfit
      refine ⟨_, _, hr, ⟨rfl, rfl, rfl, by rw [setRow_size]; exact Nat.le_refl _, fun k _ hk => setRow_other w g k _ (fun e => hk (by simp [Value.ownBlock, e]))⟩, .inr ⟨by simp, _, _, _, rfl, setRow_heap w g cur _ e _ I.it, .inl rfl, hroom, I.max, ?_, ?_⟩⟩
      · have e1 := I.size
        have h2 : cur.toList.length = cur.size := Array.length_toList
        simp only [List.size_toArray, List.length_append, List.length_take, List.length_drop, h2]
        omega
      · simp only [hsz, I.take]
        rw [← hlen]
        exact List.take_left
    · have holds : ∀ j v, xs[j]? = some v → w.cell? ((⟨g, 0, none⟩ : Addr).add j) = some v := by
        intro j v hj
        rw [add_plain, Nat.zero_add, cell_of_row w g j cur e (0, 0) I.it]
        rw [← I.take, List.getElem?_take] at hj
        split at hj
        · simpa using hj
        · cases hj
      have hr := run_append_grow (P := P) w t ty e i z ht hi hz ⟨g, 0, none⟩ n cap xs (by rw [hsz]; exact hx) holds a m c news (by rw [hsz]; exact hl) hnews (by omega) (by omega) (growslice_fits (by omega) hb)
      have := new cap (Value.ownBlock (.slice (some ⟨g, 0, none⟩) n cap)) (by omega)
      exact ⟨_, _, hr, this.1, .inr ⟨by simp, _, _, _, rfl, this.2⟩⟩
end
/-- What is told of what is appended to. -/
structure DstIs (w0 w : World) (bs : List Nat) (h : List Blk) (e : TypeId) (ks : List IntKind) (d : Dst) (u : Value) : Prop where
  len : d.xs.length = d.len * ks.length
  it : (u = .slice none 0 0 ∧ d.len = 0 ∧ d.nl = true) ∨ (d.nl = false ∧ ∃ g cap cur, u = .slice (some ⟨g, 0, none⟩) d.len cap ∧ Into w w e ks (some g) d.len cap g (rowVals ks d.xs) cur)
  hl : d.h.length = h.length
  h1d : ∀ (i : Nat) (k : Blk), d.h[i]? = some k → live k → h[i]? = some k ∧ u.ownBlock ≠ some (bs.getD i 0)
  h1c : ∀ (i : Nat) (k : Blk), d.h[i]? = some k → (h[i]? = some k) ∨ ∃ t, k = ⟨[.dead], t⟩
  row : ∀ g, u.ownBlock = some g → w0.heap.size ≤ g ∧ ∃ (i : Nat) (x : Blk), h[i]? = some x ∧ live x ∧ bs.getD i 0 = g
theorem killed {w0 w : World} {bs : List Nat} {h : List Blk} (R : Rep (lt h.length) w0 bs h w) {r : Nat} {k0 : Blk} (hr : h[r]? = some k0) {row : Option Nat} (hrow : row = none ∨ (row = some (bs.getD r 0) ∧ live k0)) :
    (kill h r).length = h.length ∧ (∀ (i : Nat) (k : Blk), (kill h r)[i]? = some k → live k → h[i]? = some k ∧ row ≠ some (bs.getD i 0)) ∧ (∀ (i : Nat) (k : Blk), (kill h r)[i]? = some k → (h[i]? = some k) ∨ ∃ t, k = ⟨[.dead], t⟩) := by
  refine ⟨kill_length h r, fun i k hk hl => ?_, fun i k hk => ?_⟩
  · rw [kill_get] at hk
    split at hk
    · rename_i e
      subst e
      rw [hr] at hk
      cases hk
      exact (dead_not_live hl).elim
    · rename_i e
      refine ⟨hk, fun h2 => ?_⟩
      rcases hrow with h3 | ⟨h3, h4⟩
      · rw [h3] at h2; cases h2
      · rw [h3] at h2
        exact e (R.apart _ _ _ _ (lt_iff.2 (List.getElem?_eq_some_iff.1 hk).1) (lt_iff.2 (List.getElem?_eq_some_iff.1 hr).1) hk hr hl h4 (Option.some.inj h2).symm)
  · rw [kill_get] at hk
    split at hk
    · rename_i e
      subst e
      rw [hr] at hk
      cases hk
      exact .inr ⟨_, rfl⟩
    · exact .inl hk
theorem dstT_ok {w0 w : World} {bs : List Nat} {h : List Blk} {e : TypeId} {ks : List IntKind} {x : AV} {d : Dst} {u : Value} (hk : 0 < ks.length) (hd : dstT h e ks x = some d) (hp : d.ask) (hu : x.Is bs u) (R : Rep (lt h.length) w0 bs h w) : DstIs w0 w bs h e ks d u := by
  unfold dstT at hd
  split at hd
  · cases hd
    have hu' : u = .slice none 0 0 := hu
    subst hu'
    exact ⟨by simp, .inl ⟨rfl, rfl, rfl⟩, rfl, fun i k h1 h2 => ⟨h1, by simp [Value.ownBlock]⟩, fun i k h1 => .inl h1, fun g hg => by simp [Value.ownBlock] at hg⟩
  · rename_i r off len cap
    split at hd
    · rename_i k hr
      split at hd
      · rename_i ys hpl hys
        split at hd
        · rename_i hh
          obtain ⟨rfl, hcl, hlc, hc6, hyl, rfl⟩ := hh
          cases hd
          have hu' : u = .slice (some ⟨bs.getD r 0, 0, none⟩) len cap := hu
          subst hu'
          have hm : lt h.length r = true := lt_iff.2 (List.getElem?_eq_some_iff.1 hr).1
          obtain ⟨b1, b2⟩ := (R.blk r k hm hr).plain hpl
          obtain ⟨a1, a2, a3⟩ := killed (row := some (bs.getD r 0)) R hr (.inr ⟨rfl, .inl hpl⟩)
          obtain ⟨g1, g2⟩ := intsAs_ok (bs := bs) _ _ _ hys
          refine ⟨hyl, .inr ⟨rfl, bs.getD r 0, cap, _, rfl, b2, .inl rfl, hlc, by simp only [maxLen]; omega, by simp [hcl], ?_⟩, a1, a2, a3, fun g hg => ?_⟩
          · apply List.ext_getElem?
            intro j
            rw [List.getElem?_take]
            show _ = (rowVals ks ys)[j]?
            by_cases h1 : j < len * ks.length
            · rw [if_pos h1, rowVals_get (by omega)]
              have := g2 j (by rw [← g1]; omega)
              rw [List.getElem?_take, if_pos h1, Nat.zero_add] at this
              simpa using this
            · rw [if_neg h1, rowVals_none (by omega)]
          · simp [Value.ownBlock] at hg
            rw [← hg]
            exact ⟨by simpa using b1, r, k, hr, .inl hpl, by simp⟩
        · cases hd
      · cases hd
    · cases hd
  · rename_i r nl sz off len cap
    split at hd
    · rename_i nl' ks' xs cap' t hro
      obtain ⟨k, hr, hc, rfl⟩ := rowOf_some hro
      split at hd
      · rename_i hh
        obtain ⟨rfl, rfl, rfl⟩ := hh
        cases hd
        obtain ⟨rfl, rfl, rfl, hle, hlc, hcm, hn0⟩ := hp
        have hm : lt h.length r = true := lt_iff.2 (List.getElem?_eq_some_iff.1 hr).1
        have hu' : u = Sc.γ bs (.gs r nl ks'.length 0 len cap) := hu
        have hlx : (xs.take (len * ks'.length)).length = len * ks'.length := by rw [List.length_take]; omega
        cases nl with
        | true =>
          have h0 := hn0 rfl
          have hl0 : len = 0 := by omega
          subst h0 hl0
          have hu' : u = .slice none 0 0 := hu'
          subst hu'
          obtain ⟨a1, a2, a3⟩ := killed (row := none) R hr (.inl rfl)
          exact ⟨hlx, .inl ⟨rfl, rfl, rfl⟩, a1, a2, a3, fun g hg => by simp [Value.ownBlock] at hg⟩
        | false =>
          have hu' : u = .slice (some ⟨bs.getD r 0, 0, none⟩) len cap := by simpa [Sc.γ] using hu'
          subst hu'
          obtain ⟨b1, cur, b2, I⟩ := (R.blk r k hm hr).row _ _ _ hc
          obtain ⟨a1, a2, a3⟩ := killed (row := some (bs.getD r 0)) R hr (.inr ⟨rfl, .inr (.inl ⟨_, _, _, hc⟩)⟩)
          refine ⟨hlx, .inr ⟨rfl, bs.getD r 0, cap, cur, rfl, b2, .inl rfl, hlc, hcm, I.size, I.take hle⟩, a1, a2, a3, fun g hg => ?_⟩
          simp [Value.ownBlock] at hg
          rw [← hg]
          exact ⟨by simpa using b1, r, k, hr, .inr (.inl ⟨_, _, _, hc⟩), by simp⟩
      · cases hd
    · cases hd
  · cases hd
theorem kindsL_ok : ∀ {l : List Sc} {ks : List IntKind}, kindsL l = some ks → l.length = ks.length
  | [], ks, h => by cases h; rfl
  | c :: l, ks, h => by
    cases c <;> simp only [kindsL, reduceCtorEq] at h
    split at h
    · rename_i ks' hk
      cases h
      simp [kindsL_ok hk]
    · cases h
theorem kindsOf_ok {P : Program} {e : TypeId} {ks : List IntKind} {i : TypeInfo} (h : kindsOf P e = some ks) (hi : P.info? e = some i) : ∃ z, i.zero = some z ∧ z.cells.size = ks.length := by
  unfold kindsOf at h
  split at h
  · rename_i z hz
    split at h
    · rename_i hf
      unfold zeroV at hz
      rw [hi] at hz
      simp only at hz
      cases h0 : i.zero with
      | none => simp [h0] at hz
      | some v =>
        simp [h0] at hz
        refine ⟨v, rfl, ?_⟩
        have h1 := V.list_γ (bs := []) (v := z) hf
        rw [← hz] at h1
        rw [vOf_γ] at h1
        rw [h1, ← kindsL_ok h, ← hz]
        simp
    · cases h
  · cases h
theorem exec_append {P : Program} {ev : Operand → Value} {d : Option Tmp} {x y : Operand} {ats : Array TypeId} {ty : TypeId} {pos : String} {af : Array Edge} {g : Option (Nat × Bool)} {w w' : World} {v : Value} (h : (Builtin.append_ ats ty #[ev x, ev y]).run P w = .ok v w') :
    (execOp ev ⟨d, .call ⟨.builtin .append, #[x, y], ats⟩, ty, pos, af, g⟩).run P w = .ok (.value v) w' := by
  simp only [execOp, resolve, Sem.run_bind, Sem.run_pure, Result.andThen_ok, invoke, builtin, List.map_toArray, List.map_cons, List.map_nil, h]
theorem exec_copy {P : Program} {ev : Operand → Value} {d : Option Tmp} {x y : Operand} {ats : Array TypeId} {ty : TypeId} {pos : String} {af : Array Edge} {g : Option (Nat × Bool)} {w w' : World} {v : Value} (h : (Builtin.copy_ ats ty #[ev x, ev y]).run P w = .ok v w') :
    (execOp ev ⟨d, .call ⟨.builtin .copy, #[x, y], ats⟩, ty, pos, af, g⟩).run P w = .ok (.value v) w' := by
  simp only [execOp, resolve, Sem.run_bind, Sem.run_pure, Result.andThen_ok, invoke, builtin, List.map_toArray, List.map_cons, List.map_nil, h]
theorem zeros_list (z : Array Value) : ∀ n : Nat, (Builtin.zeroCells z n).toList = (List.replicate n z.toList).flatten
  | 0 => by simp [Builtin.zeroCells]
  | n + 1 => by
    rw [List.replicate_succ, List.flatten_cons, ← zeros_list z n]
    simp only [Builtin.zeroCells, Array.toList_map, Array.toList_range]
    rw [Nat.succ_mul, Nat.add_comm, List.range_add, List.map_append]
    congr 1
    · apply List.ext_getElem?
      intro j
      by_cases h : j < z.size
      · simp [h, Nat.mod_eq_of_lt h]
      · simp [h]
    · rw [List.map_map]
      apply List.map_congr_left
      intro j _
      simp
/-! ### Frames that are appended -/
theorem Rep.liveIn {m : Nat → Bool} {w0 w : World} {bs : List Nat} {h : List Blk} (R : Rep m w0 bs h w) {i : Nat} {x : Blk} (hm : m i = true) (hx : h[i]? = some x) (hl : live x) : w0.heap.size ≤ bs.getD i 0 := ((R.blk i x hm hx).here hl).1
theorem lt_of_get {h : List Blk} {i : Nat} {x : Blk} (hx : h[i]? = some x) : lt h.length i = true := lt_iff.2 (List.getElem?_eq_some_iff.1 hx).1
structure SrcF (w : World) (bs : List Nat) (h : List Blk) (fs : List Fr) (h1 : List Blk) (u : Value) : Prop where
  it : ∃ a c, u = .slice a fs.length c ∧ ((a = none ∧ fs = []) ∨ ∃ ad, a = some ad ∧ ∀ j v, (frVals fs)[j]? = some v → w.cell? (ad.add j) = some v)
  hl : h1.length = h.length
  h1d : ∀ (i : Nat) (k : Blk), h1[i]? = some k → live k → h[i]? = some k
  h1c : ∀ (i : Nat) (k : Blk), h1[i]? = some k → (h[i]? = some k) ∨ ∃ t, k = ⟨[.dead], t⟩
  far : ∀ f ∈ fs, FrIs w f ∧ ∀ b off, f.a = some ⟨b, off, none⟩ → f.xs ≠ [] → (∀ (i : Nat) (x : Blk), h1[i]? = some x → live x → bs.getD i 0 ≠ b) ∧ ∀ (i : Nat) (x : Blk) (L : Nat → Option Obj) (O : Nat → Bool), h[i]? = some x → keepIn x = some (L, O) → O b = false
theorem one_ok {w0 w : World} {bs : List Nat} {h h1 : List Blk} {r off c : Nat} {k : Blk} {l : Bool} {s : Int} {sl : Sc} {f : Fr} (R : Rep (lt h.length) w0 bs h w) (hr : h[r]? = some k) (hpl : k.plain = true) (e0 : k.cells[off]? = some (.int l .u8 s)) (e1 : k.cells[off + 1]? = some sl) (hs : f.s = s) (hsl : sl.γ bs = .slice f.a f.xs.length f.cap)
    (hl : h1.length = h.length) (h1d : ∀ (i : Nat) (k : Blk), h1[i]? = some k → live k → h[i]? = some k) (h1c : ∀ (i : Nat) (k : Blk), h1[i]? = some k → (h[i]? = some k) ∨ ∃ t, k = ⟨[.dead], t⟩) (hfr : FrIs w f) (hfar : ∀ b off, f.a = some ⟨b, off, none⟩ → f.xs ≠ [] → (∀ (i : Nat) (x : Blk), h1[i]? = some x → live x → bs.getD i 0 ≠ b) ∧ ∀ (i : Nat) (x : Blk) (L : Nat → Option Obj) (O : Nat → Bool), h[i]? = some x → keepIn x = some (L, O) → O b = false) :
    SrcF w bs h [f] h1 (.slice (some ⟨bs.getD r 0, off, none⟩) 1 c) := by
  refine ⟨⟨_, c, rfl, .inr ⟨_, rfl, fun j v hj => ?_⟩⟩, hl, h1d, h1c, fun g hg => ?_⟩
  · rw [add_plain]
    match j, hj with
    | 0, hj =>
      have g := R.cell (lt_of_get hr) hr hpl e0
      simp only [frVals, List.getElem?_cons_zero, Option.some.injEq] at hj
      rw [Nat.add_zero, g, ← hj, hs]
      rfl
    | 1, hj =>
      have g := R.cell (lt_of_get hr) hr hpl e1
      simp only [frVals, List.getElem?_cons_succ, List.getElem?_cons_zero, Option.some.injEq] at hj
      rw [g, ← hj, hsl]
    | j + 2, hj => simp [frVals] at hj
  · simp only [List.mem_singleton] at hg
    subst hg
    exact ⟨hfr, hfar⟩
def nlAddr (nl : Bool) (b o : Nat) : Option Addr := match nl with
  | true => none
  | false => some ⟨b, o * 1, none⟩
theorem nlAddr_some {nl : Bool} {b o b' off : Nat} (h : nlAddr nl b o = some ⟨b', off, none⟩) : nl = false ∧ b' = b ∧ off = o := by
  cases nl with
  | true => cases h
  | false => cases h; exact ⟨rfl, rfl, by omega⟩
theorem frSrcT_ok {w0 w : World} {bs : List Nat} {h : List Blk} {e : TypeId} {y : AV} {K : List Fr × List Blk → Prop} (hK : (frSrcT w0 h e y).holds K) {u : Value} (hu : y.Is bs u) (R : Rep (lt h.length) w0 bs h w) : ∃ fs h1, K (fs, h1) ∧ SrcF w bs h fs h1 u := by
  unfold frSrcT at hK
  split at hK
  · have hu' : u = .slice none 0 0 := hu
    exact ⟨_, _, hK, ⟨none, 0, hu', .inl ⟨rfl, rfl⟩⟩, rfl, fun i k h1 _ => h1, fun i k h1 => .inl h1, fun f hf => by cases hf⟩
  · rename_i r nl sz off len cap
    split at hK
    · rename_i nl' fs cap' t' hro
      obtain ⟨k, hr, hc, rfl⟩ := frOf_some hro
      split at hK
      · rename_i hh
        simp only [Bool.and_eq_true] at hh
        have hs := Nat.eq_of_beq_eq_true hh.1
        subst hs
        obtain ⟨⟨rfl, hle⟩, hK⟩ := hK
        have hm := lt_of_get hr
        have hfl : ((fs.drop off).take len).length = len := by rw [List.length_take, List.length_drop]; omega
        have hu' : u = Sc.γ bs (.gs r nl 2 off len cap) := hu
        refine ⟨_, _, hK, ?_, rfl, fun i k h1 _ => h1, fun i k h1 => .inl h1, fun f hf => ?_⟩
        · rw [hfl]
          cases nl with
          | true =>
            have := ((R.blk r k hm hr).frs _ _ _ hc).1 rfl
            subst this
            exact ⟨none, cap, hu', .inl ⟨rfl, by simp⟩⟩
          | false =>
            refine ⟨_, cap, hu', .inr ⟨_, rfl, fun j v hj => ?_⟩⟩
            rw [add_plain]
            refine R.frCell hm hr hc ?_
            rw [← frVals_take, ← frVals_drop, List.getElem?_take] at hj
            split at hj
            · rwa [List.getElem?_drop] at hj
            · cases hj
        · have hf' : f ∈ frsIn k := by rw [frsIn_of hc]; exact List.mem_of_mem_drop (List.mem_of_mem_take hf)
          exact ⟨(R.blk r k hm hr).ice hf', fun b off ha hne => ⟨fun i x hx hl => (R.far r k hm hr f hf' b off ha hne).1 i x (lt_of_get hx) hx hl, fun i x L O hx hk => (R.far r k hm hr f hf' b off ha hne).2 i x L O (lt_of_get hx) hx hk⟩⟩
      · exact hK.elim
    · exact hK.elim
  · rename_i r off c
    have hu' : u = .slice (some ⟨bs.getD r 0, off, none⟩) 1 c := hu
    split at hK
    · rename_i k hr
      split at hK
      · rename_i l s hpl e0 e1
        let f : Fr := ⟨s, none, [], 0, fun h => absurd rfl h⟩
        refine ⟨[f], h, hK ⟨f, rfl, rfl⟩, ?_⟩
        rw [hu']
        exact one_ok R hr hpl e0 e1 rfl rfl rfl (fun i k h1 _ => h1) (fun i k h1 => .inl h1) (fun b off ha => by cases ha) (fun b off ha => by cases ha)
      · rename_i l s a xs len cap hpl e0 e1
        obtain ⟨hX, hK⟩ := hK
        have hlen : xs.length = len := by simpa using hX.1
        let f : Fr := ⟨s, a, xs, cap, fun h => xr_some hX.2 (by cases xs with | nil => exact absurd rfl h | cons => simp)⟩
        refine ⟨[f], h, hK ⟨f, rfl, rfl⟩, ?_⟩
        rw [hu']
        refine one_ok R hr hpl e0 e1 rfl ?_ rfl (fun i k h1 _ => h1) (fun i k h1 => .inl h1) (fun b off ha j hj => ?_) (fun b off ha hne => ⟨fun i x hx hl e => ?_, fun i x L O hx hk => ?_⟩)
        · show Value.slice a len cap = .slice a xs.length cap
          rw [hlen]
        · obtain ⟨b', off', e, hlt, hcell⟩ := hX.2 j hj
          have ha : a = some ⟨b, off, none⟩ := ha
          rw [ha] at e
          cases e
          refine ⟨Nat.lt_of_lt_of_le hlt R.below.size, ?_⟩
          rw [R.below.cell (p := ⟨b, off + j, none⟩) hlt, hcell]
          simp [Nat.mod_one, f]
        · obtain ⟨b', off', e', hlt, _⟩ := hX.2 0 (by cases hx : xs with | nil => exact absurd hx hne | cons => simp)
          have ha : a = some ⟨b, off, none⟩ := ha
          rw [ha] at e'
          cases e'
          have := R.liveIn (lt_of_get hx) hx hl
          omega
        · obtain ⟨b', off', e', hlt, _⟩ := hX.2 0 (by cases hx : xs with | nil => exact absurd hx hne | cons => simp)
          have ha : a = some ⟨b, off, none⟩ := ha
          rw [ha] at e'
          cases e'
          cases ho : O b with
          | false => rfl
          | true =>
            have := (((R.blk i x (lt_of_get hx) hx).keep L O hk).2 b ho).1
            omega
      · rename_i l s r2 g hpl e0 e1
        split at hK
        · rename_i nl fs cap t hro
          obtain ⟨k2, hr2, hc2, rfl⟩ := frOf_some hro
          obtain ⟨hg, hK⟩ := hK
          have hg' : g ∈ frsIn k2 := by rw [frsIn_of hc2]; exact hg
          let f : Fr := ⟨s, g.a, g.xs, g.cap, g.ok⟩
          refine ⟨[f], h, hK ⟨f, rfl, rfl⟩, ?_⟩
          rw [hu']
          exact one_ok R hr hpl e0 e1 rfl rfl rfl (fun i k h1 _ => h1) (fun i k h1 => .inl h1) (fun b off ha j hj => (R.blk r2 k2 (lt_of_get hr2) hr2).ice hg' b off ha j hj) (fun b off ha hne => ⟨fun i x hx hl => (R.far r2 k2 (lt_of_get hr2) hr2 g hg' b off ha hne).1 i x (lt_of_get hx) hx hl, fun i x L O hx hk => (R.far r2 k2 (lt_of_get hr2) hr2 g hg' b off ha hne).2 i x L O (lt_of_get hx) hx hk⟩)
        · exact hK.elim
      · rename_i l s r2 nl o len cap hpl e0 e1
        split at hK
        · rename_i nl' xs cap' t hro
          obtain ⟨k2, hr2, hc2, rfl⟩ := rowOf_some hro
          obtain ⟨⟨rfl, hle⟩, hK⟩ := hK
          have hm2 := lt_of_get hr2
          have hcl := cutL_length (xs := xs) (l := o) (h := o + len) (sz := 1) (by omega)
          rw [Nat.add_sub_cancel_left, Nat.mul_one] at hcl
          have hnil : nl = true → xs = [] := fun e => by subst e; exact (R.blk r2 k2 hm2 hr2).nil _ _ _ hc2
          have hae : ∀ b off, nlAddr nl (bs.getD r2 0) o = some ⟨b, off, none⟩ → nl = false ∧ b = bs.getD r2 0 ∧ off = o := fun b off ha => nlAddr_some ha
          let f : Fr := ⟨s, nlAddr nl (bs.getD r2 0) o, cutL xs o (o + len) 1, cap, fun h => by
            cases nl with
            | true =>
              exfalso
              apply h
              rw [hnil rfl]
              simp [cutL]
            | false => exact ⟨_, _, rfl⟩⟩
          have hkl := kill_length h r2
          have h1d : ∀ (i : Nat) (k : Blk), (kill h r2)[i]? = some k → live k → h[i]? = some k ∧ i ≠ r2 := fun i k hk hl => by
            rw [kill_get] at hk
            split at hk
            · rename_i e
              subst e
              rw [hr2] at hk
              cases hk
              exact (dead_not_live hl).elim
            · rename_i e
              exact ⟨hk, e⟩
          refine ⟨[f], kill h r2, hK ⟨f, rfl, rfl⟩, ?_⟩
          rw [hu']
          refine one_ok R hr hpl e0 e1 rfl ?_ hkl (fun i k hk hl => (h1d i k hk hl).1) (fun i k hk => ?_) (fun b off ha j hj => ?_) (fun b off ha hne => ⟨fun i x hx hl e => ?_, fun i x L O hx hk => ?_⟩)
          · show Sc.γ bs (.gs r2 nl 1 o len cap) = .slice (nlAddr nl (bs.getD r2 0) o) (cutL xs o (o + len) 1).length cap
            rw [hcl]
            cases nl <;> rfl
          · rw [kill_get] at hk
            split at hk
            · rename_i e
              subst e
              rw [hr2] at hk
              cases hk
              exact .inr ⟨_, rfl⟩
            · exact .inl hk
          · obtain ⟨rfl, rfl, rfl⟩ := hae b off ha
            obtain ⟨g1, g2⟩ := cutL_get (show j < (cutL xs off (off + len) 1).length from hj)
            have hcell := R.rowCell hm2 hr2 hc2 g1
            obtain ⟨_, cur, hb, _⟩ := (R.blk r2 k2 hm2 hr2).row _ _ _ hc2
            refine ⟨(Array.getElem?_eq_some_iff.1 hb).1, ?_⟩
            show w.cell? ⟨bs.getD r2 0, off + j, none⟩ = some (.int .u8 ((cutL xs off (off + len) 1).getD j 0))
            rw [g2]
            rw [Nat.mul_one] at hcell ⊢
            rw [hcell]
            simp [Nat.mod_one]
          · obtain ⟨rfl, rfl, rfl⟩ := hae b off ha
            obtain ⟨hx', hne'⟩ := h1d i x hx hl
            exact hne' (R.apart i r2 x k2 (lt_of_get hx') hm2 hx' hr2 hl (.inr (.inl ⟨_, _, _, hc2⟩)) e)
          · obtain ⟨rfl, rfl, rfl⟩ := hae b off ha
            cases ho : O (bs.getD r2 0) with
            | false => rfl
            | true =>
              obtain ⟨_, o, ho'⟩ := ((R.blk i x (lt_of_get hx) hx).keep L O hk).2 _ ho
              have := R.kept i x L O (lt_of_get hx) hx hk r2 k2 hm2 hr2 (.inr (.inl ⟨_, _, _, hc2⟩))
              rw [this] at ho'
              cases ho'
        · exact hK.elim
      · exact hK.elim
    · exact hK.elim
  · exact hK.elim
/-- What is told of what frames are appended to. -/
structure DstFIs (w0 w : World) (bs : List Nat) (h h1 : List Blk) (e : TypeId) (d : DstF) (u : Value) : Prop where
  len : d.fs.length = d.len
  it : (u = .slice none 0 0 ∧ d.len = 0 ∧ d.nl = true) ∨ (d.nl = false ∧ ∃ g cap cur, u = .slice (some ⟨g, 0, none⟩) d.len cap ∧ Into w w e [.u8, .u8] (some g) d.len cap g (frVals d.fs) cur)
  hl : d.h.length = h1.length
  h1d : ∀ (i : Nat) (k : Blk), d.h[i]? = some k → live k → h1[i]? = some k ∧ u.ownBlock ≠ some (bs.getD i 0)
  h1c : ∀ (i : Nat) (k : Blk), d.h[i]? = some k → (h1[i]? = some k) ∨ ∃ t, k = ⟨[.dead], t⟩
  row : ∀ g, u.ownBlock = some g → w0.heap.size ≤ g ∧ ∃ (i : Nat) (x : Blk), h1[i]? = some x ∧ h[i]? = some x ∧ live x ∧ bs.getD i 0 = g
  far : ∀ f ∈ d.fs, FrIs w f ∧ ∀ b off, f.a = some ⟨b, off, none⟩ → f.xs ≠ [] → u.ownBlock ≠ some b ∧ (∀ (i : Nat) (x : Blk), h1[i]? = some x → live x → bs.getD i 0 ≠ b) ∧ ∀ (i : Nat) (x : Blk) (L : Nat → Option Obj) (O : Nat → Bool), h[i]? = some x → keepIn x = some (L, O) → O b = false
theorem frDst_ok {w0 w : World} {bs : List Nat} {h h1 : List Blk} {e : TypeId} {x : AV} {d : DstF} {u : Value} (hd : frDst h1 e x = some d) (hp : d.ask) (hu : x.Is bs u) (R : Rep (lt h.length) w0 bs h w)
    (g1 : ∀ (i : Nat) (k : Blk), h1[i]? = some k → live k → h[i]? = some k) (g2 : ∀ (i : Nat) (k : Blk), h1[i]? = some k → (h[i]? = some k) ∨ ∃ t, k = ⟨[.dead], t⟩) : DstFIs w0 w bs h h1 e d u := by
  unfold frDst at hd
  split at hd
  · cases hd
    have hu' : u = .slice none 0 0 := hu
    subst hu'
    exact ⟨by simp, .inl ⟨rfl, rfl, rfl⟩, rfl, fun i k h1 h2 => ⟨h1, by simp [Value.ownBlock]⟩, fun i k h1 => .inl h1, fun g hg => by simp [Value.ownBlock] at hg, fun f hf => by cases hf⟩
  · rename_i r nl sz off len cap
    split at hd
    · rename_i nl' fs cap' t hro
      obtain ⟨k, hr1, hc, rfl⟩ := frOf_some hro
      have hr : h[r]? = some k := by
        rcases g2 r k hr1 with h3 | ⟨t, rfl⟩
        · exact h3
        · cases hc
      split at hd
      · rename_i hh
        simp only [Bool.and_eq_true] at hh
        have hs := Nat.eq_of_beq_eq_true hh.1
        have ht := Nat.eq_of_beq_eq_true hh.2
        subst hs ht
        cases hd
        obtain ⟨rfl, rfl, rfl, hle, hlc, hcm, hn0⟩ := hp
        have hm := lt_of_get hr
        have hB := R.blk r k hm hr
        obtain ⟨f1, f2, f3⟩ := hB.frs _ _ _ hc
        have hlx : (fs.take len).length = len := by rw [List.length_take]; omega
        have hu' : u = Sc.γ bs (.gs r nl 2 0 len cap) := hu
        have hkl := kill_length h1 r
        have k1 : ∀ (i : Nat) (x : Blk), (kill h1 r)[i]? = some x → live x → h1[i]? = some x ∧ i ≠ r := fun i x hk hl => by
          rw [kill_get] at hk
          split at hk
          · rename_i e
            subst e
            rw [hr1] at hk
            cases hk
            exact (dead_not_live hl).elim
          · rename_i e
            exact ⟨hk, e⟩
        have k2 : ∀ (i : Nat) (x : Blk), (kill h1 r)[i]? = some x → (h1[i]? = some x) ∨ ∃ t, x = ⟨[.dead], t⟩ := fun i x hk => by
          rw [kill_get] at hk
          split at hk
          · rename_i e
            subst e
            rw [hr1] at hk
            cases hk
            exact .inr ⟨_, rfl⟩
          · exact .inl hk
        have hin : ∀ f ∈ fs.take len, f ∈ frsIn k := fun f hf => by rw [frsIn_of hc]; exact List.mem_of_mem_take hf
        have hfar : ∀ f ∈ fs.take len, ∀ b off, f.a = some ⟨b, off, none⟩ → f.xs ≠ [] → ∀ (i : Nat) (x : Blk), h[i]? = some x → live x → bs.getD i 0 ≠ b := fun f hf b off ha hne i x hx hl => (R.far r k hm hr f (hin f hf) b off ha hne).1 i x (lt_of_get hx) hx hl
        cases nl with
        | true =>
          have h0 := hn0 rfl
          have hl0 : len = 0 := by omega
          subst h0 hl0
          have hu' : u = .slice none 0 0 := hu'
          subst hu'
          exact ⟨hlx, .inl ⟨rfl, rfl, rfl⟩, hkl, fun i x hk hl => ⟨(k1 i x hk hl).1, by simp [Value.ownBlock]⟩, k2, fun g hg => by simp [Value.ownBlock] at hg, fun f hf => by simp at hf⟩
        | false =>
          have hu' : u = .slice (some ⟨bs.getD r 0, 0, none⟩) len cap := by simpa [Sc.γ] using hu'
          subst hu'
          obtain ⟨b1, cur, b2, I⟩ := f2 rfl
          have hlv : live k := .inr (.inr ⟨_, _, hc⟩)
          have hob : Value.ownBlock (.slice (some ⟨bs.getD r 0, 0, none⟩) len cap) = some (bs.getD r 0) := rfl
          refine ⟨hlx, .inr ⟨rfl, bs.getD r 0, cap, cur, rfl, b2, .inl rfl, hlc, hcm, I.size, ?_⟩, hkl, fun i x hk hl => ?_, k2, fun g hg => ?_, fun f hf => ⟨hB.ice (hin f hf), fun b off ha hne => ⟨?_, fun i x hx hl => hfar f hf b off ha hne i x (g1 i x hx hl) hl, fun i x L O hx hk => (R.far r k hm hr f (hin f hf) b off ha hne).2 i x L O (lt_of_get hx) hx hk⟩⟩⟩
          · show cur.toList.take (len * 2) = frVals (fs.take len)
            rw [← frVals_take, ← I.take, List.take_take]
            congr 1
            omega
          · obtain ⟨q1, q2⟩ := k1 i x hk hl
            refine ⟨q1, fun e => ?_⟩
            rw [hob] at e
            have hxi := g1 i x q1 hl
            exact q2 (R.apart i r x k (lt_of_get hxi) hm hxi hr hl hlv (Option.some.inj e).symm)
          · rw [hob] at hg
            cases hg
            exact ⟨b1, r, k, hr1, hr, hlv, rfl⟩
          · rw [hob]
            intro e
            exact hfar f hf b off ha hne r k hr hlv (Option.some.inj e)
      · cases hd
    · cases hd
  · cases hd
theorem isFr_ok {i : TypeInfo} (h : isFr i = true) : i.size = 2 ∧ ∃ z, i.zero = some z ∧ z.cells.size = 2 := by
  unfold isFr at h
  simp only [Bool.and_eq_true] at h
  refine ⟨Nat.eq_of_beq_eq_true h.1, ?_⟩
  have h2 := h.2
  split at h2
  · rename_i z hz
    split at h2
    · rename_i hzl
      refine ⟨_, hz, ?_⟩
      have := congrArg List.length hzl
      show z.size = 2
      simpa using this
    · cases h2
  · cases h2
theorem appendF_ok {P : Program} {w0 : World} {bs : List Nat} {s : ASt} {t e : TypeId} {i : TypeInfo} {x y : AV} {K : AV × Eff → Prop} (hu : P.underlying t = some (.slice e)) (hi : P.info? e = some i) (hf : isFr i = true) (hby : 0 < i.bytes) (hK : (appendF w0 s e i x y).holds K) {ev : Operand → Value} {w : World} {xo yo : Operand} (hx : x.Is bs (ev xo)) (hy : y.Is bs (ev yo))
    (R : Rep (lt s.h.length) w0 bs s.h w) (d : Option Tmp) (ty : TypeId) (pos : String) (af : Array Edge) (g : Option (Nat × Bool)) : Up P ⟨d, .call ⟨.builtin .append, #[xo, yo], #[t, t]⟩, ty, pos, af, g⟩ ev w (Goes w0 bs s K) := by
  obtain ⟨hsz, z, hz, hzs⟩ := isFr_ok hf
  unfold appendF at hK
  rw [T.holds_bind] at hK
  obtain ⟨ys, h1, hK, S⟩ := frSrcT_ok hK hy R
  simp only at hK
  split at hK
  case h_2 => exact hK.elim
  rename_i dd hdst
  obtain ⟨⟨hp, hb⟩, hall⟩ := hK
  have D := frDst_ok hdst hp hx R S.h1d S.h1c
  obtain ⟨a, c, hyv, hcase⟩ := S.it
  have hdd : dd.h.length = s.h.length := D.hl.trans S.hl
  have h1d : ∀ (i : Nat) (k : Blk), dd.h[i]? = some k → live k → s.h[i]? = some k ∧ (ev xo).ownBlock ≠ some (bs.getD i 0) := fun i k hk hl => by
    obtain ⟨q1, q2⟩ := D.h1d i k hk hl
    exact ⟨S.h1d i k q1 hl, q2⟩
  have h1c : ∀ (i : Nat) (k : Blk), dd.h[i]? = some k → (s.h[i]? = some k) ∨ ∃ t, k = ⟨[.dead], t⟩ := fun i k hk => by
    rcases D.h1c i k hk with q | q
    · exact S.h1c i k q
    · exact .inr q
  have hrow : ∀ g, (ev xo).ownBlock = some g → w0.heap.size ≤ g ∧ ∃ (i : Nat) (x : Blk), s.h[i]? = some x ∧ live x ∧ bs.getD i 0 = g := fun g hg => by
    obtain ⟨q1, i, x, _, q3, q4, q5⟩ := D.row g hg
    exact ⟨q1, i, x, q3, q4, q5⟩
  have hkd : ∀ (i : Nat) (x : Blk) (L : Nat → Option Obj) (O : Nat → Bool), dd.h[i]? = some x → keepIn x = some (L, O) → s.h[i]? = some x := fun i x L O hx hk => by
    rcases h1c i x hx with e | ⟨t, rfl⟩
    · exact e
    · cases hk
  have hfar : ∀ f ∈ dd.fs ++ ys, FrIs w f ∧ ∀ b off, f.a = some ⟨b, off, none⟩ → f.xs ≠ [] → (ev xo).ownBlock ≠ some b ∧ (∀ (i : Nat) (x : Blk), dd.h[i]? = some x → live x → bs.getD i 0 ≠ b) ∧ ∀ (i : Nat) (x : Blk) (L : Nat → Option Obj) (O : Nat → Bool), dd.h[i]? = some x → keepIn x = some (L, O) → O b = false := fun f hf => by
    rcases List.mem_append.1 hf with hf | hf
    · obtain ⟨q1, q2⟩ := D.far f hf
      refine ⟨q1, fun b off ha hne => ⟨(q2 b off ha hne).1, fun i x hx hl => (q2 b off ha hne).2.1 i x (D.h1d i x hx hl).1 hl, fun i x L O hx hk => (q2 b off ha hne).2.2 i x L O (hkd i x L O hx hk) hk⟩⟩
    · obtain ⟨q1, q2⟩ := S.far f hf
      refine ⟨q1, fun b off ha hne => ⟨fun e => ?_, fun i x hx hl => (q2 b off ha hne).1 i x (D.h1d i x hx hl).1 hl, fun i x L O hx hk => (q2 b off ha hne).2 i x L O (hkd i x L O hx hk) hk⟩⟩
      obtain ⟨_, i, x, p1, _, p2, p3⟩ := D.row b e
      exact (q2 b off ha hne).1 i x p1 p2 p3
  -- what is left: the value and the world
  have finish : ∀ (v' : Value) (w' : World), (Builtin.append_ #[t, t] ty #[ev xo, ev yo]).run P w = .ok v' w' → w.grownBy w' (ev xo).ownBlock →
      ((ev xo = .slice none 0 0 ∧ ys.length = 0 ∧ v' = .slice none 0 0) ∨ (¬ (ev xo = .slice none 0 0 ∧ ys.length = 0) ∧ ∃ g cap cur, v' = .slice (some ⟨g, 0, none⟩) (dd.len + ys.length) cap ∧ Into w w' e [.u8, .u8] (ev xo).ownBlock (dd.len + ys.length) cap g (frVals (dd.fs ++ ys)) cur)) →
      Up P ⟨d, .call ⟨.builtin .append, #[xo, yo], #[t, t]⟩, ty, pos, af, g⟩ ev w (Goes w0 bs s K) := by
    intro v' w' hrun hgr hc
    refine Up.value (exec_append hrun) ?_
    have hnew : ∀ f ∈ dd.fs ++ ys, FrIs w' f := fun f hf => by
      obtain ⟨q1, q2⟩ := hfar f hf
      exact q1.same hgr.size fun b off ha hne hlt => hgr.block b hlt fun e => (q2 b off ha hne).1 e.symm
    rcases hc with ⟨c1, c2, rfl⟩ | ⟨c1, b, cap, cur, rfl, I⟩
    · have ⟨d2, d3⟩ : dd.len = 0 ∧ dd.nl = true := by
        rcases D.it with ⟨_, d2, d3⟩ | ⟨_, g', cap', cur', d2, _⟩
        · exact ⟨d2, d3⟩
        · rw [c1] at d2; cases d2
      have hlen : dd.len + ys.length = 0 := by omega
      have hzs : dd.fs ++ ys = [] := List.eq_nil_of_length_eq_zero (by rw [List.length_append, D.len, hlen])
      refine ⟨_, _, [0], hall ⟨true, 0, by simp [d3, c2], fun _ => rfl, by omega, by simp [maxLen]⟩, ?_, ?_⟩
      · show _ = _
        simp only [AV.γ, V.γ, Sc.γ, hlen]
      · simp only [Eff.app, hzs]
        refine R.grow hgr hdd h1d h1c hrow _ 0 (fun c hc => by simp at hc; subst hc; rfl) (fun hl => ?_) ⟨fun h => (by cases h), fun ks' xs' cap' h => (by cases h), fun ks' xs' cap' h => (by cases h), fun nl fs cap h => (by cases h; exact ⟨fun _ => rfl, fun h => (by cases h), fun f hf => by cases hf⟩), fun L O h => (by cases h)⟩ (fun f hf => by cases hf) (fun L O h => by cases h)
        rcases hl with h | ⟨_, _, _, h⟩ | ⟨_, _, h⟩
        · cases h
        · cases h
        · cases h
    · refine ⟨_, _, [b], hall ⟨false, cap, ?_, fun h => (by cases h), I.le, I.max⟩, ?_, ?_⟩
      · simp only [Bool.false_eq_true, false_iff]
        rintro ⟨e1, e2⟩
        rcases D.it with ⟨d1, _, _⟩ | ⟨d1, _⟩
        · exact c1 ⟨d1, e2⟩
        · rw [e1] at d1; cases d1
      · have hself : (bs ++ [b]).getD s.h.length 0 = b := by
          rw [List.getD_eq_getElem?_getD, ← R.len, List.getElem?_append_right (Nat.le_refl _)]; simp
        show _ = _
        simp only [AV.γ, V.γ, Sc.γ, hself, Nat.zero_mul]
      · simp only [Eff.app]
        have hle : w0.heap.size ≤ b := by
          rcases I.from_ with h | h
          · exact (hrow b h).1
          · rw [h]; exact R.below.size
        refine R.grow hgr hdd h1d h1c hrow _ b (fun c hc => by simp at hc; subst hc; rfl) (fun _ => ?_) ⟨fun h => (by cases h), fun ks' xs' cap' h => (by cases h), fun ks' xs' cap' h => (by cases h), fun nl fs cap' h => ?_, fun L O h => (by cases h)⟩ hfar (fun L O h => by cases h)
        · rcases I.from_ with h | h
          · exact .inr h
          · exact .inl (by rw [h]; exact Nat.le_refl _)
        · cases h
          refine ⟨fun h => (by cases h), fun _ => ⟨hle, cur, I.it, I.size, ?_⟩, hnew⟩
          have : (dd.fs ++ ys).length = dd.len + ys.length := by rw [List.length_append, D.len]
          rw [this]
          exact I.take
  rcases hcase with ⟨rfl, rfl⟩ | ⟨ad, rfl, hcell⟩
  · rw [hyv] at finish
    rcases D.it with ⟨d1, d2, d3⟩ | ⟨d1, g', cap', cur', d2, I⟩
    · refine finish _ _ (by rw [d1]; exact run_append_nothing hu hi _ _ _ _ (Nat.le_refl _)) ⟨rfl, rfl, rfl, Nat.le_refl _, fun _ _ _ => rfl⟩ (.inl ⟨d1, rfl, rfl⟩)
    · refine finish _ _ (by rw [d2]; exact run_append_nothing hu hi _ _ _ _ I.le) ⟨rfl, rfl, rfl, Nat.le_refl _, fun _ _ _ => rfl⟩ (.inr ⟨by rw [d2]; simp, g', cap', cur', rfl, I.it, .inl (by rw [d2]; rfl), I.le, I.max, I.size, by simpa using I.take⟩)
  · have hu2 : (ev xo = .slice none 0 0 ∧ dd.len = 0) ∨ ∃ g cap cur, ev xo = .slice (some ⟨g, 0, none⟩) dd.len cap ∧ Into w w e [.u8, .u8] (some g) dd.len cap g (frVals dd.fs) cur := by
      rcases D.it with ⟨d1, d2, d3⟩ | ⟨d1, g', cap', cur', d2, I⟩
      · exact .inl ⟨d1, d2⟩
      · exact .inr ⟨g', cap', cur', d2, I⟩
    obtain ⟨v', w', hrun, hgr, hc⟩ := run_append_into (P := P) (ty := ty) hu hi hz (ks := [.u8, .u8]) hsz hzs (by simp) hby (by rw [frVals_length, D.len]; rfl) hu2 ad ys.length c (frVals ys) (by rw [frVals_length]; rfl) hcell (frVals_one ys) hb
    rw [← frVals_append] at hc
    exact finish v' w' (by rw [hyv]; exact hrun) hgr hc
theorem exec_make {P : Program} {ev : Operand → Value} {d : Option Tmp} {x y : Operand} {t ty : TypeId} {pos : String} {af : Array Edge} {g : Option (Nat × Bool)} {w w' : World} {v : Value} (h : (Instr.makeSlice t (ev x) (ev y)).run P w = .ok v w') :
    (execOp ev ⟨d, .makeSlice t x y, ty, pos, af, g⟩).run P w = .ok (.value v) w' := by
  simp only [execOp]
  exact by simp [Sem.run_bind, h]
theorem makeT_ok {P : Program} {w0 : World} {bs : List Nat} {s : ASt} {t : TypeId} {l c : AV} {K : AV × Eff → Prop} (hK : (makeT P s t l c).holds K) {ev : Operand → Value} {w : World} {lo co : Operand} (hl : l.Is bs (ev lo)) (hc : c.Is bs (ev co))
    (R : Rep (lt s.h.length) w0 bs s.h w) (d : Option Tmp) (ty : TypeId) (pos : String) (af : Array Edge) (g : Option (Nat × Bool)) : Up P ⟨d, .makeSlice t lo co, ty, pos, af, g⟩ ev w (Goes w0 bs s K) := by
  unfold makeT at hK
  split at hK
  · rename_i e l1 k1 n l2 k2 m hu
    split at hK
    · rename_i i hi
      split at hK
      · rename_i k z hz
        split at hK
        · rename_i hh
          obtain ⟨hsz, rfl⟩ := hh
          obtain ⟨⟨h0, hnm, hb1, hb2⟩, hK⟩ := hK
          have e1 : ev lo = .int k1 n := hl
          have e2 : ev co = .int k2 m := hc
          have hrun := run_make (P := P) w t e i (.int k 0) hu hi hz k1 k2 n m h0 hnm (by rw [Int.mul_comm]; omega) (by omega)
          rw [← e1, ← e2] at hrun
          refine Up.value (exec_make hrun) ⟨_, _, [w.heap.size], hK, ?_, ?_⟩
          · have hself : (bs ++ [w.heap.size]).getD s.h.length 0 = w.heap.size := by
              rw [List.getD_eq_getElem?_getD, ← R.len, List.getElem?_append_right (Nat.le_refl _)]; simp
            show _ = _
            simp only [AV.γ, V.γ, Sc.γ, hself, Nat.zero_mul]
          · simp only [Eff.app]
            have hgr : w.grownBy (w.alloc (.cells (madeCells (Value.cells (.int k 0)) (m.toNat * i.size)) e)) none := World.grownBy_alloc w _ none
            refine R.grow (row := none) hgr rfl (fun j q hq _ => ⟨hq, fun h => by cases h⟩) (fun j q hq => .inl hq) (fun q hq => by cases hq) ⟨[.row false [k] (List.replicate n.toNat 0) m.toNat], e⟩ w.heap.size (fun q hq => by simp at hq; subst hq; rfl) (fun _ => .inl (Nat.le_refl _)) ⟨fun h => (by cases h), fun ks' xs' cap' h => ?_, fun ks' xs' cap' h => (by cases h), fun nl fs cap h => (by cases h), fun L O h => (by cases h)⟩ (fun f hf => by cases hf) (fun L O h => by cases h)
            · cases h
              refine ⟨R.below.size, _, heap_alloc_new w _, ?_⟩
              have hml : (madeCells #[Value.int k 0] (m.toNat * i.size)).toList = List.replicate m.toNat (.int k 0) := by
                rw [hsz, Nat.mul_one]; exact toList_madeCells_one _ _
              show RowIs (madeCells #[Value.int k 0] (m.toNat * i.size)) _ _ _
              refine ⟨by simp [size_madeCells, hsz], by simp [size_madeCells, hsz]; omega, fun j hj => ?_⟩
              rw [List.length_replicate] at hj
              rw [← Array.getElem?_toList, hml]
              have h2 : (List.replicate n.toNat (0 : Int)).getD j 0 = 0 := by
                rw [List.getD_eq_getElem?_getD, List.getElem?_replicate]
                split <;> rfl
              rw [h2, List.getElem?_replicate, if_pos (by omega)]
              simp [Nat.mod_one]
        · exact hK.elim
      · exact hK.elim
    · exact hK.elim
  · exact hK.elim
theorem appendZ_ok {P : Program} {w0 : World} {bs : List Nat} {s : ASt} {t t' e : TypeId} {kk : IntKind} {x y : AV} {K : AV × Eff → Prop} (hu : P.underlying t = some (.slice e)) (hu' : P.underlying t' = some (.int kk)) (hK : (appendZ P s e x y).holds K) {ev : Operand → Value} {w : World} {xo yo : Operand} (hx : x.Is bs (ev xo)) (hy : y.Is bs (ev yo))
    (R : Rep (lt s.h.length) w0 bs s.h w) (d : Option Tmp) (ty : TypeId) (pos : String) (af : Array Edge) (g : Option (Nat × Bool)) : Up P ⟨d, .call ⟨.builtin .append, #[xo, yo], #[t, t']⟩, ty, pos, af, g⟩ ev w (Goes w0 bs s K) := by
  unfold appendZ at hK
  split at hK
  · rename_i l1 k1 n i hi
    split at hK
    · rename_i k z hz
      split at hK
      · rename_i hh
        obtain ⟨hsz, rfl, hby⟩ := hh
        obtain ⟨⟨h0, hb⟩, hall⟩ := hK
        obtain ⟨n, rfl⟩ := Int.eq_ofNat_of_zero_le h0
        rw [Int.toNat_natCast] at hb hall
        have e1 : ev xo = .slice none 0 0 := hx
        have e2 : ev yo = .int k1 (n : Int) := hy
        have hnb : n ≤ 140737488355328 := Nat.le_trans (Nat.le_mul_of_pos_right _ hby) hb
        have hw : IntKind.i64.wrap (n : Int) = (n : Int) := by rw [IntKind.wrap_i64]; omega
        have hn1 : ¬ ((n : Int) < 0) := by omega
        have hn2 : ¬ ((n : Int) * (i.bytes : Int) > 281474976710656) := by
          have : (n : Int) * (i.bytes : Int) = ((n * i.bytes : Nat) : Int) := (Int.natCast_mul ..).symm
          rw [this]; omega
        by_cases hn : n = 0
        · subst hn
          have hrun : (Builtin.append_ #[t, t'] ty #[ev xo, ev yo]).run P w = .ok (.slice none 0 0) w := by
            rw [e1, e2]
            simp [Builtin.append_, run_underlying hu, run_underlying hu', sizeOf, typeInfo, hi, asInt, asIntOf, show IntKind.i64.wrap 0 = 0 from rfl]
          refine Up.value (exec_append hrun) ⟨_, _, [0], hall ⟨true, 0, by simp, fun _ => rfl, by omega, by simp [maxLen]⟩, ?_, ?_⟩
          · show _ = _
            rfl
          · simp only [Eff.app]
            refine R.grow (row := none) ⟨rfl, rfl, rfl, Nat.le_refl _, fun _ _ _ => rfl⟩ rfl (fun j q hq _ => ⟨hq, fun h => by cases h⟩) (fun j q hq => .inl hq) (fun q hq => by cases hq) ⟨[.row true [k] (List.replicate 0 0) 0], e⟩ 0 (fun q hq => by simp at hq; subst hq; rfl) (fun hl => ?_) ⟨fun h => (by cases h), fun ks' xs' cap' h => (by cases h), fun ks' xs' cap' h => (by cases h; rfl), fun nl fs cap h => (by cases h), fun L O h => (by cases h)⟩ (fun f hf => by cases hf) (fun L O h => by cases h)
            rcases hl with h | ⟨_, _, _, h⟩ | ⟨_, _, h⟩
            · cases h
            · cases h
            · cases h
        · have hlt : 0 < n := by omega
          have hfit : ¬ (281474976710656 < Builtin.nextslicecap n 0 * i.bytes) := by
            have := growslice_fits (need := n) (old := 0) (bytes := i.bytes) hlt hb
            omega
          have hrun : (Builtin.append_ #[t, t'] ty #[ev xo, ev yo]).run P w = .ok (.slice (some ⟨w.heap.size, 0, none⟩) n (grownCap w n 0 e)) (w.drew.alloc (.cells (Builtin.zeroCells #[.int k 0] n ++ Builtin.zeroCells #[.int k 0] (grownCap w n 0 e - n)) e)) := by
            rw [e1, e2]
            have h63 : ¬ (9223372036854775807 < (n : Int)) := by omega
            simp [Builtin.append_, run_underlying hu, run_underlying hu', sizeOf, typeInfo, zeroValue, hi, hz, hsz, asInt, asIntOf, hw, hn, hn1, hn2, h63, hfit, Question.forced, run_firstCells_none, newRow, grownCap, show (Value.int k 0).cells = #[Value.int k 0] from rfl]
          have hge := grownCap_ge w n 0 e
          refine Up.value (exec_append hrun) ⟨_, _, [w.heap.size], hall ⟨false, grownCap w n 0 e, by simp [hn], fun h => (by cases h), hge, grownCap_le_maxLen w n 0 e (by simp only [maxLen]; omega)⟩, ?_, ?_⟩
          · have hself : (bs ++ [w.heap.size]).getD s.h.length 0 = w.heap.size := by
              rw [List.getD_eq_getElem?_getD, ← R.len, List.getElem?_append_right (Nat.le_refl _)]; simp
            show _ = _
            simp only [AV.γ, V.γ, Sc.γ, hself, Nat.zero_mul, Int.toNat_natCast]
          · simp only [Eff.app, Int.toNat_natCast]
            have hgr : w.grownBy (w.drew.alloc (.cells (Builtin.zeroCells #[.int k 0] n ++ Builtin.zeroCells #[.int k 0] (grownCap w n 0 e - n)) e)) none := ⟨rfl, rfl, rfl, by simp, fun j hj _ => heap_alloc_old w.drew _ hj⟩
            refine R.grow (row := none) hgr rfl (fun j q hq _ => ⟨hq, fun h => by cases h⟩) (fun j q hq => .inl hq) (fun q hq => by cases hq) ⟨[.row false [k] (List.replicate n 0) (grownCap w n 0 e)], e⟩ w.heap.size (fun q hq => by simp at hq; subst hq; rfl) (fun _ => .inl (Nat.le_refl _)) ⟨fun h => (by cases h), fun ks' xs' cap' h => ?_, fun ks' xs' cap' h => (by cases h), fun nl fs cap h => (by cases h), fun L O h => (by cases h)⟩ (fun f hf => by cases hf) (fun L O h => by cases h)
            cases h
            refine ⟨R.below.size, _, heap_alloc_new w.drew _, by simp [size_zeroCells]; omega, by simp [size_zeroCells], fun j hj => ?_⟩
            rw [List.length_replicate] at hj
            have h2 : (List.replicate n (0 : Int)).getD j 0 = 0 := by
              rw [List.getD_eq_getElem?_getD, List.getElem?_replicate]
              split <;> rfl
            rw [h2, ← Array.getElem?_toList, Array.toList_append, zeros_list, zeros_list]
            rw [List.getElem?_append_left (by simp; omega)]
            have : (List.replicate n (#[Value.int k 0] : Array Value).toList).flatten = List.replicate n (.int k 0) := by
              induction n with
              | zero => rfl
              | succ n ih => simp [List.replicate_succ]
            rw [this, List.getElem?_replicate, if_pos hj]
            simp [Nat.mod_one]
      · exact hK.elim
    · exact hK.elim
  · exact hK.elim
theorem appendT_ok {P : Program} {w0 : World} {bs : List Nat} {s : ASt} {ats : Array TypeId} {x y : AV} {K : AV × Eff → Prop} (hK : (appendT P w0 s ats x y).holds K) {ev : Operand → Value} {w : World} {xo yo : Operand} (hx : x.Is bs (ev xo)) (hy : y.Is bs (ev yo)) (hyw : y.wf (lt s.h.length) = true)
    (R : Rep (lt s.h.length) w0 bs s.h w) (d : Option Tmp) (ty : TypeId) (pos : String) (af : Array Edge) (g : Option (Nat × Bool)) : Up P ⟨d, .call ⟨.builtin .append, #[xo, yo], ats⟩, ty, pos, af, g⟩ ev w (Goes w0 bs s K) := by
  unfold appendT at hK
  split at hK
  · rename_i t t' hats
    obtain ⟨ats⟩ := ats
    simp only at hats
    subst hats
    split at hK
    · rename_i e e' hu hu'
      split at hK
      · rename_i ks i hks hi
        split at hK
        · rename_i hh
          obtain ⟨rfl, hsz, hk, hby⟩ := hh
          split at hK
          · rename_i pre m ys dd hsrc hdst
            obtain ⟨⟨hp1, hp2, hb⟩, hall⟩ := hK
            have S := srcT_ok hk hsrc hp1 hy hyw R
            have D := dstT_ok hk hdst hp2 hx R
            obtain ⟨z, hz, hzs⟩ := kindsOf_ok hks hi
            obtain ⟨a, c, ⟨hyv, _⟩, hcase⟩ := S.it
            -- what is left: the value and the world
            have finish : ∀ (v' : Value) (w' : World), (Builtin.append_ #[t', t'] ty #[ev xo, ev yo]).run P w = .ok v' w' → w.grownBy w' (ev xo).ownBlock →
                ((ev xo = .slice none 0 0 ∧ m = 0 ∧ v' = .slice none 0 0) ∨ (¬ (ev xo = .slice none 0 0 ∧ m = 0) ∧ ∃ g cap cur, v' = .slice (some ⟨g, 0, none⟩) (dd.len + m) cap ∧ Into w w' e ks (ev xo).ownBlock (dd.len + m) cap g (rowVals ks (dd.xs ++ ys)) cur)) →
                Up P ⟨d, .call ⟨.builtin .append, #[xo, yo], #[t', t']⟩, ty, pos, af, g⟩ ev w (Goes w0 bs s K) := by
              intro v' w' hrun hgr hc
              refine Up.value (exec_append hrun) ?_
              rcases hc with ⟨c1, c2, rfl⟩ | ⟨c1, b, cap, cur, rfl, I⟩
              · have ⟨d2, d3⟩ : dd.len = 0 ∧ dd.nl = true := by
                  rcases D.it with ⟨_, d2, d3⟩ | ⟨_, g', cap', cur', d2, _⟩
                  · exact ⟨d2, d3⟩
                  · rw [c1] at d2; cases d2
                have hlen : dd.len + m = 0 := by omega
                have hzs : dd.xs ++ ys = [] := List.eq_nil_of_length_eq_zero (by rw [List.length_append, D.len, S.len, ← Nat.add_mul, hlen, Nat.zero_mul])
                refine ⟨_, _, [0], hall ⟨true, 0, by simp [d3, c2], fun _ => rfl, by omega, by simp [maxLen]⟩, ?_, ?_⟩
                · show _ = _
                  simp only [AV.γ, V.γ, Sc.γ, hlen]
                · simp only [Eff.app]
                  refine R.grow hgr D.hl D.h1d D.h1c D.row _ 0 (fun c hc => by simp at hc; subst hc; rfl) (fun hl => ?_) ⟨fun h => (by cases h), fun ks' xs' cap' h => (by cases h), fun ks' xs' cap' h => (by cases h; exact hzs), fun nl fs cap h => (by cases h), fun L O h => (by cases h)⟩ (fun f hf => by cases hf) (fun L O h => by cases h)
                  rcases hl with h | ⟨_, _, _, h⟩ | ⟨_, _, h⟩
                  · cases h
                  · cases h
                  · cases h
              · refine ⟨_, _, [b], hall ⟨false, cap, ?_, fun h => (by cases h), I.le, I.max⟩, ?_, ?_⟩
                · simp only [Bool.false_eq_true, false_iff]
                  rintro ⟨e1, e2⟩
                  rcases D.it with ⟨d1, _, _⟩ | ⟨d1, _⟩
                  · exact c1 ⟨d1, e2⟩
                  · rw [e1] at d1; cases d1
                · have hself : (bs ++ [b]).getD s.h.length 0 = b := by
                    rw [List.getD_eq_getElem?_getD, ← R.len, List.getElem?_append_right (Nat.le_refl _)]; simp
                  show _ = _
                  simp only [AV.γ, V.γ, Sc.γ, hself, Nat.zero_mul]
                · simp only [Eff.app]
                  have hle : w0.heap.size ≤ b := by
                    rcases I.from_ with h | h
                    · exact (D.row b h).1
                    · rw [h]; exact R.below.size
                  refine R.grow hgr D.hl D.h1d D.h1c D.row _ b (fun c hc => by simp at hc; subst hc; rfl) (fun _ => ?_) ⟨fun h => (by cases h), fun ks' xs' cap' h => ?_, fun ks' xs' cap' h => (by cases h), fun nl fs cap h => (by cases h), fun L O h => (by cases h)⟩ (fun f hf => by cases hf) (fun L O h => by cases h)
                  · rcases I.from_ with h | h
                    · exact .inr h
                    · exact .inl (by rw [h]; exact Nat.le_refl _)
                  · cases h
                    refine ⟨hle, cur, I.it, RowIs.of_take I.size ?_⟩
                    have : (dd.xs ++ ys).length = (dd.len + m) * ks.length := by rw [List.length_append, D.len, S.len, ← Nat.add_mul]
                    rw [this]
                    exact I.take
            rcases hcase with ⟨rfl, rfl⟩ | ⟨ad, rfl, hcell⟩
            · have hys : ys = [] := List.eq_nil_of_length_eq_zero (by rw [S.len]; simp)
              subst hys
              rw [hyv] at finish
              rcases D.it with ⟨d1, d2, d3⟩ | ⟨d1, g', cap', cur', d2, I⟩
              · refine finish _ _ (by rw [d1]; exact run_append_nothing hu hi _ _ _ _ (Nat.le_refl _)) ⟨rfl, rfl, rfl, Nat.le_refl _, fun _ _ _ => rfl⟩ (.inl ⟨d1, rfl, rfl⟩)
              · refine finish _ _ (by rw [d2]; exact run_append_nothing hu hi _ _ _ _ I.le) ⟨rfl, rfl, rfl, Nat.le_refl _, fun _ _ _ => rfl⟩ (.inr ⟨by rw [d2]; simp, g', cap', cur', rfl, I.it, .inl (by rw [d2]; rfl), I.le, I.max, I.size, by simpa using I.take⟩)
            · have hu2 : (ev xo = .slice none 0 0 ∧ dd.len = 0) ∨ ∃ g cap cur, ev xo = .slice (some ⟨g, 0, none⟩) dd.len cap ∧ Into w w e ks (some g) dd.len cap g (rowVals ks dd.xs) cur := by
                rcases D.it with ⟨d1, d2, d3⟩ | ⟨d1, g', cap', cur', d2, I⟩
                · exact .inl ⟨d1, d2⟩
                · exact .inr ⟨g', cap', cur', d2, I⟩
              obtain ⟨v', w', hrun, hgr, hc⟩ := run_append_into (P := P) (ty := ty) hu hi hz hsz hzs hk hby (by rw [rowVals_length, D.len]) hu2 ad m c (rowVals ks ys) (by rw [rowVals_length, S.len]) hcell (rowVals_one ks ys) hb
              rw [← rowVals_append D.len] at hc
              exact finish v' w' (by rw [hyv]; exact hrun) hgr hc
          · exact hK.elim
        · exact hK.elim
      · rename_i i hks hi
        split at hK
        · rename_i hh
          simp only [Bool.and_eq_true] at hh
          have ht := Nat.eq_of_beq_eq_true hh.1.2
          subst ht
          exact appendF_ok hu hi hh.1.1 (by have := hh.2; simpa [Nat.blt_eq] using this) hK hx hy R d ty pos af g
        · exact hK.elim
      · exact hK.elim
    · rename_i e k hu hu'
      exact appendZ_ok hu hu' hK hx hy R d ty pos af g
    · exact hK.elim
  · exact hK.elim

theorem run_mark {P : Program} {w : World} {b off : Nat} {C : Array Value} {t : TypeId} {fr : Nat × Nat} (h : w.heap[b]? = some (.cells C t fr)) : ∃ w' fr', (markStringish ⟨b, off, none⟩).run P w = .ok () w' ∧ w'.heap[b]? = some (.cells C t fr') ∧ w.grownBy w' (some b) := by
  have hsh : w.shape? b = some (t, C.size) := by simp [World.shape?, h]
  have hlt := (Array.getElem?_eq_some_iff.1 h).1
  refine ⟨w.freeze ⟨b, C.size, none⟩ 1, ?_⟩
  have hrun : (markStringish ⟨b, off, none⟩).run P w = .ok () (w.freeze ⟨b, C.size, none⟩ 1) := by
    simp [markStringish, hsh]
  have hfz : ∃ f : Obj → Obj, (∃ fr', f (.cells C t fr) = .cells C t fr') ∧ w.freeze ⟨b, C.size, none⟩ 1 = { w with heap := w.heap.modify b f } := by
    unfold World.freeze
    rw [if_neg (by decide)]
    exact ⟨_, ⟨_, rfl⟩, rfl⟩
  obtain ⟨f, ⟨fr', hf⟩, e⟩ := hfz
  have hx : w.heap[b] = .cells C t fr := by
    rw [Array.getElem?_eq_getElem hlt] at h
    exact Option.some.inj h
  refine ⟨fr', hrun, ?_, ?_⟩
  · rw [e]
    show (w.heap.modify b f)[b]? = _
    rw [Array.getElem?_eq_getElem (by simpa using hlt), Array.getElem_modify, if_pos rfl, hx, hf]
  · rw [e]
    refine ⟨rfl, rfl, rfl, by simp, fun i hi hne => ?_⟩
    show (w.heap.modify b f)[i]? = _
    have hne : b ≠ i := fun e => hne (by rw [e])
    rw [Array.getElem?_eq_getElem (by simpa using hi), Array.getElem_modify, if_neg hne, Array.getElem?_eq_getElem hi]
theorem run_convB {P : Program} {w w' : World} {src e : TypeId} {b off len cap : Nat} (hs : P.underlying src = some (.slice e)) (he : P.underlying e = some (.int .u8)) (hrun : (markStringish ⟨b, off, none⟩).run P w = .ok () w') : (convert src src (.slice (some ⟨b, off, none⟩) len cap)).run P w = .ok (.slice (some ⟨b, off, none⟩) len cap) w' := by
  simp [convert, run_underlying hs, run_underlying he, hrun]
theorem convB_ok {P : Program} {w0 : World} {bs : List Nat} {s : ASt} {src dst e e' : TypeId} {r off len cap : Nat} {K : AV × Eff → Prop} (hs : P.underlying src = some (.slice e)) (hd : P.underlying dst = some (.slice e')) (hK : (convB P s src dst e r off len cap).holds K) {ev : Operand → Value} {w : World} {xo : Operand} (hx : (AV.v (.one (.os r off len cap))).Is bs (ev xo))
    (R : Rep (lt s.h.length) w0 bs s.h w) (d : Option Tmp) (ty : TypeId) (pos : String) (af : Array Edge) (g : Option (Nat × Bool)) : Up P ⟨d, .convert src dst xo, ty, pos, af, g⟩ ev w (Goes w0 bs s K) := by
  unfold convB at hK
  split at hK
  · rename_i k hsd he hr
    have hsd := Nat.eq_of_beq_eq_true hsd
    subst hsd
    rw [hs] at hd
    cases hd
    split at hK
    · rename_i xs hpl hxs
      split at hK
      · rename_i hl
        have hl := Nat.eq_of_beq_eq_true hl
        have hm : lt s.h.length r = true := lt_iff.2 (List.getElem?_eq_some_iff.1 hr).1
        obtain ⟨b1, b2⟩ := (R.blk r k hm hr).plain hpl
        have e1 : ev xo = .slice (some ⟨bs.getD r 0, off, none⟩) len cap := hx
        obtain ⟨w', fr', hrun, hh, hg⟩ := run_mark (P := P) (off := off) b2
        obtain ⟨g1, g2⟩ := intsAs_ok (bs := bs) _ _ _ hxs
        let z : IzOf xs off := ⟨bs.getD r 0, (k.cells.map (Sc.γ bs)).toArray, k.t, fr', fun j hj => by
          have g3 := g2 j (by rw [← g1]; exact hj)
          rw [List.getElem?_take, if_pos (by omega), List.getElem?_drop, Nat.zero_add] at g3
          simp only [List.getElem?_toArray, List.getElem?_map]
          rw [g3]
          simp [Nat.mod_one]⟩
        have hcv : (convert src src (ev xo)).run P w = .ok (ev xo) w' := by
          rw [e1]
          exact run_convB hs he hrun
        refine Up.value (v := ev xo) (w' := w') ?_ ⟨_, _, [0], hK z, ?_, ?_⟩
        · simp only [execOp, Sem.run_bind, hcv, Result.andThen_ok, Sem.run_pure]
        · show _ = _
          rw [e1]
          simp only [AV.γ, V.γ, Sc.γ, hl]
          rfl
        · simp only [Eff.app]
          obtain ⟨a1, a2, a3⟩ := killed (row := some (bs.getD r 0)) R hr (.inr ⟨rfl, .inl hpl⟩)
          refine R.grow (row := some (bs.getD r 0)) hg a1 a2 a3 (fun q hq => ?_) ⟨[.keep (izL z) fun _ => false], k.t⟩ 0 (fun q hq => by simp at hq; subst hq; rfl) (fun hlv => ?_) ⟨fun h => (by cases h), fun ks' xs' cap' h => (by cases h), fun ks' xs' cap' h => (by cases h), fun nl fs cap h => (by cases h), fun L O h => ?_⟩ (fun f hf => by cases hf) (fun L O h => ?_)
          · cases hq
            exact ⟨b1, r, k, hr, .inl hpl, rfl⟩
          · have := live_keep hlv
            simp [keepIn] at this
          · have h : some (izL z, fun _ => false) = some (L, O) := h
            cases h
            refine ⟨fun b o hb => ?_, fun b hb => by cases hb⟩
            simp only [izL] at hb
            split at hb
            · rename_i hbz
              cases hb
              rw [hbz]
              exact hh
            · cases hb
          · have h : some (izL z, fun _ => false) = some (L, O) := h
            cases h
            refine ⟨fun i x hx hlx => ?_, fun b => rfl⟩
            simp only [izL]
            rw [if_neg]
            intro e
            exact (a2 i x hx hlx).2 (congrArg some e.symm)
      · exact hK.elim
    · exact hK.elim
  · exact hK.elim
theorem keeps_live {k : Blk} {nl : Bool} {ks ks' : List IntKind} {xs xs' : List Int} {cap cap' : Nat} {t : TypeId} (hc : k.cells = [.row nl ks xs cap]) (h : live ⟨[.row nl ks' xs' cap'], t⟩) : live k := by
  rcases h with h | ⟨_, _, _, h⟩ | ⟨_, _, h⟩
  · cases h
  · cases h
    exact .inr (.inl ⟨_, _, _, hc⟩)
  · cases h
/-- A row is written in place. -/
theorem Rep.rowWrite {w0 w : World} {bs : List Nat} {h : List Blk} (R : Rep (lt h.length) w0 bs h w) {r : Nat} {k : Blk} (hr : h[r]? = some k) {ks : List IntKind} {xs xs' : List Int} {cap : Nat} (hc : k.cells = [.row false ks xs cap]) {cur' : Array Value} (hi : RowIs cur' ks xs' cap) :
    Rep (lt (updBlk h r fun k => ⟨[.row false ks xs' cap], k.t⟩).length) w0 bs (updBlk h r fun k => ⟨[.row false ks xs' cap], k.t⟩) (w.setRow (bs.getD r 0) cur') := by
  have hm : lt h.length r = true := lt_iff.2 (List.getElem?_eq_some_iff.1 hr).1
  obtain ⟨b1, cur, b2, _⟩ := (R.blk r k hm hr).row _ _ _ hc
  rw [updBlk_congr (g := fun _ => ⟨[.row false ks xs' cap], k.t⟩) hr rfl, updBlk_length]
  refine R.update hm hr (keeps_live hc) (fun i hi => setRow_other _ _ _ _ ?_) (below_setRow' R.below b1) ⟨fun h => (by cases h), fun ks' xs'' cap' h => ?_, fun ks' xs'' cap' h => (by cases h), fun nl fs cap h => (by cases h), fun L O h => (by cases h)⟩ (fun c hc' => ?_) rfl rfl (by rw [setRow_size]; exact Nat.le_refl _)
  · rcases hi with hi | hi
    · exact hi
    · exact absurd (.inr (.inl ⟨_, _, _, hc⟩)) hi
  · cases h
    exact ⟨b1, cur', setRow_heap _ _ _ _ _ _ b2, hi⟩
  · simp at hc'; subst hc'; rfl
/-- A row that is nil is what it was. -/
theorem Rep.rowSame {w0 w : World} {bs : List Nat} {h : List Blk} (R : Rep (lt h.length) w0 bs h w) {r : Nat} {k : Blk} (hr : h[r]? = some k) {ks : List IntKind} {xs xs' : List Int} {cap : Nat} (hc : k.cells = [.row true ks xs cap]) (hx : xs' = []) :
    Rep (lt (updBlk h r fun k => ⟨[.row true ks xs' cap], k.t⟩).length) w0 bs (updBlk h r fun k => ⟨[.row true ks xs' cap], k.t⟩) w := by
  have hm : lt h.length r = true := lt_iff.2 (List.getElem?_eq_some_iff.1 hr).1
  rw [updBlk_congr (g := fun _ => ⟨[.row true ks xs' cap], k.t⟩) hr rfl, updBlk_length]
  refine R.update hm hr (keeps_live hc) (fun i hi => rfl) R.below ⟨fun h => (by cases h), fun ks' xs'' cap' h => (by cases h), fun ks' xs'' cap' h => (by cases h; exact hx), fun nl fs cap h => (by cases h), fun L O h => (by cases h)⟩ (fun c hc' => ?_) rfl rfl (Nat.le_refl _)
  simp at hc'; subst hc'; rfl
theorem row_splice {cur : Array Value} {ks : List IntKind} {xs : List Int} {cap o : Nat} {ys : List Int} (h : RowIs cur ks xs cap) (hk : ks.length = 1) (hle : o + ys.length ≤ xs.length) :
    RowIs (cur.toList.take o ++ rowVals ks ys ++ cur.toList.drop (o + ys.length)).toArray ks (xs.take o ++ ys ++ xs.drop (o + ys.length)) cap := by
  have h1 := h.len
  have h2 : cur.toList.length = cur.size := Array.length_toList
  have hl : (xs.take o ++ ys ++ xs.drop (o + ys.length)).length = xs.length := by simp; omega
  refine ⟨by rw [← h.size]; simp [rowVals_length]; omega, by rw [hl]; simp [rowVals_length]; omega, fun j hj => ?_⟩
  rw [hl] at hj
  have hmod : ∀ j, j % ks.length = 0 := fun j => by rw [hk, Nat.mod_one]
  rw [hmod]
  simp only [List.getElem?_toArray, List.append_assoc, List.getD_eq_getElem?_getD, List.getElem?_append, List.length_take, h2, rowVals_length, List.getElem?_take, List.getElem?_drop]
  have hm : min o cur.size = o := by omega
  have hm' : min o xs.length = o := by omega
  rw [hm, hm']
  have hcell := fun j hj => h.cell j hj
  simp only [hmod, List.getD_eq_getElem?_getD] at hcell
  by_cases g1 : j < o
  · simp only [if_pos g1]
    simpa using hcell j hj
  · simp only [if_neg g1]
    by_cases g2 : j - o < ys.length
    · simp only [if_pos g2]
      rw [rowVals_get g2, hmod]
      simp
    · simp only [if_neg g2]
      have : o + ys.length + (j - o - ys.length) = j := by omega
      rw [this]
      simpa using hcell j hj
theorem copyT_ok {P : Program} {w0 : World} {bs : List Nat} {s : ASt} {ats : Array TypeId} {x y : AV} {K : AV × Eff → Prop} (hK : (copyT P w0 s ats x y).holds K) {ev : Operand → Value} {w : World} {xo yo : Operand} (hx : x.Is bs (ev xo)) (hy : y.Is bs (ev yo)) (hyw : y.wf (lt s.h.length) = true)
    (R : Rep (lt s.h.length) w0 bs s.h w) (d : Option Tmp) (ty : TypeId) (pos : String) (af : Array Edge) (g : Option (Nat × Bool)) : Up P ⟨d, .call ⟨.builtin .copy, #[xo, yo], ats⟩, ty, pos, af, g⟩ ev w (Goes w0 bs s K) := by
  unfold copyT at hK
  split at hK
  · rename_i t t' hats
    obtain ⟨ats⟩ := ats
    simp only at hats
    subst hats
    split at hK
    · rename_i e e' hu hu'
      split at hK
      · rename_i ks i hks hi
        split at hK
        · rename_i hh
          obtain ⟨hsz, hk⟩ := hh
          split at hK
          · rename_i pre m ys r nl sz off len cap hsrc
            split at hK
            · rename_i nl' ks' xs cap' t'' hro
              obtain ⟨k, hr, hc, rfl⟩ := rowOf_some hro
              split at hK
              · rename_i hh
                obtain ⟨rfl, rfl⟩ := hh
                obtain ⟨⟨hp1, rfl, hle⟩, hK⟩ := hK
                have S := srcT_ok (by omega) hsrc hp1 hy hyw R
                obtain ⟨a, c, ⟨hyv, _⟩, hcase⟩ := S.it
                have hm : lt s.h.length r = true := lt_iff.2 (List.getElem?_eq_some_iff.1 hr).1
                have hx' : ev xo = Sc.γ bs (.gs r nl ks'.length off len cap) := hx
                simp only [hk, Nat.mul_one] at hK hle hx'
                have hylen : ys.length = m := by rw [S.len, hk, Nat.mul_one]
                have htl : (ys.take (min m len)).length = min m len := by rw [List.length_take]; omega
                cases nl with
                | true =>
                  have hx' : ev xo = .slice none len cap := hx'
                  have hxs := (R.blk r k hm hr).nil _ _ _ hc
                  subst hxs
                  have h0 : off + len = 0 := by simpa using hle
                  have hl0 : len = 0 := by omega
                  subst hl0
                  have hmn : min m 0 = 0 := Nat.min_zero m
                  refine Up.value (v := goInt 0) (w' := w) (exec_copy ?_) ⟨_, _, [], hK, ?_, ?_⟩
                  · rw [hx', hyv]
                    cases a <;> simp [Builtin.copy_, run_underlying hu, Builtin.lenOf, Builtin.firstCells, sizeOf, typeInfo, hi, loadCells, loadCellsFrom, Nat.min_zero]
                  · show _ = _
                    simp [AV.γ, V.γ, Sc.γ, goInt]
                  · simp only [Eff.app, List.append_nil]
                    exact R.rowSame hr hc (by simp)
                | false =>
                  have hx' : ev xo = .slice (some ⟨bs.getD r 0, off, none⟩) len cap := by simpa [Sc.γ] using hx'
                  obtain ⟨b1, cur, b2, I⟩ := (R.blk r k hm hr).row _ _ _ hc
                  have hcur := I.len
                  rcases hcase with ⟨rfl, rfl⟩ | ⟨ad, rfl, hcell⟩
                  · have hys : ys = [] := List.eq_nil_of_length_eq_zero hylen
                    subst hys
                    refine Up.value (v := goInt 0) (w' := w) (exec_copy ?_) ⟨_, _, [], hK, ?_, ?_⟩
                    · rw [hx', hyv]
                      simp [Builtin.copy_, run_underlying hu, Builtin.lenOf, Builtin.firstCells, sizeOf, typeInfo, hi, storeCells]
                    · show _ = _
                      simp [AV.γ, V.γ, Sc.γ, goInt]
                    · simp only [Eff.app, List.append_nil]
                      have e1 := setRow_self w (bs.getD r 0) cur k.t (0, 0) b2
                      rw [← e1]
                      refine R.rowWrite hr hc ?_
                      simpa using I
                  · have hrun := run_copy_row (P := P) w t t' ty e (bs.getD r 0) off len cap ad m c cur k.t (rowVals ks' (ys.take (min m len))) hu (by rw [hi]; simp [hsz, hk]) b2 (by rw [rowVals_length, htl]; first | done | rfl) (fun j v hj => ?_) (by rw [rowVals_length, htl]; omega) (rowVals_one _ _)
                    · refine Up.value (exec_copy (by rw [hx', hyv]; exact hrun)) ⟨_, _, [], hK, ?_, ?_⟩
                      · show _ = _
                        simp only [AV.γ, V.γ, Sc.γ, goInt, rowVals_length, htl]
                      · simp only [Eff.app, List.append_nil]
                        refine R.rowWrite hr hc ?_
                        have := row_splice (o := off) (ys := ys.take (min m len)) I hk (by rw [htl]; omega)
                        rw [htl] at this
                        rw [rowVals_length, htl]
                        exact this
                    · obtain ⟨j1, rfl⟩ := rowVals_some hj
                      refine hcell j _ ?_
                      rw [htl] at j1
                      rw [rowVals_get (by omega)]
                      simp only [List.getD_eq_getElem?_getD, List.getElem?_take, if_pos j1]
              · exact hK.elim
            · exact hK.elim
          · exact hK.elim
        · exact hK.elim
      · exact hK.elim
    · exact hK.elim
  · exact hK.elim
theorem storeRow_ok {P : Program} {w0 : World} {bs : List Nat} {s : ASt} {t : TypeId} {x y : AV} {K : AV × Eff → Prop} (hK : (storeRow P s t x y).holds K) {ev : Operand → Value} {w : World} {xo yo : Operand} (hx : x.Is bs (ev xo)) (hy : y.Is bs (ev yo))
    (R : Rep (lt s.h.length) w0 bs s.h w) (d : Option Tmp) (ty : TypeId) (pos : String) (af : Array Edge) (g : Option (Nat × Bool)) : Up P ⟨d, .store t xo yo, ty, pos, af, g⟩ ev w (Goes w0 bs s K) := by
  unfold storeRow at hK
  split at hK
  · rename_i r sz i q lit kk n
    split at hK
    · rename_i nl ks xs cap t' hro hs
      obtain ⟨k, hr, hc, rfl⟩ := rowOf_some hro
      split at hK
      · rename_i hh
        obtain ⟨rfl, hq, rfl⟩ := hh
        obtain ⟨⟨rfl, hlt⟩, hK⟩ := hK
        have hm : lt s.h.length r = true := lt_iff.2 (List.getElem?_eq_some_iff.1 hr).1
        obtain ⟨b1, cur, b2, I⟩ := (R.blk r k hm hr).row _ _ _ hc
        have e1 : ev xo = .pointer (some ⟨bs.getD r 0, i * ks.length + q, none⟩) := hx
        have e2 : ev yo = .int (ks.getD q .u8) n := hy
        have hcl := I.len
        have hst := run_storeCells_at P (bs.getD r 0) (i * ks.length + q) k.t [.int (ks.getD q .u8) n] 0 cur w b2 (by simp; omega) (by simp [Value.oneCell'])
        refine Up.skip (w' := w.setRow (bs.getD r 0) (cur.setIfInBounds (i * ks.length + q) (.int (ks.getD q .u8) n))) ?_ ⟨_, _, [], hK, ?_, ?_⟩
        · simp only [execOp, Instr.storeAt, e1, e2, Instr.sureAddr, Sem.run_bind, Sem.run_pure, Result.andThen_ok, storeVar, run_size hs, Value.cells]
          rw [if_neg (by simp)]
          --           simp only [Sem.run_bind, Sem.run_pure, Result.andThen_ok] at hst ⊢
          rw [hst]
          try simp only [Result.andThen_ok, Nat.add_zero]
          congr 2
          apply Array.ext'
          simp only [List.toList_toArray, Array.toList_setIfInBounds, List.length_singleton]
          rw [List.set_eq_take_append_cons_drop, if_pos (by simp; omega)]
          simp
        · rw [List.append_nil]; exact AV.is_refl bs .undef
        · simp only [Eff.app, List.append_nil]
          refine R.rowWrite hr hc ⟨by simp [I.size], by simp [I.len], fun j hj => ?_⟩
          rw [List.length_set] at hj
          rw [Array.getElem?_setIfInBounds]
          by_cases e : i * ks.length + q = j
          · subst e
            rw [if_pos rfl, if_pos (by omega), mod_in hq]
            simp [hlt]
          · rw [if_neg e, I.cell j hj]
            simp [e]
      · exact hK.elim
    · exact hK.elim
  · exact hK.elim
theorem rowT_ok {P : Program} {w0 : World} {bs : List Nat} {s : ASt} {o : Oper} {t : T (AV × Eff)} (he : rowT P w0 s o = some t) {K : AV × Eff → Prop} (hK : t.holds K) {ev : Operand → Value} {w : World} (hev : ∀ y ∈ o.op.operands, (opd s.ts y).Is bs (ev y)) (hw : TWf (lt s.h.length) s.ts) (R : Rep (lt s.h.length) w0 bs s.h w) : Up P o ev w (Goes w0 bs s K) := by
  obtain ⟨d, op, ty, pos, af, g⟩ := o
  unfold rowT at he
  simp only at he hev
  split at he
  · rename_i t' x y
    split at he
    · cases he
      exact storeRow_ok hK (hev x (by simp [Op.operands])) (hev y (by simp [Op.operands])) R d ty pos af g
    · cases he
  · rename_i src dst x
    split at he
    · rename_i e e' r off len cap hs hd hx
      cases he
      exact convB_ok hs hd hK (by rw [← hx]; exact hev x (by simp [Op.operands])) R d ty pos af g
    · cases he
  · rename_i t' l c
    cases he
    exact makeT_ok hK (hev l (by simp [Op.operands])) (hev c (by simp [Op.operands])) R d ty pos af g
  · rename_i b args ats
    obtain ⟨args⟩ := args
    simp only at he
    split at he
    · rename_i x y
      cases he
      exact appendT_ok hK (hev x (by simp [Op.operands, Call.operands])) (hev y (by simp [Op.operands, Call.operands])) (hw.opd y) R d ty pos af g
    · rename_i x y
      cases he
      exact copyT_ok hK (hev x (by simp [Op.operands, Call.operands])) (hev y (by simp [Op.operands, Call.operands])) (hw.opd y) R d ty pos af g
    · cases he
  · cases he
end Go.Proofs.Ytmbahohmiecfiaa.sym
