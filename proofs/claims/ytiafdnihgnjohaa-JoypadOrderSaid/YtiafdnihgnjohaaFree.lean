/-
  A region whose order is drawn, of which all operations but a forced tail read, or call functions that leave old memory alone: it is walked once, in the order of the text, whatever order is drawn; then the tail. The library has this for one world (a tail) and for a class of worlds (no tail); here for both at once. No conditions.
-/
import Derived.Test.YtiafdnihgnjohaaKit
import Derived.StillTail
import Derived.Lib.QuietBelow
import Derived.BigQuiet
import Derived.Lib.Hide
namespace Go.Proofs.Ytiafdnihgnjohaa.free
open Go.RowKit Go.Sort

section
variable {P : Program} {ops : Array Oper} {md : Region.Mode} {C : World → Prop}

/-- Each operation that may come up is one of the first n, and quiet in the class; behind f of them: L. -/
def head (P : Program) (md : Region.Mode) (ops : Array Oper) (C : World → Prop) (n : Nat) (L : Array Bool → Act → Prop) : Nat → Array Bool → Act → Prop
  | 0, listed, a => L listed a
  | f + 1, listed, a => Region.ready md ops listed ≠ [] ∧ ∀ i ∈ Region.ready md ops listed, i < n ∧ qOp P ops C i (head P md ops C n L f (listed.setIfInBounds i true)) a

theorem any_of_head {n g : Nat} {L : Array Bool → Act → Prop} {Q : Exit → Act → World → Prop} (hL : ∀ listed a w, C w → L listed a → wpAny P md ops Q g listed a w) :
    ∀ (f : Nat) (listed : Array Bool) (a : Act) (w : World), C w → head P md ops C n L f listed a → wpAny P md ops Q (f + g) listed a w := by
  intro f
  induction f with
  | zero => intro listed a w hw h; rw [Nat.zero_add]; exact hL _ _ _ hw h
  | succ f ih =>
    intro listed a w hw h
    rw [show f + 1 + g = (f + g) + 1 by omega]
    exact ⟨fun h0 => absurd h0 h.1, fun i hi => wpOp_of_qOp hw (fun a' w' hw' hh => ih _ a' w' hw' hh) (h.2 i hi).2⟩

theorem head_first {n i : Nat} {o : Oper} {v : Value} {L : Array Bool → Act → Prop} (ho : ops[i]? = some o) (hsel : Region.noSelect ops = true)
    (hs : Region.sinkB md ops n = true) (hc : Region.chainB md ops n = true) (hn : n < ops.size) (hin : i < n) (hend : ∀ listed a, L listed a → ∀ j ∈ Region.ready md ops listed, n ≤ j) :
    ∀ (f : Nat) (listed : Array Bool) (a : Act), HeadInv md ops n listed →
      (∀ j oj, ops[j]? = some oj → j ≠ i → listed.getD j true = false → (∀ e ∈ oj.after, Region.binds md e = true → e.on ≠ i) → o.apart ops oj = true) →
      i ∈ Region.ready md ops listed → YieldsIn P ops C o v a → head P md ops C n L f (listed.setIfInBounds i true) (a.put o.dst v) → head P md ops C n L (f + 1) listed a := by
  have sel := Region.noSelect_spec hsel
  intro f
  induction f with
  | zero =>
    intro listed a inv _ hr hy H
    refine ⟨fun h0 => (by rw [h0] at hr; cases hr), fun j hj => ⟨?_, ?_⟩⟩
    · exact Nat.lt_of_not_le fun hjn => tail_waits hs hc hn inv _ i rfl hin (mem_ready.1 hr).1 j hjn hj
    · by_cases e : j = i
      · subst e; exact hy.qOp ho H
      · exact absurd (hend _ _ H j (ready_mono hj e)) (Nat.not_le.2 (Nat.lt_of_not_le fun hjn => tail_waits hs hc hn inv _ i rfl hin (mem_ready.1 hr).1 j hjn hj))
  | succ f ih =>
    intro listed a inv hap hr hy H
    have hjn : ∀ j ∈ Region.ready md ops listed, j < n := fun j hj => Nat.lt_of_not_le fun h => tail_waits hs hc hn inv _ i rfl hin (mem_ready.1 hr).1 j h hj
    refine ⟨fun h0 => (by rw [h0] at hr; cases hr), fun j hj => ⟨hjn j hj, ?_⟩⟩
    by_cases e : j = i
    · subst e; exact hy.qOp ho H
    · obtain ⟨hun, oj, hoj, hall⟩ := mem_ready.1 hj
      have hno : ∀ x ∈ oj.after, Region.binds md x = true → x.on ≠ i := fun x hx hb he => by
        have h1 := hall x hx hb
        rw [he, getD_both (mem_ready.1 hr).1] at h1
        cases h1
      refine qOp_mono (fun a' h3 => ih (listed.setIfInBounds j true) a' (inv.set hj (hjn j hj)) (fun k ok hk hki hu hnk => hap k ok hk hki ?_ hnk) (ready_mono hr (Ne.symm e)) h3.1 ?_)
        (qOp_put hoj (hap j oj hoj e hun hno) (fun cs b => sel i o cs b ho) (fun cs b => sel j oj cs b hoj) hy (H.2 j (ready_mono hj e)).2)
      · by_cases hjk : j = k
        · subst hjk; exact hun
        · rw [getD_set_ne true hjk] at hu; exact hu
      · rw [Array.setIfInBounds_comm _ _ e]; exact h3.2

theorem head_lex {n g : Nat} {F : Act → Prop} (hsel : Region.noSelect ops = true) (hs : Region.sinkB md ops n = true) (hc : Region.chainB md ops n = true) (hn : n < ops.size) :
    ∀ (l : List Oper) (k : Nat) (listed : Array Bool) (a : Act), (∀ j, j < l.length → l[j]? = ops[k + j]?) → k + l.length = n → HeadInv md ops n listed → Region.lexHead md ops g l.length k listed = true →
      wpQuiet P ops C F l a → head P md ops C n (fun listed' a' => Region.seqB md ops g n listed' = true ∧ F a') l.length listed a := by
  intro l
  induction l with
  | nil =>
    intro k listed a _ hk _ hB h
    have e : k = n := by simpa using hk
    subst e
    exact ⟨by simpa [Region.lexHead] using hB, h⟩
  | cons o l ih =>
    intro k listed a hl hk inv hB h
    have h0 : ops[k]? = some o := by simpa using (hl 0 (by simp)).symm
    simp only [List.length_cons, Region.lexHead, Bool.and_eq_true] at hB hk
    have hr : k ∈ Region.ready md ops listed := by simpa using hB.1.1
    obtain ⟨v, hy, hK⟩ := yieldsIn_of_qOp (K := wpQuiet P ops C F l) h0 (by unfold qOp; simp only [h0]; exact h)
    exact head_first h0 hsel hs hc hn (by omega) (fun _ _ hL => seqB_ready hL.1) l.length listed a inv (Region.free_spec h0 hB.1.2) hr hy
      (ih (k + 1) _ _ (fun j hj => by have := hl (j + 1) (by simp; omega); simpa [Nat.add_assoc, Nat.add_comm 1 j] using this) (by omega) (inv.set hr (by omega)) hB.2 hK)

/-- n operations in whatever order, then the others in the order of the text. -/
theorem wp_region_free {id : Nat} {Q : Exit → Act → World → Prop} {a : Act} {w : World} {l : List Oper} (n : Nat) (hm : P.follows .mixedOrders = true) (hB : Region.lexTailB .any l.toArray n = true) (hC : C { w with drawn := w.drawn + 1 })
    (h : wpQuiet P l.toArray C (fun a' => ∀ w', C w' → wpList P l.toArray Q (l.drop n) a' w') (l.take n) a) : (Code.region id l.toArray true).wp P Q a w := by
  simp only [Region.lexTailB, Bool.and_eq_true, decide_eq_true_eq] at hB
  obtain ⟨⟨⟨⟨hsel, hn⟩, hs⟩, hc⟩, hlex⟩ := hB
  have hn' : n < l.length := by simpa using hn
  have htl : (l.take n).length = n := by simp; omega
  have hdl : (l.drop n).length = l.toArray.size - n := by simp
  have inv : HeadInv .any l.toArray n (Array.replicate l.toArray.size false) :=
    ⟨by simp, fun j oj _ hl => (by rw [getD_replicate_false] at hl; cases hl), fun t _ ht => getD_in (by simpa using ht) (getD_replicate_false _ _)⟩
  have H := head_lex (md := .any) (g := l.toArray.size - n) hsel hs hc hn (l.take n) 0 _ a (fun j hj => by rw [htl] at hj; simp [hj]) (by simpa using htl) inv (by rw [htl]; exact hlex) h
  refine wp_region_any hm ?_
  have R := any_of_head (Q := Q) (g := l.toArray.size - n) (fun listed a' w' hw' hL => by
    have := wpAny_of_seq (md := .any) (Q' := Q) (l.drop n) n listed a' w' (fun j => by simp [List.getElem?_drop]) (by rw [hdl]; exact hL.1) (hL.2 w' hw')
    rwa [hdl] at this) _ _ _ _ hC H
  rw [htl, show n + (l.toArray.size - n) = l.toArray.size by omega] at R
  exact R

/-- .. at the class 'old memory is as it was'. -/
theorem wp_region_old {id : Nat} {Q : Exit → Act → World → Prop} {a : Act} {w : World} {l : List Oper} (n : Nat) (hm : P.follows .mixedOrders = true) (hB : Region.lexTailB .any l.toArray n = true)
    (h : wpQuiet P l.toArray (fun w' => ∃ p : Regrown, w' = grow (redrawn w p.d) p.os) (fun a' => ∀ w', Below w.heap.size w w' → wpList P l.toArray Q (l.drop n) a' w') (l.take n) a) : (Code.region id l.toArray true).wp P Q a w := by
  refine wp_region_free (C := fun w' => ∃ p : Regrown, w' = grow (redrawn w p.d) p.os) n hm hB ⟨⟨w.drawn + 1, #[]⟩, by rw [grow_empty]; rfl⟩ ?_
  have mono : ∀ (F G : Act → Prop) (hFG : ∀ a, F a → G a) (l' : List Oper) (a : Act), wpQuiet P l.toArray (fun w' => ∃ p : Regrown, w' = grow (redrawn w p.d) p.os) F l' a → wpQuiet P l.toArray (fun w' => ∃ p : Regrown, w' = grow (redrawn w p.d) p.os) G l' a := by
    intro F G hFG l'
    induction l' with
    | nil => exact fun a h => hFG a h
    | cons o r ih =>
      intro a h
      unfold wpQuiet at h ⊢
      split
      · rename_i hw
        rw [if_pos hw] at h
        obtain ⟨v, h1, h2⟩ := h
        exact ⟨v, h1, ih _ h2⟩
      · rename_i hw
        rw [if_neg hw] at h
        exact ih _ h
  refine mono _ _ (fun a' h' w' hw' => h' w' ?_) _ _ h
  obtain ⟨p, rfl⟩ := hw'
  exact below_regrown _ _ _
end

/-- Old memory in a world of the class: rules for the walk. -/
theorem cell_old (w : World) (d : Nat) (os : Array Obj) (b o : Nat) (h : b < w.heap.size) : (grow (redrawn w d) os).cell? ⟨b, o, none⟩ = w.cell? ⟨b, o, none⟩ :=
  (below_regrown w d os).cell (p := ⟨b, o, none⟩) h
theorem frozen_old (w : World) (d : Nat) (os : Array Obj) (b o : Nat) (h : b < w.heap.size) : (grow (redrawn w d) os).frozen? ⟨b, o, none⟩ = w.frozen? ⟨b, o, none⟩ :=
  (below_regrown w d os).frozen (p := ⟨b, o, none⟩) h
theorem size_old (w : World) (d : Nat) (os : Array Obj) : w.heap.size ≤ (grow (redrawn w d) os).heap.size := (below_regrown w d os).size

/-- A callee's contract in a world of the class. -/
theorem calls_old {P : Program} {f : FuncId} {args : Array Value} {w : World} {p : Regrown} {v : Value}
    (h : Calls P f args (grow (redrawn w p.d) p.os) fun e w' => e = .returned v ∧ Below (grow (redrawn w p.d) p.os).heap.size (grow (redrawn w p.d) p.os) w') :
    Calls P f args (grow (redrawn w p.d) p.os) fun e w'' => e = .returned v ∧ ∃ p : Regrown, w'' = grow (redrawn w p.d) p.os :=
  Calls.regrown_of h

/-- What a contract's 'Below' gives the walk. -/
theorem bcell {W w1 : World} (hb : Below W.heap.size W w1) : (∀ b o, b < W.heap.size → w1.cell? ⟨b, o, none⟩ = W.cell? ⟨b, o, none⟩) ∧ (∀ b o, b < W.heap.size → w1.frozen? ⟨b, o, none⟩ = W.frozen? ⟨b, o, none⟩) ∧ W.heap.size ≤ w1.heap.size :=
  ⟨fun b o h => hb.cell (p := ⟨b, o, none⟩) h, fun b o h => hb.frozen (p := ⟨b, o, none⟩) h, hb.size⟩
theorem grows {W w1 : World} (hb : Below W.heap.size W w1) : ∀ b, b < W.heap.size → b < w1.heap.size := fun _ h => Nat.lt_of_lt_of_le h hb.size
theorem lt_plus {b n k : Nat} (h : b < n) : b < n + k := Nat.lt_of_lt_of_le h (Nat.le_add_right _ _)
/-- One call more, that leaves old memory alone. -/
theorem onward {w a b : World} (h : Below w.heap.size w a) (hb : Below a.heap.size a b) : Below w.heap.size w b := h.trans (hb.mono h.size)

/-! ### What a walk knows of its own blocks, under one name: St w0 w L: below w0 nothing has turned, and each block of L holds its cells. -/

def cellsAt (w : World) (b : Nat) : Nat → List Value → Prop
  | _, [] => True
  | i, v :: r => w.cell? ⟨b, i, none⟩ = some v ∧ w.frozen? ⟨b, i, none⟩ = false ∧ cellsAt w b (i + 1) r
def Has (w : World) : List (Nat × List Value) → Prop
  | [] => True
  | x :: r => (x.1 < w.heap.size ∧ cellsAt w x.1 0 x.2) ∧ Has w r
structure St (w0 w : World) (L : List (Nat × List Value)) : Prop where
  below : Below w0.heap.size w0 w
  has : Has w L

theorem cellsAt_keep {w w' : World} {b : Nat} (hc : ∀ i, w'.cell? ⟨b, i, none⟩ = w.cell? ⟨b, i, none⟩) (hf : ∀ i, w'.frozen? ⟨b, i, none⟩ = w.frozen? ⟨b, i, none⟩) :
    ∀ (l : List Value) (i : Nat), cellsAt w b i l → cellsAt w' b i l
  | [], _, _ => trivial
  | _ :: l, i, ⟨h1, h2, h3⟩ => ⟨(hc i).trans h1, (hf i).trans h2, cellsAt_keep hc hf l (i + 1) h3⟩
theorem Has.keep {w w' : World} (hn : w.heap.size ≤ w'.heap.size) (hc : ∀ b i, b < w.heap.size → w'.cell? ⟨b, i, none⟩ = w.cell? ⟨b, i, none⟩) (hf : ∀ b i, b < w.heap.size → w'.frozen? ⟨b, i, none⟩ = w.frozen? ⟨b, i, none⟩) :
    ∀ (L : List (Nat × List Value)), Has w L → Has w' L
  | [], _ => trivial
  | _ :: L, ⟨⟨h1, h2⟩, h3⟩ => ⟨⟨Nat.lt_of_lt_of_le h1 hn, cellsAt_keep (fun i => hc _ i h1) (fun i => hf _ i h1) _ _ h2⟩, Has.keep hn hc hf L h3⟩
theorem St.start (w : World) : St w w [] := ⟨Below.refl _ _, trivial⟩
theorem St.call {w0 w w1 : World} {L : List (Nat × List Value)} (h : St w0 w L) (hb : Below w.heap.size w w1) : St w0 w1 L :=
  ⟨onward h.below hb, Has.keep hb.size (fun b i hlt => hb.cell (p := ⟨b, i, none⟩) hlt) (fun b i hlt => hb.frozen (p := ⟨b, i, none⟩) hlt) L h.has⟩
theorem St.drew {w0 w : World} {L : List (Nat × List Value)} (h : St w0 w L) : St w0 w.drew L := ⟨h.below.drew, Has.keep (w := w) (w' := w.drew) (Nat.le_refl _) (fun _ _ _ => rfl) (fun _ _ _ => rfl) L h.has⟩
theorem St.other {w0 w : World} {L : List (Nat × List Value)} (h : St w0 w L) (o : Obj) : St w0 (w.alloc o) L := h.call ((Below.refl _ _).alloc (Nat.le_refl _) o)
theorem cellsAt_new (w : World) (cs : Array Value) (t : TypeId) : ∀ (l : List Value) (i : Nat), (∀ j, l[j]? = cs[i + j]?) → cellsAt (w.alloc (.cells cs t)) w.heap.size i l
  | [], _, _ => trivial
  | v :: l, i, h => by
    have e : (w.alloc (.cells cs t)).heap[w.heap.size]? = some (.cells cs t (0, 0)) := by show (w.heap.push _)[w.heap.size]? = _; simp
    refine ⟨?_, ?_, cellsAt_new w cs t l (i + 1) (fun j => by have := h (j + 1); simpa [Nat.add_assoc, Nat.add_comm 1 j] using this)⟩
    · have h0 := h 0
      simp only [List.getElem?_cons_zero, Nat.add_zero] at h0
      rw [h0]
      exact cell_of_row _ _ _ _ _ _ e
    · unfold World.frozen?
      rw [e]
      simp
theorem St.alloc {w0 w : World} {L : List (Nat × List Value)} (h : St w0 w L) (cs : List Value) (t : TypeId) : St w0 (w.alloc (.cells cs.toArray t)) ((w.heap.size, cs) :: L) :=
  ⟨(h.other _).below, ⟨by simp, cellsAt_new w cs.toArray t cs 0 (fun j => by simp)⟩, (h.other _).has⟩

theorem St.tail {w0 w : World} {x : Nat × List Value} {L : List (Nat × List Value)} (h : St w0 w (x :: L)) : St w0 w L := ⟨h.below, h.has.2⟩
theorem St.swap {w0 w : World} {x y : Nat × List Value} {L : List (Nat × List Value)} (h : St w0 w (x :: y :: L)) : St w0 w (y :: x :: L) := ⟨h.below, h.has.2.1, h.has.1, h.has.2.2⟩
theorem St.second {w0 w : World} {x y : Nat × List Value} {L : List (Nat × List Value)} (h : St w0 w (x :: y :: L)) : St w0 w (x :: L) := ⟨h.below, h.has.1, h.has.2.2⟩
/-- An argument's cell, still there. -/
theorem St.arg {w0 w : World} {L : List (Nat × List Value)} (h : St w0 w L) {b o : Nat} {v : Value} (hb : b < w0.heap.size) (hc : w0.cell? ⟨b, o, none⟩ = some v) : b < w.heap.size ∧ w.cell? ⟨b, o, none⟩ = some v :=
  ⟨Nat.lt_of_lt_of_le hb h.below.size, (h.below.cell (p := ⟨b, o, none⟩) hb).trans hc⟩

/-- The world itself is forgotten: what is known of it stays. -/
theorem world {F : World → Prop} {w0 w : World} {L : List (Nat × List Value)} (h : St w0 w L) (hF : ∀ W, St w0 W L → F W) : F w := hF w h

/-- A store into one of its own blocks. -/
def upd (b i : Nat) (v : Value) : List (Nat × List Value) → List (Nat × List Value)
  | [] => []
  | x :: r => (if x.1 = b then (x.1, x.2.set i v) else x) :: upd b i v r
theorem cellsAt_set {w : World} {b k : Nat} {v : Value} : ∀ (l : List Value) (i : Nat), cellsAt w b i l → cellsAt (w.setCell ⟨b, i + k, none⟩ v) b i (l.set k v)
  | [], _, _ => trivial
  | x :: l, i, ⟨h1, h2, h3⟩ => by
    match k with
    | 0 =>
      refine ⟨World.cell?_setCell_same (u := x) _ _ _ h1, by rw [World.frozen?_setCell]; exact h2, ?_⟩
      have far : ∀ (l : List Value) (j : Nat), i < j → cellsAt w b j l → cellsAt (w.setCell ⟨b, i + 0, none⟩ v) b j l := by
        intro l
        induction l with
        | nil => exact fun _ _ _ => trivial
        | cons y l ih =>
          rintro j hj ⟨g1, g2, g3⟩
          exact ⟨by rw [World.cell?_setCell_other _ _ _ _ (by simp; try omega)]; exact g1, by rw [World.frozen?_setCell]; exact g2, ih (j + 1) (by omega) g3⟩
      exact far l (i + 1) (by omega) h3
    | k + 1 =>
      refine ⟨by rw [World.cell?_setCell_other _ _ _ _ (by simp)]; exact h1, by rw [World.frozen?_setCell]; exact h2, ?_⟩
      have := cellsAt_set (k := k) (v := v) l (i + 1) h3
      rwa [show i + 1 + k = i + (k + 1) by omega] at this
theorem Has.set {w : World} {b k : Nat} {v : Value} : ∀ (L : List (Nat × List Value)), Has w L → Has (w.setCell ⟨b, k, none⟩ v) (upd b k v L)
  | [], _ => trivial
  | x :: L, ⟨⟨h1, h2⟩, h3⟩ => by
    refine ⟨?_, Has.set L h3⟩
    by_cases e : x.1 = b
    · subst e
      rw [if_pos rfl]
      have := cellsAt_set (k := k) (v := v) _ _ h2
      rw [Nat.zero_add] at this
      exact ⟨by simpa using h1, this⟩
    · rw [if_neg e]
      exact ⟨by simpa using h1, cellsAt_keep (fun i => World.cell?_setCell_other _ _ _ _ (by simp only [ne_eq, Addr.mk.injEq, not_and]; exact fun h => absurd h.symm e)) (fun i => World.frozen?_setCell _ _ _ _) _ _ h2⟩
theorem St.set {w0 w : World} {L : List (Nat × List Value)} (h : St w0 w L) {b : Nat} (hb : w0.heap.size ≤ b) (k : Nat) (v : Value) : St w0 (w.setCell ⟨b, k, none⟩ v) (upd b k v L) :=
  ⟨h.below.setCell (p := ⟨b, k, none⟩) hb v, Has.set L h.has⟩

theorem u8_signed : IntKind.u8.signed = false := rfl
theorem u8_max : IntKind.u8.max = 255 := rfl
theorem u16_signed : IntKind.u16.signed = false := rfl
theorem u16_max : IntKind.u16.max = 65535 := rfl
theorem u64_signed : IntKind.u64.signed = false := rfl
theorem i64_signed : IntKind.i64.signed = true := rfl

/-- An ending that returns a number, by the number. -/
theorem ret_int {k : IntKind} {a b : Int} (h : a = b) : Ending.returned (.int k a) = .returned (.int k b) := by rw [h]
end Go.Proofs.Ytiafdnihgnjohaa.free
