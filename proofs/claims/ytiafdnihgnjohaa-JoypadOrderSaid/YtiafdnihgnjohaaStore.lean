/-
  A region whose order is drawn and in which one operation stores (a result that lies in memory) wherever the draw puts it, while the others read, or call functions that leave old memory alone; then a forced tail. It is walked once, in the order of the text. No conditions.
-/
import Derived.Test.YtiafdnihgnjohaaFree
namespace Go.Proofs.Ytiafdnihgnjohaa.store
open Go.RowKit Go.Sort

section
variable {P : Program} {ops : Array Oper} {md : Region.Mode} {D : Bool → World → Prop} {s : Nat}

/-- What one operation may leave: its value, and a world of the class. -/
def upon (P : Program) (D : World → Prop) (v : Value) : Result Next → Prop
  | .ok (.value u) w' => D w' ∧ u = v
  | .ok .skip w' => D w' ∧ v = undef
  | .ok (.enter f args) w' => Calls P f args w' fun e w'' => e = .returned v ∧ D w''
  | _ => False

/-- What operation k waits for; and all that stands ahead of operation s. -/
def deps (md : Region.Mode) (ops : Array Oper) (k : Nat) : List Nat := match ops[k]? with
  | some o => (o.after.toList.filter (Region.binds md)).map (·.on)
  | none => []
def ahead (md : Region.Mode) (ops : Array Oper) (s : Nat) : List Nat := (List.range ops.size).reverse.foldl (fun S k => if (k == s || S.contains k) = true then deps md ops k ++ S else S) []

theorem listed_ahead {n : Nat} {listed : Array Bool} (inv : HeadInv md ops n listed) {s : Nat} (hs : listed.getD s false = true) : ∀ j, j ∈ ahead md ops s → listed.getD j false = true := by
  have key : ∀ (l S : List Nat), (∀ x, x ∈ S → listed.getD x false = true) → ∀ x, x ∈ l.foldl (fun S k => if (k == s || S.contains k) = true then deps md ops k ++ S else S) S → listed.getD x false = true := by
    intro l
    induction l with
    | nil => exact fun S h x hx => h x hx
    | cons k l ih =>
      intro S h
      refine ih _ fun x hx => ?_
      dsimp only at hx
      by_cases hk : (k == s || S.contains k) = true
      · rw [if_pos hk] at hx
        have hl : listed.getD k false = true := by
          simp only [Bool.or_eq_true, beq_iff_eq, List.contains_iff_mem] at hk
          rcases hk with rfl | hk
          · exact hs
          · exact h k hk
        rcases List.mem_append.1 hx with hx | hx
        · unfold deps at hx
          split at hx
          · rename_i o ho
            obtain ⟨e, he, rfl⟩ := List.mem_map.1 hx
            have := List.mem_filter.1 he
            exact inv.closed k o ho hl e (by simpa using this.1) this.2
          · cases hx
        · exact h x hx
      · rw [if_neg hk] at hx
        exact h x hx
  exact key _ [] (fun x hx => by cases hx)

/-- Operation number j: the storing one takes the class 'not yet' to 'done'; one for which it waits meets the first alone; another keeps either. -/
def step (P : Program) (md : Region.Mode) (ops : Array Oper) (D : Bool → World → Prop) (s j : Nat) (o : Oper) (a : Act) (v : Value) : Prop :=
  if j = s then ∀ w, D false w → upon P (D true) v ((execOp a.eval o).run P w)
  else if (ahead md ops s).contains j = true then ∀ w, D false w → upon P (D false) v ((execOp a.eval o).run P w)
  else ∀ b w, D b w → upon P (D b) v ((execOp a.eval o).run P w)

def walk (P : Program) (md : Region.Mode) (ops : Array Oper) (D : Bool → World → Prop) (s : Nat) (Q : Act → Prop) : Nat → List Oper → Act → Prop
  | _, [], a => Q a
  | j, o :: rest, a => if Region.wanted o (yielded ops a.tmps) = true then ∃ v, step P md ops D s j o a v ∧ walk P md ops D s Q (j + 1) rest (a.put o.dst v) else j ≠ s ∧ walk P md ops D s Q (j + 1) rest (a.put o.dst undef)

def yields (P : Program) (md : Region.Mode) (ops : Array Oper) (D : Bool → World → Prop) (s j : Nat) (o : Oper) (v : Value) (a : Act) : Prop :=
  (Region.wanted o (yielded ops a.tmps) = true ∧ step P md ops D s j o a v) ∨ (Region.wanted o (yielded ops a.tmps) = false ∧ j ≠ s ∧ v = undef)

def sOp (P : Program) (md : Region.Mode) (ops : Array Oper) (D : Bool → World → Prop) (s j : Nat) (K : Act → Prop) (a : Act) : Prop := ∃ o v, ops[j]? = some o ∧ yields P md ops D s j o v a ∧ K (a.put o.dst v)

theorem sOp_mono {j : Nat} {K K' : Act → Prop} {a : Act} (h : ∀ a, K a → K' a) : sOp P md ops D s j K a → sOp P md ops D s j K' a :=
  fun ⟨o, v, h1, h2, h3⟩ => ⟨o, v, h1, h2, h _ h3⟩

theorem wp_of_upon {o : Oper} {a : Act} {v : Value} {E : World → Prop} {K : Act → World → Prop} {Q : Exit → Act → World → Prop} {w : World} (h : upon P E v ((execOp a.eval o).run P w)) (hK : ∀ w', E w' → K (a.put o.dst v) w') : o.wp P a w K Q := by
  unfold Oper.wp
  generalize (execOp a.eval o).run P w = r at *
  cases r with
  | ok n w' =>
    cases n <;> simp only [upon] at h <;> simp only [Oper.upon]
    case value u => rw [h.2]; exact hK _ h.1
    case skip => rw [← h.2]; exact hK _ h.1
    case enter f args => exact h.mono fun e w'' ⟨he, hw⟩ => by subst he; exact hK _ hw
  | halt x w' => simp only [upon] at h

theorem wpOp_of_sOp {j : Nat} {a : Act} {K : Act → Prop} {K' : Act → World → Prop} {Q : Exit → Act → World → Prop} {w : World} {b : Bool} (hw : D b w) (hb : j = s → b = false) (hb2 : (ahead md ops s).contains j = true → b = false)
    (hK : ∀ a w', D (b || decide (j = s)) w' → K a → K' a w') (h : sOp P md ops D s j K a) : wpOp P ops Q j K' a w := by
  obtain ⟨o, v, ho, hy, hk⟩ := h
  unfold wpOp
  simp only [ho]
  rcases hy with ⟨hw1, hst⟩ | ⟨hw1, hne, rfl⟩
  · rw [if_pos hw1]
    left
    unfold step at hst
    by_cases e : j = s
    · have eb := hb e
      subst eb
      rw [if_pos e] at hst
      exact wp_of_upon (hst w hw) fun w' hw' => hK _ _ (by simpa [e] using hw') hk
    · rw [if_neg e] at hst
      by_cases g : (ahead md ops s).contains j = true
      · rw [if_pos g] at hst
        have eb := hb2 g
        subst eb
        exact wp_of_upon (hst w hw) fun w' hw' => hK _ _ (by simpa [e] using hw') hk
      · rw [if_neg g] at hst
        exact wp_of_upon (hst b w hw) fun w' hw' => hK _ _ (by simpa [e] using hw') hk
  · rw [if_neg (by simp [hw1])]
    exact hK _ _ (by simpa [hne] using hw) hk

def head (P : Program) (md : Region.Mode) (ops : Array Oper) (D : Bool → World → Prop) (s n : Nat) (L : Array Bool → Act → Prop) : Nat → Array Bool → Act → Prop
  | 0, listed, a => L listed a
  | f + 1, listed, a => Region.ready md ops listed ≠ [] ∧ ∀ i ∈ Region.ready md ops listed, i < n ∧ sOp P md ops D s i (head P md ops D s n L f (listed.setIfInBounds i true)) a

theorem getD_set_same {listed : Array Bool} {i : Nat} (h : listed.getD i true = false) : (listed.setIfInBounds i true).getD i false = true := by
  rcases Nat.lt_or_ge i listed.size with h' | h'
  · simp [h']
  · simp [Array.getElem?_eq_none h'] at h

theorem any_of_head {n g : Nat} {L : Array Bool → Act → Prop} {Q : Exit → Act → World → Prop} (hL : ∀ listed a w, D (listed.getD s false) w → L listed a → wpAny P md ops Q g listed a w) :
    ∀ (f : Nat) (listed : Array Bool) (a : Act) (w : World), HeadInv md ops n listed → D (listed.getD s false) w → head P md ops D s n L f listed a → wpAny P md ops Q (f + g) listed a w := by
  intro f
  induction f with
  | zero => intro listed a w _ hw h; rw [Nat.zero_add]; exact hL _ _ _ hw h
  | succ f ih =>
    intro listed a w inv hw h
    rw [show f + 1 + g = (f + g) + 1 by omega]
    refine ⟨fun h0 => absurd h0 h.1, fun i hi => ?_⟩
    have hun := (mem_ready.1 hi).1
    refine wpOp_of_sOp hw (fun e => by subst e; exact getD_both hun) (fun hwait => ?_) (fun a' w' hw' hh => ih _ a' w' (inv.set hi (h.2 i hi).1) ?_ hh) (h.2 i hi).2
    · cases hl : listed.getD s false with
      | false => rfl
      | true =>
        have h2 := listed_ahead inv hl i (by simpa using hwait)
        rw [getD_both hun] at h2
        cases h2
    by_cases e : i = s
    · subst e
      rw [getD_set_same hun]
      simpa using hw'
    · rw [getD_set_ne false e]
      simpa [e] using hw'

theorem step_same {j : Nat} {o : Oper} {v : Value} {a a' : Act} (he : execOp a'.eval o = execOp a.eval o) (h : step P md ops D s j o a v) : step P md ops D s j o a' v := by
  unfold step at *
  rw [he]; exact h

/-- Two operations apart from each other: either may come first. -/
theorem sOp_put {i j : Nat} {oi oj : Oper} {v : Value} (hj : ops[j]? = some oj) (hap : oi.apart ops oj = true) (hsi : ∀ cs b, oi.op ≠ .select cs b) (hsj : ∀ cs b, oj.op ≠ .select cs b) {K : Act → Prop} {a : Act}
    (hy : yields P md ops D s i oi v a) (h : sOp P md ops D s j K (a.put oi.dst v)) : sOp P md ops D s j (fun a' => yields P md ops D s i oi v a' ∧ K (a'.put oi.dst v)) a := by
  obtain ⟨h1, h2, h3⟩ := Oper.apart_spec hap
  obtain ⟨o', u, ho', hu, hK⟩ := h
  have e : o' = oj := Option.some.inj (ho'.symm.trans hj)
  subst e
  have ex := execOp_put o' hsj a oi.dst v h1
  have wa := wanted_put o' a oi.dst v h1
  refine ⟨o', u, hj, ?_, ?_, by rw [← Act.put_comm a v u h2]; exact hK⟩
  · rcases hu with ⟨hw, hs⟩ | ⟨hw, hs⟩
    · exact .inl ⟨wa ▸ hw, step_same ex.symm hs⟩
    · exact .inr ⟨wa ▸ hw, hs⟩
  · have ex' := execOp_put oi hsi a o'.dst u h3
    have wa' := wanted_put oi a o'.dst u h3
    rcases hy with ⟨hw, hs⟩ | ⟨hw, hs⟩
    · exact .inl ⟨wa'.trans hw, step_same ex' hs⟩
    · exact .inr ⟨wa'.trans hw, hs⟩

theorem head_first {n i : Nat} {o : Oper} {v : Value} {L : Array Bool → Act → Prop} (ho : ops[i]? = some o) (hsel : Region.noSelect ops = true)
    (hs : Region.sinkB md ops n = true) (hc : Region.chainB md ops n = true) (hn : n < ops.size) (hin : i < n) (hend : ∀ listed a, L listed a → ∀ j ∈ Region.ready md ops listed, n ≤ j) :
    ∀ (f : Nat) (listed : Array Bool) (a : Act), HeadInv md ops n listed →
      (∀ j oj, ops[j]? = some oj → j ≠ i → listed.getD j true = false → (∀ e ∈ oj.after, Region.binds md e = true → e.on ≠ i) → o.apart ops oj = true) →
      i ∈ Region.ready md ops listed → yields P md ops D s i o v a → head P md ops D s n L f (listed.setIfInBounds i true) (a.put o.dst v) → head P md ops D s n L (f + 1) listed a := by
  have sel := Region.noSelect_spec hsel
  intro f
  induction f with
  | zero =>
    intro listed a inv _ hr hy H
    refine ⟨fun h0 => (by rw [h0] at hr; cases hr), fun j hj => ?_⟩
    have hjn := Nat.lt_of_not_le fun hjn => tail_waits hs hc hn inv _ i rfl hin (mem_ready.1 hr).1 j hjn hj
    refine ⟨hjn, ?_⟩
    by_cases e : j = i
    · subst e; exact ⟨o, v, ho, hy, H⟩
    · exact absurd (hend _ _ H j (ready_mono hj e)) (Nat.not_le.2 hjn)
  | succ f ih =>
    intro listed a inv hap hr hy H
    have hjn : ∀ j ∈ Region.ready md ops listed, j < n := fun j hj => Nat.lt_of_not_le fun h => tail_waits hs hc hn inv _ i rfl hin (mem_ready.1 hr).1 j h hj
    refine ⟨fun h0 => (by rw [h0] at hr; cases hr), fun j hj => ⟨hjn j hj, ?_⟩⟩
    by_cases e : j = i
    · subst e; exact ⟨o, v, ho, hy, H⟩
    · obtain ⟨hun, oj, hoj, hall⟩ := mem_ready.1 hj
      have hno : ∀ x ∈ oj.after, Region.binds md x = true → x.on ≠ i := fun x hx hb he => by
        have h1 := hall x hx hb
        rw [he, getD_both (mem_ready.1 hr).1] at h1
        cases h1
      refine sOp_mono (fun a' h3 => ih (listed.setIfInBounds j true) a' (inv.set hj (hjn j hj)) (fun k ok hk hki hu hnk => hap k ok hk hki ?_ hnk) (ready_mono hr (Ne.symm e)) h3.1 ?_)
        (sOp_put hoj (hap j oj hoj e hun hno) (fun cs b => sel i o cs b ho) (fun cs b => sel j oj cs b hoj) hy (H.2 j (ready_mono hj e)).2)
      · by_cases hjk : j = k
        · subst hjk; exact hun
        · rw [getD_set_ne true hjk] at hu; exact hu
      · rw [Array.setIfInBounds_comm _ _ e]; exact h3.2

theorem head_lex {n g : Nat} {F : Act → Prop} (hsel : Region.noSelect ops = true) (hs : Region.sinkB md ops n = true) (hc : Region.chainB md ops n = true) (hn : n < ops.size) :
    ∀ (l : List Oper) (k : Nat) (listed : Array Bool) (a : Act), (∀ j, j < l.length → l[j]? = ops[k + j]?) → k + l.length = n → HeadInv md ops n listed → Region.lexHead md ops g l.length k listed = true → (s < k → listed.getD s false = true) →
      walk P md ops D s F k l a → head P md ops D s n (fun listed' a' => (Region.seqB md ops g n listed' = true ∧ (s < n → listed'.getD s false = true)) ∧ F a') l.length listed a := by
  intro l
  induction l with
  | nil =>
    intro k listed a _ hk _ hB hl h
    have e : k = n := by simpa using hk
    subst e
    exact ⟨⟨by simpa [Region.lexHead] using hB, hl⟩, h⟩
  | cons o l ih =>
    intro k listed a hl hk inv hB hst h
    have h0 : ops[k]? = some o := by simpa using (hl 0 (by simp)).symm
    simp only [List.length_cons, Region.lexHead, Bool.and_eq_true] at hB hk
    have hr : k ∈ Region.ready md ops listed := by simpa using hB.1.1
    have hy : ∃ v, yields P md ops D s k o v a ∧ walk P md ops D s F (k + 1) l (a.put o.dst v) := by
      unfold walk at h
      split at h
      · rename_i hw
        obtain ⟨v, h1, h2⟩ := h
        exact ⟨v, .inl ⟨hw, h1⟩, h2⟩
      · rename_i hw
        exact ⟨undef, .inr ⟨by simpa using hw, h.1, rfl⟩, h.2⟩
    obtain ⟨v, hy, hK⟩ := hy
    refine head_first h0 hsel hs hc hn (by omega) (fun _ _ hL => seqB_ready hL.1.1) l.length listed a inv (Region.free_spec h0 hB.1.2) hr hy
      (ih (k + 1) _ _ (fun j hj => by have := hl (j + 1) (by simp; omega); simpa [Nat.add_assoc, Nat.add_comm 1 j] using this) (by omega) (inv.set hr (by omega)) hB.2 (fun hs' => ?_) hK)
    by_cases e : k = s
    · subst e; exact getD_set_same (mem_ready.1 hr).1
    · rw [getD_set_ne false e]; exact hst (by omega)

theorem wp_region_store {id : Nat} {Q : Exit → Act → World → Prop} {a : Act} {w : World} {l : List Oper} (n s : Nat) (hsn : s < n) (hm : P.follows .mixedOrders = true) (hB : Region.lexTailB .any l.toArray n = true) (hC : D false { w with drawn := w.drawn + 1 })
    (h : walk P .any l.toArray D s (fun a' => ∀ w', D true w' → wpList P l.toArray Q (l.drop n) a' w') 0 (l.take n) a) : (Code.region id l.toArray true).wp P Q a w := by
  simp only [Region.lexTailB, Bool.and_eq_true, decide_eq_true_eq] at hB
  obtain ⟨⟨⟨⟨hsel, hn⟩, hs⟩, hc⟩, hlex⟩ := hB
  have hn' : n < l.length := by simpa using hn
  have htl : (l.take n).length = n := by simp; omega
  have hdl : (l.drop n).length = l.toArray.size - n := by simp
  have inv : HeadInv .any l.toArray n (Array.replicate l.toArray.size false) :=
    ⟨by simp, fun j oj _ hl => (by rw [getD_replicate_false] at hl; cases hl), fun t _ ht => getD_in (by simpa using ht) (getD_replicate_false _ _)⟩
  have H := head_lex (md := .any) (g := l.toArray.size - n) hsel hs hc hn (l.take n) 0 _ a (fun j hj => by rw [htl] at hj; simp [hj]) (by simpa using htl) inv (by rw [htl]; exact hlex) (fun h => absurd h (by omega)) h
  refine wp_region_any hm ?_
  have R := any_of_head (Q := Q) (g := l.toArray.size - n) (fun listed a' w' hw' hL => by
    rw [hL.1.2 hsn] at hw'
    have := wpAny_of_seq (md := .any) (Q' := Q) (l.drop n) n listed a' w' (fun j => by simp [List.getElem?_drop]) (by rw [hdl]; exact hL.1.1) (hL.2 w' hw')
    rwa [hdl] at this) _ _ _ _ inv (by rw [getD_replicate_false]; exact hC) H
  rw [htl, show n + (l.toArray.size - n) = l.toArray.size by omega] at R
  exact R
end

/-- The class: old memory is as in w, or, once the store is done, as in f w. -/
def saved (w fw : World) (b : Bool) (w' : World) : Prop := Below w.heap.size (cond b fw w) w'

theorem walk_step {P : Program} {md : Region.Mode} {ops : Array Oper} {D : Bool → World → Prop} {s j : Nat} {Q : Act → Prop} {o : Oper} {rest : List Oper} {a : Act}
    (h : ∀ K : Act → Prop, (∀ a, walk P md ops D s Q (j + 1) rest a → K a) → if Region.wanted o (yielded ops a.tmps) = true then ∃ v, step P md ops D s j o a v ∧ K (a.put o.dst v) else j ≠ s ∧ K (a.put o.dst undef)) : walk P md ops D s Q j (o :: rest) a :=
  h _ fun _ h => h

theorem step_store {P : Program} {md : Region.Mode} {ops : Array Oper} {D : Bool → World → Prop} {s j : Nat} {o : Oper} {a : Act} {v : Value} (hj : j = s) (h : ∀ w, D false w → upon P (D true) v ((execOp a.eval o).run P w)) : step P md ops D s j o a v := by
  unfold step; rw [if_pos hj]; exact h
theorem step_ahead {P : Program} {md : Region.Mode} {ops : Array Oper} {D : Bool → World → Prop} {s j : Nat} {o : Oper} {a : Act} {v : Value} (hj : j ≠ s) (hw : (ahead md ops s).contains j = true) (h : ∀ w, D false w → upon P (D false) v ((execOp a.eval o).run P w)) : step P md ops D s j o a v := by
  unfold step; rw [if_neg hj, if_pos hw]; exact h
theorem step_other {P : Program} {md : Region.Mode} {ops : Array Oper} {D : Bool → World → Prop} {s j : Nat} {o : Oper} {a : Act} {v : Value} (hj : j ≠ s) (h : ∀ b w, D b w → upon P (D b) v ((execOp a.eval o).run P w)) : step P md ops D s j o a v := by
  unfold step; rw [if_neg hj]
  split
  · exact h false
  · exact h

/-- A call among them: the callee's contract ends in 'Below'. -/
theorem upon_call {P : Program} {w fw : World} {w' : World} {f : FuncId} {args : Array Value} {v : Value} (hw : Below w.heap.size w w') (h : Calls P f args w' fun e w'' => e = .returned v ∧ Below w'.heap.size w' w'') :
    upon P (saved w fw false) v (.ok (.enter f args) w') :=
  h.mono fun _ _ ⟨he, hb⟩ => ⟨he, hw.trans (hb.mono hw.size)⟩

/-- The region, at that class. -/
theorem wp_region_save {P : Program} {id : Nat} {Q : Exit → Act → World → Prop} {a : Act} {w : World} {l : List Oper} (n s : Nat) (fw : World) (hsn : s < n) (hm : P.follows .mixedOrders = true) (hB : Region.lexTailB .any l.toArray n = true)
    (h : walk P .any l.toArray (saved w fw) s (fun a' => ∀ w', Below w.heap.size fw w' → wpList P l.toArray Q (l.drop n) a' w') 0 (l.take n) a) : (Code.region id l.toArray true).wp P Q a w :=
  wp_region_store (D := saved w fw) n s hsn hm hB ((Below.refl _ _).drew) h

/-- A store into old memory, in a world that has only grown. -/
theorem below_set {N : Nat} {w w' : World} (h : Below N w w') (a : Addr) (v : Value) : Below N (w.setCell a v) (w'.setCell a v) := by
  refine ⟨h.os, h.tape, h.output, by simpa using h.size, fun k hk => ?_⟩
  simp only [World.setCell, Array.getElem?_modify, h.block k hk]
end Go.Proofs.Ytiafdnihgnjohaa.store
