/-
  The walk by computing, as it is used: from a tree to a contract. Conditions stand in each theorem.
-/
import Derived.Test.YtmbahohmiecfiaaSym8
namespace Go.Proofs.Ytmbahohmiecfiaa.sym
open Go.RowKit

/-- What is asked of a program once. -/
structure Base (P : Program) (eqT : TypeId → Bool) : Prop where
  mixed : P.follows .mixedOrders = true
  names : NamesOk P
  eqs : EqOk P eqT
theorem names_of {P : Program} (h : (P.funcs.all fun fn => fn.body.isNone || !(fn.name == "runtime.NumGoroutine")) = true) : NamesOk P := by
  intro f fn hf hb
  have h1 := Array.all_eq_true'.1 h fn (Array.mem_of_getElem? hf)
  simp only [Bool.or_eq_true, Bool.not_eq_true'] at h1
  rcases h1 with h1 | h1
  · cases hh : fn.body <;> simp_all
  · exact h1
/-- Contracts, from a world on. -/
structure Ctrs (P : Program) (w0 : World) (ctr : FuncId → List AV → List Blk → Option (T AV × Option Nat)) : Prop where
  ok : CtrOk P w0 ctr
  there : CtrThere P ctr
def noCtr : FuncId → List AV → List Blk → Option (T AV × Option Nat) := fun _ _ _ => none
def noPre : FuncId → List AV → List Blk → Option (T (AV × List Blk)) := fun _ _ _ => none
theorem pre_none (P : Program) (w0 : World) : PreOk P w0 noPre := fun _ _ _ _ h => by (cases h)
def noLoop : FuncId → Nat → ASt → Option (Code × T (Ex × ASt)) := fun _ _ _ => none
theorem ctrs_none (P : Program) (w0 : World) : Ctrs P w0 noCtr := ⟨fun _ _ _ _ _ h => by (cases h), fun _ _ _ _ h => by (cases h)⟩
theorem loops_none (P : Program) (w0 : World) : LcsOk P w0 noLoop := fun _ _ _ _ _ h => by (cases h)

theorem AV.γ_any {bs bs' : List Nat} {x : AV} (h : x.wf (lt 0) = true) : x.γ bs = x.γ bs' := AV.γ_like (like_none _ _) h
/-- A value that says all by itself. -/
def AV.own (x : AV) : Bool := x.wf (lt 0) && match x with | .any => false | _ => true
theorem AV.own_wf {x : AV} (h : x.own = true) : x.wf (lt 0) = true := by
  unfold AV.own at h
  simp only [Bool.and_eq_true] at h
  exact h.1
theorem AV.own_ne {x : AV} (h : x.own = true) : x ≠ .any := by
  rintro rfl
  simp [AV.own] at h
theorem args_wf {args : List AV} (h : args.all AV.own = true) : ∀ (j : Nat) (y : AV), args[j]? = some y → y.Is [] ((args.map (AV.γ [])).getD j undef) ∧ y.wf (lt ([] : List Blk).length) = true := by
  intro j y hj
  refine ⟨?_, AV.own_wf (List.all_eq_true.1 h y (List.mem_of_getElem? hj))⟩
  rw [List.getD_eq_getElem?_getD, List.getElem?_map, hj]
  exact AV.is_refl [] y
theorem calls_tree {P : Program} {eqT : TypeId → Bool} (B : Base P eqT) {w : World} {ctr : FuncId → List AV → List Blk → Option (T AV × Option Nat)} (C : Ctrs P w ctr) {pre : FuncId → List AV → List Blk → Option (T (AV × List Blk))} (hP : PreOk P w pre) {lc : FuncId → Nat → ASt → Option (Code × T (Ex × ASt))} (L : LcsOk P w lc)
    {n : Nat} {f : FuncId} {args : List AV} {t : T (AV × List Blk)} (e : callT P w eqT ctr pre lc n f args [] = t) (ha : args.all AV.own = true) {R : Value → Prop} (h : t.holds fun r => r.1.own = true ∧ R (r.1.γ [])) :
    Calls P f (args.map (AV.γ [])).toArray w fun e w' => ∃ u, e = .returned u ∧ R u ∧ Below w.heap.size w w' := by
  subst e
  refine ((callT_ok B.mixed B.names B.eqs C.ok C.there hP L n f args [] _ h).2 [] (args.map (AV.γ [])) (by simp) (args_wf ha) w (Rep.start w)).mono fun e w' ⟨u, x, _, more, he, ⟨ho, hR⟩, hu, hrep⟩ => ⟨u, he, ?_, hrep.below⟩
  rw [hu.eq (AV.own_ne ho), AV.γ_any (bs' := []) (AV.own_wf ho)]
  exact hR
theorem calls_eq {P : Program} {eqT : TypeId → Bool} (B : Base P eqT) {w : World} {ctr : FuncId → List AV → List Blk → Option (T AV × Option Nat)} (C : Ctrs P w ctr) {pre : FuncId → List AV → List Blk → Option (T (AV × List Blk))} (hP : PreOk P w pre) {lc : FuncId → Nat → ASt → Option (Code × T (Ex × ASt))} (L : LcsOk P w lc)
    {n : Nat} {f : FuncId} {args : List AV} {t : T (AV × List Blk)} (e : callT P w eqT ctr pre lc n f args [] = t) (ha : args.all AV.own = true) {v : Value} (h : t.holds fun r => r.1.own = true ∧ r.1.γ [] = v) :
    Calls P f (args.map (AV.γ [])).toArray w fun e w' => e = .returned v ∧ Below w.heap.size w w' :=
  (calls_tree (R := fun u => u = v) B C hP L e ha h).mono fun _ _ ⟨u, he, hu, hb⟩ => ⟨by rw [he, hu], hb⟩
/-- One side of a fork. -/
def T.thn {α : Type} : T α → T α
  | .br _ t _ => t
  | t => t
def T.els {α : Type} : T α → T α
  | .br _ _ e => e
  | t => t
/-- Behind what is asked. -/
def T.nxt {α : Type} : T α → T α
  | .chk _ t => t
  | t => t
theorem T.br_t {α : Type} {c : Bool} {t e : T α} {K : α → Prop} (h : c = true) (ht : t.holds K) : (T.br c t e).holds K := ⟨fun _ => ht, fun hf => absurd (h.symm.trans hf) (by simp)⟩
theorem T.br_f {α : Type} {c : Bool} {t e : T α} {K : α → Prop} (h : c = false) (he : e.holds K) : (T.br c t e).holds K := ⟨fun hf => absurd (h.symm.trans hf) (by simp), fun _ => he⟩
/-- The value alone. -/
def callV (P : Program) (w0 : World) (eqT : TypeId → Bool) (ctr : FuncId → List AV → List Blk → Option (T AV × Option Nat)) (pre : FuncId → List AV → List Blk → Option (T (AV × List Blk))) (lc : FuncId → Nat → ASt → Option (Code × T (Ex × ASt))) (n : Nat) (f : FuncId) (args : List AV) : T AV := (callT P w0 eqT ctr pre lc n f args []).map (·.1)
theorem val_eq {P : Program} {eqT : TypeId → Bool} (B : Base P eqT) {w : World} {ctr : FuncId → List AV → List Blk → Option (T AV × Option Nat)} (C : Ctrs P w ctr) {pre : FuncId → List AV → List Blk → Option (T (AV × List Blk))} (hP : PreOk P w pre) {lc : FuncId → Nat → ASt → Option (Code × T (Ex × ASt))} (L : LcsOk P w lc)
    {n : Nat} {f : FuncId} {args : List AV} {t : T AV} (e : callV P w eqT ctr pre lc n f args = t) (ha : args.all AV.own = true) {v : Value} (h : t.holds fun x => x.own = true ∧ x.γ [] = v) :
    Calls P f (args.map (AV.γ [])).toArray w fun e w' => e = .returned v ∧ Below w.heap.size w w' := by
  subst e
  unfold callV at h
  rw [T.holds_map] at h
  exact calls_eq B C hP L rfl ha h
/-- A function's contract, of arguments that say all by themselves: what it is asked, and what it comes to. -/
structure Ctr where
  f : FuncId
  ask : List AV → Option (T AV)
/-- It is so. -/
def Ctr.ok (P : Program) (w0 : World) (c : Ctr) : Prop :=
  (∃ fn, P.funcs[c.f]? = some fn ∧ fn.body.isSome = true) ∧ ∀ args t, c.ask args = some t → args.all AV.own = true ∧ ∀ K, t.holds K → ∃ x : AV, K x ∧ x.own = true ∧ ∀ w, Below w0.heap.size w0 w → Calls P c.f (args.map (AV.γ [])).toArray w fun e w' => e = .returned (x.γ []) ∧ Below w.heap.size w w'
def ctrOf (l : List Ctr) (f : FuncId) (args : List AV) (_ : List Blk) : Option (T AV × Option Nat) := match l.find? (fun c => c.f == f) with
  | some c => match c.ask args with
    | some t => some (t, none)
    | none => none
  | none => none
theorem ctrs_of {P : Program} {w0 : World} {l : List Ctr} (h : ∀ c ∈ l, c.ok P w0) : Ctrs P w0 (ctrOf l) := by
  refine ⟨fun f args hh t0 ro0 ht K hK => ?_, fun f args hh t0 ht => ?_⟩
  · unfold ctrOf at ht
    split at ht
    · rename_i c hc
      split at ht
      case h_2 => cases ht
      rename_i t hask
      have ht0 : some (t, (none : Option Nat)) = some (t0, ro0) := ht
      injection ht0 with ht0
      injection ht0 with ht1 ht2
      subst ht1
      have ht := hask
      have hm := List.mem_of_find?_eq_some hc
      have hf : c.f = f := by have := List.find?_some hc; simpa using this
      subst hf
      obtain ⟨_, h2⟩ := h c hm
      obtain ⟨ho, h3⟩ := h2 args t ht
      obtain ⟨x, hx, hxo, hcall⟩ := h3 K hK
      refine ⟨x, hx, AV.own_ne hxo, fun bs us hlen hus w hb _ => ?_⟩
      have eu : us = args.map (AV.γ []) := by
        apply List.ext_getElem?
        intro j
        rw [List.getElem?_map]
        cases hj : args[j]? with
        | none => rw [List.getElem?_eq_none (by rw [hlen]; exact List.getElem?_eq_none_iff.1 hj)]; rfl
        | some y =>
          have hlt : j < us.length := by rw [hlen]; exact (List.getElem?_eq_some_iff.1 hj).1
          have hy := hus j y hj
          have hyo := List.all_eq_true.1 ho y (List.mem_of_getElem? hj)
          rw [List.getD_eq_getElem?_getD, List.getElem?_eq_getElem hlt] at hy
          rw [List.getElem?_eq_getElem hlt]
          have e1 := hy.eq (AV.own_ne hyo)
          simp only [Option.getD_some] at e1
          rw [e1, AV.γ_any (bs' := []) (AV.own_wf hyo)]
          rfl
      rw [eu]
      refine (hcall w hb).mono fun e w' ⟨he, hb⟩ => ⟨?_, hb⟩
      rw [he, AV.γ_any (bs := bs) (bs' := []) (AV.own_wf hxo)]
    · cases ht
  · unfold ctrOf at ht
    split at ht
    · rename_i c hc
      have hm := List.mem_of_find?_eq_some hc
      have hf : c.f = f := by have := List.find?_some hc; simpa using this
      subst hf
      exact (h c hm).1
    · cases ht
end Go.Proofs.Ytmbahohmiecfiaa.sym
