/-
  The walk by computing: rounds whose number is not told. A family of states that a round keeps, a measure, and what stands behind. Conditions stand in each theorem.
-/
import Derived.Test.YthfloebldapfbaaSym9
import Derived.LoopN
namespace Go.Proofs.Ythfloebldapfbaa.sym
open Go.RowKit

/-! ### One state says no more than another -/
def beqCaps : List (Nat × Nat) → List (Nat × Nat) → Bool
  | [], [] => true
  | (a, b) :: l, (c, d) :: m => Nat.beq a c && (Nat.beq b d && beqCaps l m)
  | _, _ => false
theorem beqCaps_eq : ∀ {l m : List (Nat × Nat)}, beqCaps l m = true → l = m
  | [], [], _ => rfl
  | (a, b) :: l, (c, d) :: m, h => by
    simp only [beqCaps, Bool.and_eq_true] at h
    obtain ⟨h1, h2, h3⟩ := h
    rw [Nat.eq_of_beq_eq_true h1, Nat.eq_of_beq_eq_true h2, beqCaps_eq h3]
  | [], _ :: _, h => by simp [beqCaps] at h
  | _ :: _, [], h => by simp [beqCaps] at h
def leqSc {α : Type} : Sc → Sc → T α → T α
  | .int _ k n, .int _ k' m, t => match kinOne (.int true k 0) (.int true k' 0) with
    | true => .chk (k = k' ∧ n = m) t
    | false => .fail "kind"
  | .bool _ b, .bool _ b', t => .chk (b = b') t
  | .ptr r o, .ptr r' o', t => match Nat.beq r r' && Nat.beq o o' with
    | true => t
    | false => .fail "place"
  | .nil, .nil, t => t
  | .nilfn, .nilfn, t => t
  | .nos, .nos, t => t
  | .fn f l, .fn f' l', t => match Nat.beq f f' && beqCaps l l' with
    | true => t
    | false => .fail "fn"
  | .xp a c z n i j, .xp a' c' z' n' i' j', t => .chk (a = a' ∧ c = c' ∧ z = z' ∧ n = n' ∧ i = i' ∧ j = j') t
  | .xs a c n l k, .xs a' c' n' l' k', t => .chk (a = a' ∧ c = c' ∧ n = n' ∧ l = l' ∧ k = k') t
  | .os r o l k, .os r' o' l' k', t => .chk (r = r' ∧ o = o' ∧ l = l' ∧ k = k') t
  | .val v, .val v', t => .chk (v = v') t
  | _, _, _ => .fail "kin"
def leqL {α : Type} : List Sc → List Sc → T α → T α
  | [], [], t => t
  | a :: l, b :: m, t => leqSc a b (leqL l m t)
  | _, _, _ => .fail "cells"
def leqV {α : Type} : V → V → T α → T α
  | .one a, .one b, t => leqSc a b t
  | .agg l, .agg m, t => leqL l m t
  | _, _, _ => .fail "one"
def leqVs {α : Type} : List V → List V → T α → T α
  | [], [], t => t
  | a :: l, b :: m, t => leqV a b (leqVs l m t)
  | _, _, _ => .fail "values"
def leqAV {α : Type} : AV → AV → T α → T α
  | _, .any, t => t
  | .v x, .v y, t => leqV x y t
  | .tuple l, .tuple m, t => leqVs l m t
  | .undef, .undef, t => t
  | _, _, _ => .fail "slot"
def leqTs {α : Type} : List AV → List AV → T α → T α
  | [], [], t => t
  | a :: l, b :: m, t => leqAV a b (leqTs l m t)
  | _, _, _ => .fail "slots"
def leqH {α : Type} : List Blk → List Blk → T α → T α
  | _, [], t => t
  | a :: l, b :: m, t => match Nat.beq a.t b.t with
    | true => leqL a.cells b.cells (leqH l m t)
    | false => .fail "type"
  | [], _ :: _, _ => .fail "blocks"
def leqT {α : Type} (s s' : ASt) (t : T α) : T α := leqTs s.ts s'.ts (leqH s.h s'.h t)

def SEq (a b : Sc) : Prop := ∀ bs, a.γ bs = b.γ bs
def VEq (a b : V) : Prop := ∀ bs, a.γ bs = b.γ bs
def ALe (x y : AV) : Prop := y = .any ∨ (x ≠ .any ∧ y ≠ .any ∧ ∀ bs, x.γ bs = y.γ bs)
inductive All2 {α β : Type} (R : α → β → Prop) : List α → List β → Prop
  | nil : All2 R [] []
  | cons {a b l m} : R a b → All2 R l m → All2 R (a :: l) (b :: m)
theorem All2.length {α β : Type} {R : α → β → Prop} {l : List α} {m : List β} (h : All2 R l m) : l.length = m.length := by
  induction h with
  | nil => rfl
  | cons _ _ ih => simp [ih]
theorem All2.get {α β : Type} {R : α → β → Prop} {l : List α} {m : List β} (h : All2 R l m) : ∀ (i : Nat) (b : β), m[i]? = some b → ∃ a, l[i]? = some a ∧ R a b := by
  induction h with
  | nil => intro i b hb; simp at hb
  | cons h1 _ ih =>
    intro i b hb
    cases i with
    | zero => simp at hb; subst hb; exact ⟨_, rfl, h1⟩
    | succ i => exact ih i b (by simpa using hb)
theorem All2.map_eq {α β γ : Type} {f : α → γ} {g : β → γ} {l : List α} {m : List β} (h : All2 (fun a b => f a = g b) l m) : l.map f = m.map g := by
  induction h with
  | nil => rfl
  | cons h1 _ ih => simp [h1, ih]
theorem All2.imp {α β : Type} {R S : α → β → Prop} (hi : ∀ a b, R a b → S a b) {l : List α} {m : List β} (h : All2 R l m) : All2 S l m := by
  induction h with
  | nil => exact .nil
  | cons h1 _ ih => exact .cons (hi _ _ h1) ih

theorem leqSc_ok {α : Type} {t : T α} {K : α → Prop} : ∀ {a b : Sc}, (leqSc a b t).holds K → SEq a b ∧ t.holds K := by
  intro a b h
  unfold leqSc at h
  split at h
  · split at h
    · obtain ⟨⟨rfl, rfl⟩, h⟩ := h
      exact ⟨fun _ => rfl, h⟩
    · exact h.elim
  · obtain ⟨rfl, h⟩ := h
    exact ⟨fun _ => rfl, h⟩
  · split at h
    · rename_i e
      simp only [Bool.and_eq_true] at e
      rw [Nat.eq_of_beq_eq_true e.1, Nat.eq_of_beq_eq_true e.2]
      exact ⟨fun _ => rfl, h⟩
    · exact h.elim
  · exact ⟨fun _ => rfl, h⟩
  · exact ⟨fun _ => rfl, h⟩
  · exact ⟨fun _ => rfl, h⟩
  · split at h
    · rename_i e
      simp only [Bool.and_eq_true] at e
      rw [Nat.eq_of_beq_eq_true e.1, beqCaps_eq e.2]
      exact ⟨fun _ => rfl, h⟩
    · exact h.elim
  · obtain ⟨⟨rfl, rfl, rfl, rfl, rfl, rfl⟩, h⟩ := h
    exact ⟨fun _ => rfl, h⟩
  · obtain ⟨⟨rfl, rfl, rfl, rfl, rfl⟩, h⟩ := h
    exact ⟨fun _ => rfl, h⟩
  · obtain ⟨⟨rfl, rfl, rfl, rfl⟩, h⟩ := h
    exact ⟨fun _ => rfl, h⟩
  · obtain ⟨rfl, h⟩ := h
    exact ⟨fun _ => rfl, h⟩
  · exact h.elim
theorem leqL_ok {α : Type} {t : T α} {K : α → Prop} : ∀ {l m : List Sc}, (leqL l m t).holds K → All2 SEq l m ∧ t.holds K
  | [], [], h => ⟨.nil, h⟩
  | a :: l, b :: m, h => by
    obtain ⟨h1, h2⟩ := leqSc_ok (a := a) (b := b) h
    obtain ⟨h3, h4⟩ := leqL_ok (l := l) (m := m) h2
    exact ⟨.cons h1 h3, h4⟩
  | [], _ :: _, h => h.elim
  | _ :: _, [], h => h.elim
theorem cells_eq {l m : List Sc} (h : All2 SEq l m) (bs : List Nat) : l.map (Sc.γ bs) = m.map (Sc.γ bs) := (h.imp fun _ _ e => e bs).map_eq
theorem leqV_ok {α : Type} {t : T α} {K : α → Prop} : ∀ {a b : V}, (leqV a b t).holds K → VEq a b ∧ t.holds K
  | .one a, .one b, h => by
    obtain ⟨h1, h2⟩ := leqSc_ok (a := a) (b := b) h
    exact ⟨fun bs => h1 bs, h2⟩
  | .agg l, .agg m, h => by
    obtain ⟨h1, h2⟩ := leqL_ok (l := l) (m := m) h
    exact ⟨fun bs => by simp only [V.γ, cells_eq h1 bs], h2⟩
  | .one _, .agg _, h => h.elim
  | .agg _, .one _, h => h.elim
theorem leqVs_ok {α : Type} {t : T α} {K : α → Prop} : ∀ {l m : List V}, (leqVs l m t).holds K → All2 VEq l m ∧ t.holds K
  | [], [], h => ⟨.nil, h⟩
  | a :: l, b :: m, h => by
    obtain ⟨h1, h2⟩ := leqV_ok (a := a) (b := b) h
    obtain ⟨h3, h4⟩ := leqVs_ok (l := l) (m := m) h2
    exact ⟨.cons h1 h3, h4⟩
  | [], _ :: _, h => h.elim
  | _ :: _, [], h => h.elim
theorem leqAV_ok {α : Type} {t : T α} {K : α → Prop} {a b : AV} (h : (leqAV a b t).holds K) : ALe a b ∧ t.holds K := by
  unfold leqAV at h
  split at h
  · exact ⟨.inl rfl, h⟩
  · rename_i x y
    obtain ⟨h1, h2⟩ := leqV_ok (a := x) (b := y) h
    exact ⟨.inr ⟨by simp, by simp, fun bs => h1 bs⟩, h2⟩
  · rename_i l m
    obtain ⟨h1, h2⟩ := leqVs_ok (l := l) (m := m) h
    exact ⟨.inr ⟨by simp, by simp, fun bs => by simp only [AV.γ, (h1.imp fun _ _ e => e bs).map_eq]⟩, h2⟩
  · exact ⟨.inr ⟨by simp, by simp, fun _ => rfl⟩, h⟩
  · exact h.elim
theorem leqTs_ok {α : Type} {t : T α} {K : α → Prop} : ∀ {l m : List AV}, (leqTs l m t).holds K → All2 ALe l m ∧ t.holds K
  | [], [], h => ⟨.nil, h⟩
  | a :: l, b :: m, h => by
    obtain ⟨h1, h2⟩ := leqAV_ok (a := a) (b := b) h
    obtain ⟨h3, h4⟩ := leqTs_ok (l := l) (m := m) h2
    exact ⟨.cons h1 h3, h4⟩
  | [], _ :: _, h => h.elim
  | _ :: _, [], h => h.elim
def HLe (h h' : List Blk) : Prop := ∀ (r : Nat) (k : Blk), h'[r]? = some k → ∃ k', h[r]? = some k' ∧ k'.t = k.t ∧ All2 SEq k'.cells k.cells
theorem leqH_ok {α : Type} {t : T α} {K : α → Prop} : ∀ {l m : List Blk}, (leqH l m t).holds K → HLe l m ∧ t.holds K
  | l, [], h => ⟨fun r k hr => by simp at hr, by cases l <;> exact h⟩
  | a :: l, b :: m, h => by
    unfold leqH at h
    split at h
    · rename_i e
      obtain ⟨h1, h2⟩ := leqL_ok (l := a.cells) (m := b.cells) h
      obtain ⟨h3, h4⟩ := leqH_ok (l := l) (m := m) h2
      refine ⟨fun r k hr => ?_, h4⟩
      cases r with
      | zero =>
        simp at hr; subst hr
        exact ⟨a, rfl, Nat.eq_of_beq_eq_true e, h1⟩
      | succ r => exact h3 r k (by simpa using hr)
    · exact h.elim
  | [], _ :: _, h => h.elim
structure Leq (s s' : ASt) : Prop where
  ts : All2 ALe s.ts s'.ts
  h : HLe s.h s'.h
theorem leqT_ok {α : Type} {t : T α} {K : α → Prop} {s s' : ASt} (h : (leqT s s' t).holds K) : Leq s s' ∧ t.holds K := by
  obtain ⟨h1, h2⟩ := leqTs_ok (l := s.ts) (m := s'.ts) h
  obtain ⟨h3, h4⟩ := leqH_ok (l := s.h) (m := s'.h) h2
  exact ⟨⟨h1, h3⟩, h4⟩
/-- A state that names no block beyond its own. -/
def ASt.fine (s : ASt) (n : Nat) : Bool := Nat.beq s.h.length n && (s.ts.all (AV.wf (lt n)) && s.h.all fun k => k.cells.all (Sc.wf (lt n)))
theorem Leq.use {s s' : ASt} (h : Leq s s') {n : Nat} (hf : s'.fine n = true) {w0 w : World} {bs more : List Nat} (hb : bs.length = n) {a : Act} (ht : TOk (bs ++ more) s.ts a) (R : Rep (lt s.h.length) w0 (bs ++ more) s.h w) :
    TOk bs s'.ts a ∧ TWf (lt s'.h.length) s'.ts ∧ Rep (lt s'.h.length) w0 bs s'.h w := by
  simp only [ASt.fine, Bool.and_eq_true] at hf
  obtain ⟨hl, hw, hc⟩ := hf
  have hl := Nat.eq_of_beq_eq_true hl
  have hw' : TWf (lt s'.h.length) s'.ts := fun x hx => by rw [hl]; exact List.all_eq_true.1 hw x hx
  have hlk : Like (lt n) bs (bs ++ more) := by rw [← hb]; exact like_more bs more
  have hle : ∀ r, lt n r = true → ∃ k, s'.h[r]? = some k := fun r hr => by
    rw [lt_iff] at hr
    exact ⟨s'.h[r]'(by omega), List.getElem?_eq_getElem _⟩
  have hin : ∀ r, lt n r = true → lt s.h.length r = true := fun r hr => by
    obtain ⟨k, hk⟩ := hle r hr
    obtain ⟨k', hk', _⟩ := h.h r k hk
    rw [lt_iff]; exact (List.getElem?_eq_some_iff.1 hk').1
  have hcw : ∀ (r : Nat) (k : Blk), s'.h[r]? = some k → ∀ c ∈ k.cells, c.wf (lt n) = true := fun r k hr c hx =>
    List.all_eq_true.1 (List.all_eq_true.1 hc k (List.mem_of_getElem? hr)) c hx
  refine ⟨⟨ht.defers, by rw [ht.size, h.ts.length], fun t y hy => ?_⟩, hw', ?_⟩
  · obtain ⟨x, hx, e⟩ := h.ts.get t y hy
    have g := ht.at_ t x hx
    rcases e with rfl | ⟨e1, e2, e3⟩
    · trivial
    · have g1 := g.eq e1
      have g2 := AV.is_refl bs y
      rw [← AV.γ_like hlk (by rw [← hl]; exact hw' y (List.mem_of_getElem? hy)), ← e3, ← g1] at g2
      exact g2
  · rw [hl]
    refine ⟨R.below, by omega, fun r hr => by rw [lt_iff] at hr; omega, fun r k hr hk => ?_, fun r r' hr hr' e => ?_, fun r k hr hk => hcw r k hk⟩
    · obtain ⟨k', hk', ek, ec⟩ := h.h r k hk
      have g := R.blk r k' (hin r hr) hk'
      rw [hlk r hr] at g
      refine ⟨g.1, ?_⟩
      rw [g.2, ek, cells_eq ec, map_γ_like hlk (hcw r k hk)]
    · exact R.apart r r' (hin r hr) (hin r' hr') (by rw [hlk r hr, hlk r' hr']; exact e)

/-! ### Rounds -/
/-- What stands behind. -/
structure Got (Y : Type) (post : Y → Prop) where
  it : Y
  so : post it
section
variable (P : Program) (w0 : World) (eqT : TypeId → Bool) (ctr : FuncId → List AV → Option (T AV)) (call : FuncId → List AV → List Blk → T (AV × List Blk)) (lc : Nat → ASt → Option (Code × T (Ex × ASt)))
/-- A round: to the next one's state, or out. -/
def roundT (c : Code) (id : Nat) {X Y : Type} (st : X → ASt) (fin : Y → ASt) (nx : ASt → Option X) (fx : ASt → Option Y) (x : X) : T (X ⊕ Y) :=
  (codeT P w0 eqT ctr call lc c (st x)).bind fun r => match r.1 with
    | .normal => match nx r.2 with
      | some x' => leqT r.2 (st x') (.leaf (.inl x'))
      | none => .fail "next"
    | .exit i => match Nat.beq i id with
      | true => match fx r.2 with
        | some y => leqT r.2 (fin y) (.leaf (.inr y))
        | none => .fail "end"
      | false => .fail "exit"
    | .ret => .fail "ret"
end
/-- A round keeps what is kept, and comes nearer; or what stands behind holds. -/
def Kept {X Y : Type} (inv : X → Prop) (post : Y → Prop) (mu : X → Nat) (x : X) : X ⊕ Y → Prop
  | .inl x' => inv x' ∧ mu x' < mu x
  | .inr y => post y
/-- It is so, hidden. -/
structure Hid {α : Type} (t : T α) (K : α → Prop) : Prop where
  holds : t.holds K
/-- What a loop comes to. -/
def loopT (id n : Nat) {X Y : Type} (st : X → ASt) (fin : Y → ASt) (inv : X → Prop) (post : Y → Prop) (s0 : ASt) (x0 : X) : T (Ex × ASt) := match Nat.beq s0.h.length n with
  | true => leqT s0 (st x0) (.chk (inv x0) (.all fun y : Got Y post => .leaf (.exit id, fin y.it)))
  | false => .fail "heap"
theorem loop_ok {P : Program} {w0 : World} {eqT : TypeId → Bool} {ctr : FuncId → List AV → Option (T AV)} {call : FuncId → List AV → List Blk → T (AV × List Blk)} {lc : Nat → ASt → Option (Code × T (Ex × ASt))}
    (B : Base P eqT) (C : Ctrs P w0 ctr) (hcall : CallOk P w0 call) (hL : LcOk P w0 lc) {body c : Code} (hc : body = .loop c) {id n : Nat} {X Y : Type} {st : X → ASt} {fin : Y → ASt} {nx : ASt → Option X} {fx : ASt → Option Y}
    {inv : X → Prop} {post : Y → Prop} (mu : X → Nat) (hst : ∀ x, (st x).fine n = true) (hfin : ∀ y, (fin y).fine n = true)
    (step : ∀ x, inv x → Hid (roundT P w0 eqT ctr call lc c id st fin nx fx x) (Kept inv post mu x)) (s0 : ASt) (x0 : X) : LoopOk P w0 id body s0 (loopT id n st fin inv post s0 x0) := by
  subst hc
  intro bs K Q a w hK ht hw R hQ
  unfold loopT at hK
  split at hK
  · rename_i hn
    have hn := Nat.eq_of_beq_eq_true hn
    obtain ⟨hle, hi, hall⟩ := leqT_ok hK
    have hbs : bs.length = n := by rw [R.len, hn]
    have key : ∀ (m : Nat) (x : X) (a : Act) (w : World), mu x < m → inv x → TOk bs (st x).ts a → TWf (lt (st x).h.length) (st x).ts → Rep (lt (st x).h.length) w0 bs (st x).h w → Code.rounds P c Q m a w := by
      intro m
      induction m with
      | zero => intro x a w h; omega
      | succ m ih =>
        intro x a w hm hi ht hw R
        rw [rounds_succ]
        have hs := (step x hi).holds
        unfold roundT at hs
        rw [T.holds_bind] at hs
        refine codeT_ok B.mixed B.names B.eqs C.ok C.there hcall hL c bs (st x) _ _ a w hs ht hw R ?_
        intro more e s' a' w' hk ht' hw' R'
        cases e with
        | normal =>
          simp only at hk
          split at hk
          · rename_i x' hx
            obtain ⟨hle, hi', hmu⟩ := leqT_ok hk
            obtain ⟨h1, h2, h3⟩ := hle.use (hst x') hbs ht' R'
            exact ih x' a' w' (by omega) hi' h1 h2 h3
          · exact hk.elim
        | exit i =>
          simp only at hk
          split at hk
          · rename_i hi
            have hi := Nat.eq_of_beq_eq_true hi
            subst hi
            split at hk
            · rename_i y hy
              obtain ⟨hle, hp⟩ := leqT_ok hk
              obtain ⟨h1, h2, h3⟩ := hle.use (hfin y) hbs ht' R'
              exact hQ.now (hall ⟨y, hp⟩) h1 h2 h3
            · exact hk.elim
          · exact hk.elim
        | ret => exact hk.elim
    obtain ⟨h1, h2, h3⟩ := hle.use (more := []) (hst x0) hbs (by rw [List.append_nil]; exact ht) (by rw [List.append_nil]; exact R)
    exact wp_loop_rounds (mu x0 + 1) (key _ x0 a w (by omega) hi h1 h2 h3)
  · exact hK.elim

/-! ### Where a loop's text lies -/
def blockIn (id : Nat) : Code → Option Code
  | .block i b => match Nat.beq i id with
    | true => some b
    | false => blockIn id b
  | .seq a b => match blockIn id a with
    | some c => some c
    | none => blockIn id b
  | .cond _ a b => match blockIn id a with
    | some c => some c
    | none => blockIn id b
  | .loop b => blockIn id b
  | .scope b => blockIn id b
  | _ => none
def bodyAt (P : Program) (f : FuncId) (id : Nat) : Code := match P.funcs[f]? with
  | some fn => match fn.body with
    | some c => match blockIn id c with
      | some b => b
      | none => .skip
    | none => .skip
  | none => .skip
def roundOf : Code → Code
  | .loop c => c
  | c => c
/-- A loop: where it stands, and what it comes to. -/
structure Lp where
  f : FuncId
  id : Nat
  ask : ASt → Option (T (Ex × ASt))
def lpOf (P : Program) : List Lp → FuncId → Nat → ASt → Option (Code × T (Ex × ASt))
  | [], _, _, _ => none
  | l :: ls, f, id, s => match Nat.beq l.f f && Nat.beq l.id id with
    | true => match l.ask s with
      | some t => some (bodyAt P l.f l.id, t)
      | none => none
    | false => lpOf P ls f id s
def Lp.ok (P : Program) (w0 : World) (l : Lp) : Prop := ∀ s t, l.ask s = some t → LoopOk P w0 l.id (bodyAt P l.f l.id) s t
theorem lps_ok {P : Program} {w0 : World} : ∀ {ls : List Lp}, (∀ l ∈ ls, l.ok P w0) → LcsOk P w0 (lpOf P ls)
  | [], _ => fun _ _ _ _ _ h => by cases h
  | l :: ls, h => fun f id s body t e => by
    unfold lpOf at e
    split at e
    · rename_i hh
      simp only [Bool.and_eq_true] at hh
      split at e
      · rename_i t' he
        cases e
        have := h l (List.mem_cons_self ..) s t he
        rw [Nat.eq_of_beq_eq_true hh.2] at this
        rw [← Nat.eq_of_beq_eq_true hh.2]
        rw [← Nat.eq_of_beq_eq_true hh.2] at this
        exact this
      · cases e
    · exact lps_ok (fun l' hl => h l' (List.mem_cons_of_mem _ hl)) f id s body t e

/-! ### What a state has -/
def gI (s : ASt) (t : Nat) : Option Int := match s.ts[t]? with
  | some (.v (.one (.int _ _ n))) => some n
  | _ => none
def gB (s : ASt) (t : Nat) : Option Bool := match s.ts[t]? with
  | some (.v (.one (.bool _ b))) => some b
  | _ => none
def hS (s : ASt) (r q : Nat) : Option Sc := match s.h[r]? with
  | some k => k.cells[q]?
  | none => none
def hI (s : ASt) (r q : Nat) : Option Int := match hS s r q with
  | some (.int _ _ n) => some n
  | _ => none
def hB (s : ASt) (r q : Nat) : Option Bool := match hS s r q with
  | some (.bool _ b) => some b
  | _ => none
def slots : List AV → List (Nat × AV) → List AV
  | l, [] => l
  | l, (t, x) :: r => slots (l.set t x) r
end Go.Proofs.Ythfloebldapfbaa.sym
