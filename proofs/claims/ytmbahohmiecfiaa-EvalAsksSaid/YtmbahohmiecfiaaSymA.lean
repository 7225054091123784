/-
  The walk by computing: rounds whose number is not told. A family of states that a round keeps, a measure, and what stands behind. Conditions stand in each theorem.
-/
import Derived.Test.YtmbahohmiecfiaaSym9
import Derived.LoopN
import Derived.ScopeJumps
namespace Go.Proofs.Ytmbahohmiecfiaa.sym
open Go.RowKit

/-! ### One state says no more than another: blocks below n are the same, those from n on are told by ro -/
def matchR (n : Nat) (ro : List (Option Nat)) (r r' : Nat) : Bool := match Nat.blt r' n with
  | true => Nat.beq r r'
  | false => match ro[r' - n]? with
    | some (some i) => Nat.beq i r
    | _ => false
def capsR (n : Nat) (ro : List (Option Nat)) : List (Nat × Nat) → List (Nat × Nat) → Bool
  | [], [] => true
  | (a, b) :: l, (c, d) :: m => matchR n ro a c && (Nat.beq b d && capsR n ro l m)
  | _, _ => false
section
variable (n : Nat) (ro : List (Option Nat))
def leqSc {α : Type} : Sc → Sc → T α → T α
  | .int _ k a, .int _ k' m, t => match kinOne (.int true k 0) (.int true k' 0) with
    | true => .chk (k = k' ∧ a = m) t
    | false => .fail "kind"
  | .bool _ b, .bool _ b', t => .chk (b = b') t
  | .ptr r o, .ptr r' o', t => match matchR n ro r r' && Nat.beq o o' with
    | true => t
    | false => .fail "place"
  | .nil, .nil, t => t
  | .nilfn, .nilfn, t => t
  | .nos, .nos, t => t
  | .fn f l, .fn f' l', t => match Nat.beq f f' && capsR n ro l l' with
    | true => t
    | false => .fail "fn"
  | .xp a c z n i j, .xp a' c' z' n' i' j', t => .chk (a = a' ∧ c = c' ∧ z = z' ∧ n = n' ∧ i = i' ∧ j = j') t
  | .xs a c n l k, .xs a' c' n' l' k', t => .chk (a = a' ∧ c = c' ∧ n = n' ∧ l = l' ∧ k = k') t
  | .os r o l k, .os r' o' l' k', t => match matchR n ro r r' with
    | true => .chk (o = o' ∧ l = l' ∧ k = k') t
    | false => .fail "slice"
  | .val v, .val v', t => .chk (v = v') t
  | .gs r nl sz off len cap, .gs r' nl' sz' off' len' cap', t => match matchR n ro r r' with
    | true => .chk (nl = nl' ∧ sz = sz' ∧ off = off' ∧ len = len' ∧ cap = cap') t
    | false => .fail "row"
  | .nos, .gs _ nl' _ _ len' cap', t => .chk (nl' = true ∧ len' = 0 ∧ cap' = 0) t
  | .rp r sz i q, .rp r' sz' i' q', t => match matchR n ro r r' with
    | true => .chk (sz = sz' ∧ i = i' ∧ q = q') t
    | false => .fail "row place"
  | .xr a ks xs len cap, .xr a' ks' xs' len' cap', t => .chk (a = a' ∧ ks = ks' ∧ xs = xs' ∧ len = len' ∧ cap = cap') t
  | .xq a ks xs i q, .xq a' ks' xs' i' q', t => .chk (a = a' ∧ ks = ks' ∧ xs = xs' ∧ i = i' ∧ q = q') t
  | .row nl ks xs cap, .row nl' ks' xs' cap', t => .chk (nl = nl' ∧ ks = ks' ∧ xs = xs' ∧ cap = cap') t
  | .dead, .dead, t => t
  | .frs nl fs cap, .frs nl' fs' cap', t => .chk (nl = nl' ∧ fs = fs' ∧ cap = cap') t
  | .fz _ f, .fz _ f', t => .chk (f = f') t
  | .keep L O, .keep L' O', t => .chk (L = L' ∧ O = O') t
  | _, _, _ => .fail "kin"
def leqL {α : Type} : List Sc → List Sc → T α → T α
  | [], [], t => t
  | a :: l, b :: m, t => leqSc n ro a b (leqL l m t)
  | _, _, _ => .fail "cells"
def leqV {α : Type} : V → V → T α → T α
  | .one a, .one b, t => leqSc n ro a b t
  | .agg l, .agg m, t => leqL n ro l m t
  | _, _, _ => .fail "one"
def leqVs {α : Type} : List V → List V → T α → T α
  | [], [], t => t
  | a :: l, b :: m, t => leqV n ro a b (leqVs l m t)
  | _, _, _ => .fail "values"
def leqAV {α : Type} : AV → AV → T α → T α
  | _, .any, t => t
  | .v x, .v y, t => leqV n ro x y t
  | .tuple l, .tuple m, t => leqVs n ro l m t
  | .undef, .undef, t => t
  | _, _, _ => .fail "slot"
def leqTs {α : Type} : List AV → List AV → T α → T α
  | [], [], t => t
  | a :: l, b :: m, t => leqAV n ro a b (leqTs l m t)
  | _, _, _ => .fail "slots"
/-- Where a block comes from. -/
def srcR (j : Nat) : Option Nat := match Nat.blt j n with
  | true => some j
  | false => match ro[j - n]? with
    | some o => o
    | none => none
def isDead (k : Blk) : Bool := match k.cells with
  | [.dead] => true
  | _ => false
def leqH {α : Type} (h : List Blk) : Nat → List Blk → T α → T α
  | _, [], t => t
  | j, b :: m, t => match isDead b with
    | true => leqH h (j + 1) m t
    | false => match srcR n ro j with
      | some i => match h[i]? with
        | some a => match Nat.beq a.t b.t with
          | true => leqL n ro a.cells b.cells (leqH h (j + 1) m t)
          | false => .fail "type"
        | none => .fail "blocks"
      | none => match b.cells with
        | [.row nl _ xs _] => .chk (nl = true ∧ xs = []) (leqH h (j + 1) m t)
        | [.frs nl fs _] => .chk (nl = true ∧ fs = []) (leqH h (j + 1) m t)
        | _ => .fail "block"
def deadAt (h : List Blk) (i : Nat) : Bool := match h[i]? with
  | some k => isDead k
  | none => false
/-- Each block has one name. -/
def injOk (h : List Blk) : Bool := (List.range ro.length).all fun a => match ro[a]? with
  | some (some i) => deadAt h (n + a) || ((!(Nat.blt i n) || deadAt h i) && (List.range a).all fun b => match ro[b]? with
    | some (some i') => !(Nat.beq i i') || deadAt h (n + b)
    | _ => true)
  | _ => true
def leqT {α : Type} (s s' : ASt) (t : T α) : T α := match injOk n ro s'.h && Nat.beq s'.h.length (n + ro.length) with
  | true => leqTs n ro s.ts s'.ts (leqH n ro s.h 0 s'.h t)
  | false => .fail "names"

/-- The numbers, by the new names. -/
def ren (B : List Nat) : List Nat := B.take n ++ ro.map fun | some i => B.getD i 0 | none => 0
end
theorem ren_get {n : Nat} {ro : List (Option Nat)} {B : List Nat} (hB : n ≤ B.length) {j i : Nat} (h : srcR n ro j = some i) : (ren n ro B).getD j 0 = B.getD i 0 := by
  unfold srcR at h
  unfold ren
  have hl : (B.take n).length = n := by rw [List.length_take]; omega
  split at h
  · rename_i hb
    have hb : j < n := by simpa [Nat.blt_eq] using hb
    cases h
    rw [List.getD_eq_getElem?_getD, List.getD_eq_getElem?_getD, List.getElem?_append_left (by omega), List.getElem?_take, if_pos hb]
  · rename_i hb
    have hb : ¬ j < n := by intro hlt; rw [← Nat.blt_eq] at hlt; rw [hlt] at hb; cases hb
    split at h
    · rename_i o ho
      subst h
      rw [List.getD_eq_getElem?_getD, List.getElem?_append_right (by omega), hl, List.getElem?_map, ho]
      rfl
    · cases h
theorem matchR_src {n : Nat} {ro : List (Option Nat)} {r r' : Nat} (h : matchR n ro r r' = true) : srcR n ro r' = some r := by
  unfold matchR at h
  unfold srcR
  split at h
  · rw [Nat.eq_of_beq_eq_true h]
  · split at h
    · rename_i i hi
      rw [hi]
      simp only
      rw [Nat.eq_of_beq_eq_true h]
    · cases h
theorem matchR_ok {n : Nat} {ro : List (Option Nat)} {r r' : Nat} (h : matchR n ro r r' = true) {B : List Nat} (hB : n ≤ B.length) : (ren n ro B).getD r' 0 = B.getD r 0 := ren_get hB (matchR_src h)
theorem capsR_ok {n : Nat} {ro : List (Option Nat)} {B : List Nat} (hB : n ≤ B.length) : ∀ {l m : List (Nat × Nat)}, capsR n ro l m = true → l.map (capV B) = m.map (capV (ren n ro B))
  | [], [], _ => rfl
  | (a, b) :: l, (c, d) :: m, h => by
    simp only [capsR, Bool.and_eq_true] at h
    obtain ⟨h1, h2, h3⟩ := h
    simp only [List.map_cons, capV, matchR_ok h1 hB, Nat.eq_of_beq_eq_true h2, capsR_ok hB h3]
  | [], _ :: _, h => by simp [capsR] at h
  | _ :: _, [], h => by simp [capsR] at h
/-- Alike, by the new names. -/
structure SEq (n : Nat) (ro : List (Option Nat)) (a b : Sc) : Prop where
  val : ∀ B, n ≤ B.length → a.γ B = b.γ (ren n ro B)
  real : a.real = b.real
  sign : b.real = false → a = b
def VEq (n : Nat) (ro : List (Option Nat)) (a b : V) : Prop := ∀ B, n ≤ B.length → a.γ B = b.γ (ren n ro B)
def ALe (n : Nat) (ro : List (Option Nat)) (x y : AV) : Prop := y = .any ∨ (x ≠ .any ∧ y ≠ .any ∧ ∀ B, n ≤ B.length → x.γ B = y.γ (ren n ro B))
inductive All2 {α β : Type} (R : α → β → Prop) : List α → List β → Prop
  | nil : All2 R [] []
  | cons {a b l m} : R a b → All2 R l m → All2 R (a :: l) (b :: m)
theorem All2.length {α β : Type} {R : α → β → Prop} {l : List α} {m : List β} (h : All2 R l m) : l.length = m.length := by
  induction h with
  | nil => rfl
  | cons _ _ ih => simp [ih]
theorem All2.get {α β : Type} {R : α → β → Prop} {l : List α} {m : List β} (h : All2 R l m) : ∀ (i : Nat) (b : β), m[i]? = some b → ∃ a, l[i]? = some a ∧ R a b := by
  induction h with
  | nil => intro i b hb; simp at hb
  | cons h1 _ ih =>
    intro i b hb
    cases i with
    | zero => simp at hb; subst hb; exact ⟨_, rfl, h1⟩
    | succ i => exact ih i b (by simpa using hb)
theorem All2.map_eq {α β γ : Type} {f : α → γ} {g : β → γ} {l : List α} {m : List β} (h : All2 (fun a b => f a = g b) l m) : l.map f = m.map g := by
  induction h with
  | nil => rfl
  | cons h1 _ ih => simp [h1, ih]
theorem All2.imp {α β : Type} {R S : α → β → Prop} (hi : ∀ a b, R a b → S a b) {l : List α} {m : List β} (h : All2 R l m) : All2 S l m := by
  induction h with
  | nil => exact .nil
  | cons h1 _ ih => exact .cons (hi _ _ h1) ih


section
variable {n : Nat} {ro : List (Option Nat)} {α : Type} {t : T α} {K : α → Prop}
theorem leqSc_ok : ∀ {a b : Sc}, (leqSc n ro a b t).holds K → SEq n ro a b ∧ t.holds K := by
  intro a b h
  unfold leqSc at h
  split at h
  · split at h
    · obtain ⟨⟨rfl, rfl⟩, h⟩ := h
      exact ⟨⟨fun _ _ => rfl, rfl, fun e => by cases e⟩, h⟩
    · exact h.elim
  · obtain ⟨rfl, h⟩ := h
    exact ⟨⟨fun _ _ => rfl, rfl, fun e => by cases e⟩, h⟩
  · split at h
    · rename_i e
      simp only [Bool.and_eq_true] at e
      refine ⟨⟨fun B hB => ?_, rfl, fun e => by cases e⟩, h⟩
      simp only [Sc.γ, matchR_ok e.1 hB, Nat.eq_of_beq_eq_true e.2]
    · exact h.elim
  · exact ⟨⟨fun _ _ => rfl, rfl, fun e => by cases e⟩, h⟩
  · exact ⟨⟨fun _ _ => rfl, rfl, fun e => by cases e⟩, h⟩
  · exact ⟨⟨fun _ _ => rfl, rfl, fun e => by cases e⟩, h⟩
  · split at h
    · rename_i e
      simp only [Bool.and_eq_true] at e
      refine ⟨⟨fun B hB => ?_, rfl, fun e => by cases e⟩, h⟩
      simp only [Sc.γ, capsR_ok hB e.2, Nat.eq_of_beq_eq_true e.1]
    · exact h.elim
  · obtain ⟨⟨rfl, rfl, rfl, rfl, rfl, rfl⟩, h⟩ := h
    exact ⟨⟨fun _ _ => rfl, rfl, fun e => by cases e⟩, h⟩
  · obtain ⟨⟨rfl, rfl, rfl, rfl, rfl⟩, h⟩ := h
    exact ⟨⟨fun _ _ => rfl, rfl, fun e => by cases e⟩, h⟩
  · split at h
    · rename_i e
      obtain ⟨⟨rfl, rfl, rfl⟩, h⟩ := h
      refine ⟨⟨fun B hB => ?_, rfl, fun e => by cases e⟩, h⟩
      simp only [Sc.γ, matchR_ok e hB]
    · exact h.elim
  · obtain ⟨rfl, h⟩ := h
    exact ⟨⟨fun _ _ => rfl, rfl, fun e => by cases e⟩, h⟩
  · split at h
    · rename_i e
      obtain ⟨⟨rfl, rfl, rfl, rfl, rfl⟩, h⟩ := h
      refine ⟨⟨fun B hB => ?_, rfl, fun e => by cases e⟩, h⟩
      simp only [Sc.γ, matchR_ok e hB]
    · exact h.elim
  · obtain ⟨⟨rfl, rfl, rfl⟩, h⟩ := h
    exact ⟨⟨fun _ _ => rfl, rfl, fun e => by cases e⟩, h⟩
  · split at h
    · rename_i e
      obtain ⟨⟨rfl, rfl, rfl⟩, h⟩ := h
      refine ⟨⟨fun B hB => ?_, rfl, fun e => by cases e⟩, h⟩
      simp only [Sc.γ, matchR_ok e hB]
    · exact h.elim
  · obtain ⟨⟨rfl, rfl, rfl, rfl, rfl⟩, h⟩ := h
    exact ⟨⟨fun _ _ => rfl, rfl, fun e => by cases e⟩, h⟩
  · obtain ⟨⟨rfl, rfl, rfl, rfl, rfl⟩, h⟩ := h
    exact ⟨⟨fun _ _ => rfl, rfl, fun e => by cases e⟩, h⟩
  · obtain ⟨⟨rfl, rfl, rfl, rfl⟩, h⟩ := h
    exact ⟨⟨fun _ _ => rfl, rfl, fun _ => rfl⟩, h⟩
  · exact ⟨⟨fun _ _ => rfl, rfl, fun _ => rfl⟩, h⟩
  · obtain ⟨⟨rfl, rfl, rfl⟩, h⟩ := h
    exact ⟨⟨fun _ _ => rfl, rfl, fun _ => rfl⟩, h⟩
  · obtain ⟨rfl, h⟩ := h
    exact ⟨⟨fun _ _ => rfl, rfl, fun e => by cases e⟩, h⟩
  · obtain ⟨⟨rfl, rfl⟩, h⟩ := h
    exact ⟨⟨fun _ _ => rfl, rfl, fun _ => rfl⟩, h⟩
  · exact h.elim
theorem leqL_ok : ∀ {l m : List Sc} {t : T α}, (leqL n ro l m t).holds K → All2 (SEq n ro) l m ∧ t.holds K
  | [], [], _, h => ⟨.nil, h⟩
  | a :: l, b :: m, _, h => by
    obtain ⟨h1, h2⟩ := leqSc_ok (a := a) (b := b) h
    obtain ⟨h3, h4⟩ := leqL_ok (l := l) (m := m) h2
    exact ⟨.cons h1 h3, h4⟩
  | [], _ :: _, _, h => h.elim
  | _ :: _, [], _, h => h.elim
theorem cells_eq {l m : List Sc} (h : All2 (SEq n ro) l m) {B : List Nat} (hB : n ≤ B.length) : l.map (Sc.γ B) = m.map (Sc.γ (ren n ro B)) := (h.imp fun _ _ e => e.val B hB).map_eq
theorem leqV_ok : ∀ {a b : V} {t : T α}, (leqV n ro a b t).holds K → VEq n ro a b ∧ t.holds K
  | .one a, .one b, _, h => by
    obtain ⟨h1, h2⟩ := leqSc_ok (a := a) (b := b) h
    exact ⟨fun B hB => h1.val B hB, h2⟩
  | .agg l, .agg m, _, h => by
    obtain ⟨h1, h2⟩ := leqL_ok (l := l) (m := m) h
    exact ⟨fun B hB => by simp only [V.γ, cells_eq h1 hB], h2⟩
  | .one _, .agg _, _, h => h.elim
  | .agg _, .one _, _, h => h.elim
theorem leqVs_ok : ∀ {l m : List V} {t : T α}, (leqVs n ro l m t).holds K → All2 (VEq n ro) l m ∧ t.holds K
  | [], [], _, h => ⟨.nil, h⟩
  | a :: l, b :: m, _, h => by
    obtain ⟨h1, h2⟩ := leqV_ok (a := a) (b := b) h
    obtain ⟨h3, h4⟩ := leqVs_ok (l := l) (m := m) h2
    exact ⟨.cons h1 h3, h4⟩
  | [], _ :: _, _, h => h.elim
  | _ :: _, [], _, h => h.elim
theorem leqAV_ok {a b : AV} (h : (leqAV n ro a b t).holds K) : ALe n ro a b ∧ t.holds K := by
  unfold leqAV at h
  split at h
  · exact ⟨.inl rfl, h⟩
  · rename_i x y
    obtain ⟨h1, h2⟩ := leqV_ok (a := x) (b := y) h
    exact ⟨.inr ⟨by simp, by simp, fun B hB => h1 B hB⟩, h2⟩
  · rename_i l m
    obtain ⟨h1, h2⟩ := leqVs_ok (l := l) (m := m) h
    exact ⟨.inr ⟨by simp, by simp, fun B hB => by simp only [AV.γ, (h1.imp fun _ _ e => e B hB).map_eq]⟩, h2⟩
  · exact ⟨.inr ⟨by simp, by simp, fun _ _ => rfl⟩, h⟩
  · exact h.elim
theorem leqTs_ok : ∀ {l m : List AV} {t : T α}, (leqTs n ro l m t).holds K → All2 (ALe n ro) l m ∧ t.holds K
  | [], [], _, h => ⟨.nil, h⟩
  | a :: l, b :: m, _, h => by
    obtain ⟨h1, h2⟩ := leqAV_ok (a := a) (b := b) h
    obtain ⟨h3, h4⟩ := leqTs_ok (l := l) (m := m) h2
    exact ⟨.cons h1 h3, h4⟩
  | [], _ :: _, _, h => h.elim
  | _ :: _, [], _, h => h.elim
/-- A block, and where it comes from. -/
def BLe (n : Nat) (ro : List (Option Nat)) (h : List Blk) (j : Nat) (k : Blk) : Prop :=
  k.cells = [.dead] ∨ (∃ i a, srcR n ro j = some i ∧ h[i]? = some a ∧ a.t = k.t ∧ All2 (SEq n ro) a.cells k.cells) ∨ (∃ ks cap, k.cells = [.row true ks [] cap]) ∨ ∃ cap, k.cells = [.frs true [] cap]
theorem leqH_ok {h : List Blk} : ∀ {m : List Blk} {j : Nat} {t : T α}, (leqH n ro h j m t).holds K → (∀ (i : Nat) (k : Blk), m[i]? = some k → BLe n ro h (j + i) k) ∧ t.holds K
  | [], j, _, hh => ⟨fun i k hi => by simp at hi, hh⟩
  | b :: m, j, _, hh => by
    have close : ∀ {t : T α}, BLe n ro h j b → (leqH n ro h (j + 1) m t).holds K → (∀ (i : Nat) (k : Blk), (b :: m)[i]? = some k → BLe n ro h (j + i) k) ∧ t.holds K := by
      intro t hb hm
      obtain ⟨h1, h2⟩ := leqH_ok hm
      refine ⟨fun i k hi => ?_, h2⟩
      cases i with
      | zero => simp at hi; subst hi; exact hb
      | succ i =>
        have := h1 i k (by simpa using hi)
        rw [Nat.add_assoc, Nat.add_comm 1 i] at this
        exact this
    unfold leqH at hh
    split at hh
    · rename_i hd
      refine close (.inl ?_) hh
      unfold isDead at hd
      split at hd
      · assumption
      · cases hd
    · split at hh
      · rename_i i hi
        split at hh
        · rename_i a ha
          split at hh
          · rename_i ht
            obtain ⟨h1, h2⟩ := leqL_ok hh
            exact close (.inr (.inl ⟨i, a, hi, ha, Nat.eq_of_beq_eq_true ht, h1⟩)) h2
          · exact hh.elim
        · exact hh.elim
      · split at hh
        · rename_i nl ks xs cap hc
          obtain ⟨⟨rfl, rfl⟩, hh⟩ := hh
          exact close (.inr (.inr (.inl ⟨_, _, hc⟩))) hh
        · rename_i nl fs cap hc
          obtain ⟨⟨rfl, rfl⟩, hh⟩ := hh
          exact close (.inr (.inr (.inr ⟨_, hc⟩))) hh
        · exact hh.elim
end
structure Leq (n : Nat) (ro : List (Option Nat)) (s s' : ASt) : Prop where
  ts : All2 (ALe n ro) s.ts s'.ts
  h : ∀ (j : Nat) (k : Blk), s'.h[j]? = some k → BLe n ro s.h j k
  inj : injOk n ro s'.h = true
  len : s'.h.length = n + ro.length
theorem leqT_ok {n : Nat} {ro : List (Option Nat)} {α : Type} {t : T α} {K : α → Prop} {s s' : ASt} (h : (leqT n ro s s' t).holds K) : Leq n ro s s' ∧ t.holds K := by
  unfold leqT at h
  split at h
  · rename_i hh
    simp only [Bool.and_eq_true] at hh
    obtain ⟨h1, h2⟩ := leqTs_ok (l := s.ts) (m := s'.ts) h
    obtain ⟨h3, h4⟩ := leqH_ok (h := s.h) (m := s'.h) h2
    exact ⟨⟨h1, fun j k hk => by have := h3 j k hk; rwa [Nat.zero_add] at this, hh.1, Nat.eq_of_beq_eq_true hh.2⟩, h4⟩
  · exact h.elim
/-- A state that names no block beyond its own. -/
def ASt.fine (s : ASt) (n : Nat) : Bool := Nat.beq s.h.length n && (s.ts.all (AV.wf (lt n)) && s.h.all fun k => k.cells.all (Sc.wf (lt n)))
theorem dead_cells {k : Blk} (h : k.cells = [.dead]) : isDead k = true := by unfold isDead; rw [h]
theorem live_alive {k : Blk} (h : live k) : isDead k = false := by
  cases hd : isDead k with
  | false => rfl
  | true =>
    unfold isDead at hd
    split at hd
    · rename_i hc
      rcases h with h | ⟨_, _, _, h⟩ | ⟨_, _, h⟩
      · unfold Blk.plain at h
        rw [hc] at h
        cases h
      · rw [hc] at h; cases h
      · rw [hc] at h; cases h
    · cases hd
theorem isMark_two (x y : Sc) (r : List Sc) : isMark (x :: y :: r) = false := by unfold isMark; split <;> simp_all
theorem all2_plain {n : Nat} {ro : List (Option Nat)} {l m : List Sc} (h : All2 (SEq n ro) l m) : isMark l = isMark m := by
  cases h with
  | nil => rfl
  | cons h1 h2 =>
    cases h2 with
    | nil => rw [isMark_one, isMark_one, h1.real]
    | cons h3 h4 => rw [isMark_two, isMark_two]
theorem all2_row {n : Nat} {ro : List (Option Nat)} {l : List Sc} {nl : Bool} {ks : List IntKind} {xs : List Int} {cap : Nat} (h : All2 (SEq n ro) l [.row nl ks xs cap]) : l = [.row nl ks xs cap] := by
  cases h with
  | cons h1 h2 =>
    cases h2
    rw [h1.sign rfl]
theorem all2_frs {n : Nat} {ro : List (Option Nat)} {l : List Sc} {nl : Bool} {fs : List Fr} {cap : Nat} (h : All2 (SEq n ro) l [.frs nl fs cap]) : l = [.frs nl fs cap] := by
  cases h with
  | cons h1 h2 =>
    cases h2
    rw [h1.sign rfl]
theorem all2_keep {n : Nat} {ro : List (Option Nat)} {l : List Sc} {L : Nat → Option Obj} {O : Nat → Bool} (h : All2 (SEq n ro) l [.keep L O]) : l = [.keep L O] := by
  cases h with
  | cons h1 h2 =>
    cases h2
    rw [h1.sign rfl]
theorem keepIn_some {k : Blk} {L : Nat → Option Obj} {O : Nat → Bool} (h : keepIn k = some (L, O)) : k.cells = [.keep L O] := by
  unfold keepIn at h
  split at h
  · rename_i hc; cases h; exact hc
  · cases h
theorem keepIn_of {k : Blk} {L : Nat → Option Obj} {O : Nat → Bool} (h : k.cells = [.keep L O]) : keepIn k = some (L, O) := by
  unfold keepIn; rw [h]
theorem Leq.use {n : Nat} {ro : List (Option Nat)} {s s' : ASt} (h : Leq n ro s s') {nf : Nat} (hf : s'.fine nf = true) {w0 w : World} {bs more : List Nat} (hb : bs.length = n) {a : Act} (ht : TOk (bs ++ more) s.ts a) (R : Rep (lt s.h.length) w0 (bs ++ more) s.h w) :
    ∃ more', TOk (bs ++ more') s'.ts a ∧ TWf (lt s'.h.length) s'.ts ∧ Rep (lt s'.h.length) w0 (bs ++ more') s'.h w := by
  simp only [ASt.fine, Bool.and_eq_true] at hf
  obtain ⟨hl, hw, hc⟩ := hf
  have hl := Nat.eq_of_beq_eq_true hl
  have hB : n ≤ (bs ++ more).length := by simp; omega
  obtain ⟨more', hren⟩ : ∃ more', ren n ro (bs ++ more) = bs ++ more' := by
    unfold ren
    rw [List.take_append_of_le_length (by omega), List.take_of_length_le (by omega)]
    exact ⟨_, rfl⟩
  refine ⟨more', ?_⟩
  rw [← hren]
  have hlive : ∀ (j : Nat) (k : Blk), s'.h[j]? = some k → live k → ∃ i a, srcR n ro j = some i ∧ s.h[i]? = some a ∧ a.t = k.t ∧ All2 (SEq n ro) a.cells k.cells ∧ live a := by
    intro j k hk hlv
    rcases h.h j k hk with hd | ⟨i, a, h1, h2, h3, h4⟩ | ⟨ks, cap, hr⟩ | ⟨cap, hr⟩
    · have := live_alive hlv
      rw [dead_cells hd] at this
      cases this
    · refine ⟨i, a, h1, h2, h3, h4, ?_⟩
      rcases hlv with hp | ⟨ks, xs, cap, hr⟩ | ⟨fs, cap, hr⟩
      · left
        show (!isMark a.cells) = true
        rw [all2_plain h4]; exact hp
      · right; left
        rw [hr] at h4
        exact ⟨ks, xs, cap, all2_row h4⟩
      · right; right
        rw [hr] at h4
        exact ⟨fs, cap, all2_frs h4⟩
    · rcases hlv with hp | ⟨ks', xs, cap', hr'⟩ | ⟨fs, cap', hr'⟩
      · unfold Blk.plain at hp; rw [hr] at hp; cases hp
      · rw [hr] at hr'; cases hr'
      · rw [hr] at hr'; cases hr'
    · rcases hlv with hp | ⟨ks', xs, cap', hr'⟩ | ⟨fs, cap', hr'⟩
      · unfold Blk.plain at hp; rw [hr] at hp; cases hp
      · rw [hr] at hr'; cases hr'
      · rw [hr] at hr'; cases hr'
  refine ⟨⟨ht.defers, by rw [ht.size, h.ts.length], fun t y hy => ?_⟩, fun x hx => by rw [hl]; exact List.all_eq_true.1 hw x hx, ?_⟩
  · obtain ⟨x, hx, e⟩ := h.ts.get t y hy
    have g := ht.at_ t x hx
    rcases e with rfl | ⟨e1, e2, e3⟩
    · trivial
    · have g1 := g.eq e1
      have g2 := AV.is_refl (ren n ro (bs ++ more)) y
      rw [← e3 _ hB, ← g1] at g2
      exact g2
  · refine ⟨R.below, ?_, fun r hr => lt_iff.1 hr, fun j k hj hk => ?_, fun j j' k k' hj hj' g g' l l' e => ?_, fun r k hr hk c hcm => by rw [hl]; exact List.all_eq_true.1 (List.all_eq_true.1 hc k (List.mem_of_getElem? hk)) c hcm, fun j k hj hk f hf b off ha hne => ⟨fun j1 k1 hj1 hk1 l1 => ?_, fun j1 k1 L O hj1 hk1 hkp => ?_⟩, fun j k L O hj hk hkp j1 k1 hj1 hk1 l1 => ?_⟩
    · rw [h.len]
      unfold ren
      rw [List.length_append, List.length_take, List.length_map]
      omega
    · rcases h.h j k hk with hd | ⟨i, a, h1, h2, h3, h4⟩ | ⟨ks, cap, hr⟩ | ⟨cap, hr⟩
      · obtain ⟨cs, kt⟩ := k
        simp only at hd
        subst hd
        exact dead_is
      · have g := R.blk i a (lt_iff.2 (List.getElem?_eq_some_iff.1 h2).1) h2
        rw [ren_get hB h1]
        refine ⟨fun hp => ?_, fun ks xs cap hr => ?_, fun ks xs cap hr => ?_, fun nl fs cap hr => ?_, fun L O hr => ?_⟩
        · have := g.plain (by show (!isMark a.cells) = true; rw [all2_plain h4]; exact hp)
          rw [cells_eq h4 hB, h3] at this
          exact this
        · rw [hr] at h4
          have := g.row ks xs cap (all2_row h4)
          rw [h3] at this
          exact this
        · rw [hr] at h4
          exact g.nil ks xs cap (all2_row h4)
        · rw [hr] at h4
          have := g.frs nl fs cap (all2_frs h4)
          rw [h3] at this
          exact this
        · have hr := keepIn_some hr
          rw [hr] at h4
          exact g.keep L O (keepIn_of (all2_keep h4))
      · refine ⟨fun hp => ?_, fun ks' xs' cap' hr' => (by rw [hr] at hr'; cases hr'), fun ks' xs' cap' hr' => (by rw [hr] at hr'; cases hr'; rfl), fun nl fs cap hr' => (by rw [hr] at hr'; cases hr'), fun L O hr' => (by have hr' := keepIn_some hr'; rw [hr] at hr'; cases hr')⟩
        unfold Blk.plain at hp; rw [hr] at hp; cases hp
      · refine ⟨fun hp => ?_, fun ks' xs' cap' hr' => (by rw [hr] at hr'; cases hr'), fun ks' xs' cap' hr' => (by rw [hr] at hr'; cases hr'), fun nl fs cap hr' => (by rw [hr] at hr'; cases hr'; exact ⟨fun _ => rfl, fun h => (by cases h), fun f hf => by cases hf⟩), fun L O hr' => (by have hr' := keepIn_some hr'; rw [hr] at hr'; cases hr')⟩
        unfold Blk.plain at hp; rw [hr] at hp; cases hp
    · obtain ⟨i, a, h1, h2, h3, h4, h5⟩ := hlive j k g l
      obtain ⟨i', a', h1', h2', h3', h4', h5'⟩ := hlive j' k' g' l'
      rw [ren_get hB h1, ren_get hB h1'] at e
      have ei := R.apart i i' a a' (lt_iff.2 (List.getElem?_eq_some_iff.1 h2).1) (lt_iff.2 (List.getElem?_eq_some_iff.1 h2').1) h2 h2' h5 h5' e
      subst ei
      -- one name
      have alive : ∀ {j : Nat} {k : Blk}, s'.h[j]? = some k → live k → deadAt s'.h j = false := fun hk hv => by
        unfold deadAt
        rw [hk]
        exact live_alive hv
      have far : ∀ {j : Nat}, ¬ j < n → srcR n ro j = some i → ro[j - n]? = some (some i) := by
        intro j hj hs
        unfold srcR at hs
        split at hs
        · rename_i hb; exact absurd (by simpa [Nat.blt_eq] using hb) hj
        · split at hs
          · rename_i o ho; rw [ho, hs]
          · cases hs
      have near : ∀ {j : Nat}, j < n → srcR n ro j = some i → i = j := by
        intro j hj hs
        unfold srcR at hs
        rw [show Nat.blt j n = true by simpa [Nat.blt_eq] using hj] at hs
        simp only [Option.some.injEq] at hs
        exact hs.symm
      have one : ∀ (a : Nat), ro[a]? = some (some i) → deadAt s'.h (n + a) = false → (i < n → deadAt s'.h i = true) ∧ ∀ b, b < a → ro[b]? = some (some i) → deadAt s'.h (n + b) = true := by
        intro a ha hda
        have h6 := List.all_eq_true.1 h.inj a (List.mem_range.2 (List.getElem?_eq_some_iff.1 ha).1)
        rw [ha] at h6
        simp only [hda, Bool.false_or, Bool.and_eq_true] at h6
        refine ⟨fun hlt => ?_, fun b hb hbo => ?_⟩
        · have := h6.1
          rw [show Nat.blt i n = true by simpa [Nat.blt_eq] using hlt] at this
          simpa using this
        · have := List.all_eq_true.1 h6.2 b (List.mem_range.2 hb)
          rw [hbo] at this
          simpa using this
      by_cases c1 : j < n <;> by_cases c2 : j' < n
      · rw [← near c1 h1, ← near c2 h1']
      · have e1 := near c1 h1
        have f := far c2 h1'
        have hd : deadAt s'.h (n + (j' - n)) = false := by rw [show n + (j' - n) = j' by omega]; exact alive g' l'
        have := (one _ f hd).1 (by omega)
        rw [e1, alive g l] at this
        cases this
      · have e1 := near c2 h1'
        have f := far c1 h1
        have hd : deadAt s'.h (n + (j - n)) = false := by rw [show n + (j - n) = j by omega]; exact alive g l
        have := (one _ f hd).1 (by omega)
        rw [e1, alive g' l'] at this
        cases this
      · have f := far c1 h1
        have f' := far c2 h1'
        have hd : deadAt s'.h (n + (j - n)) = false := by rw [show n + (j - n) = j by omega]; exact alive g l
        have hd' : deadAt s'.h (n + (j' - n)) = false := by rw [show n + (j' - n) = j' by omega]; exact alive g' l'
        rcases Nat.lt_trichotomy (j - n) (j' - n) with q | q | q
        · have := (one _ f' hd').2 _ q f
          rw [hd] at this; cases this
        · omega
        · have := (one _ f hd).2 _ q f'
          rw [hd'] at this; cases this
    · obtain ⟨nl, fs, cap, hc1, hf1⟩ := frsIn_some hf
      rcases h.h j k hk with hd | ⟨i, a, h1, h2, h3, h4⟩ | ⟨ks, cap', hr⟩ | ⟨cap', hr⟩
      · rw [hd] at hc1; cases hc1
      · rw [hc1] at h4
        obtain ⟨i1, a1, g1, g2, g3, g4, g5⟩ := hlive j1 k1 hk1 l1
        rw [ren_get hB g1]
        exact (R.far i a (lt_iff.2 (List.getElem?_eq_some_iff.1 h2).1) h2 f (by rw [frsIn_of (all2_frs h4)]; exact hf1) b off ha hne).1 i1 a1 (lt_iff.2 (List.getElem?_eq_some_iff.1 g2).1) g2 g5
      · rw [hr] at hc1; cases hc1
      · rw [hr] at hc1; cases hc1; cases hf1
    · obtain ⟨nl, fs, cap, hc1, hf1⟩ := frsIn_some hf
      have hkc := keepIn_some hkp
      rcases h.h j k hk with hd | ⟨i, a, h1, h2, h3, h4⟩ | ⟨ks, cap', hr⟩ | ⟨cap', hr⟩
      · rw [hd] at hc1; cases hc1
      · rw [hc1] at h4
        rcases h.h j1 k1 hk1 with hd' | ⟨i', a', h1', h2', h3', h4'⟩ | ⟨ks', cap'', hr'⟩ | ⟨cap'', hr'⟩
        · rw [hd'] at hkc; cases hkc
        · rw [hkc] at h4'
          exact (R.far i a (lt_iff.2 (List.getElem?_eq_some_iff.1 h2).1) h2 f (by rw [frsIn_of (all2_frs h4)]; exact hf1) b off ha hne).2 i' a' L O (lt_iff.2 (List.getElem?_eq_some_iff.1 h2').1) h2' (keepIn_of (all2_keep h4'))
        · rw [hr'] at hkc; cases hkc
        · rw [hr'] at hkc; cases hkc
      · rw [hr] at hc1; cases hc1
      · rw [hr] at hc1; cases hc1; cases hf1
    · have hkc := keepIn_some hkp
      rcases h.h j k hk with hd' | ⟨i', a', h1', h2', h3', h4'⟩ | ⟨ks', cap'', hr'⟩ | ⟨cap'', hr'⟩
      · rw [hd'] at hkc; cases hkc
      · rw [hkc] at h4'
        obtain ⟨i1, a1, g1, g2, g3, g4, g5⟩ := hlive j1 k1 hk1 l1
        rw [ren_get hB g1]
        exact R.kept i' a' L O (lt_iff.2 (List.getElem?_eq_some_iff.1 h2').1) h2' (keepIn_of (all2_keep h4')) i1 a1 (lt_iff.2 (List.getElem?_eq_some_iff.1 g2).1) g2 g5
      · rw [hr'] at hkc; cases hkc
      · rw [hr'] at hkc; cases hkc

/-! ### Rounds -/
/-- What stands behind. -/
structure Got (Y : Type) (post : Y → Prop) where
  it : Y
  so : post it
section
variable (P : Program) (w0 : World) (eqT : TypeId → Bool) (ctr : FuncId → List AV → List Blk → Option (T AV × Option Nat)) (call : FuncId → List AV → List Blk → T (AV × List Blk)) (lc : Nat → ASt → Option (Code × T (Ex × ASt)))
/-- A round: to the next one's state, or out, or back. -/
def roundT (c : Code) (id n : Nat) {X Y Z : Type} (ro rf rr : ASt → List (Option Nat)) (st : X → ASt) (fin : Y → ASt) (bck : Z → ASt) (nx : ASt → Option X) (fx : ASt → Option Y) (bx : ASt → Option Z) (x : X) : T (X ⊕ Y ⊕ Z) :=
  (codeT P w0 eqT ctr call lc c (st x)).bind fun r => match r.1 with
    | .normal => match nx r.2 with
      | some x' => leqT n (ro r.2) r.2 (st x') (.leaf (.inl x'))
      | none => .fail "next"
    | .exit i => match Nat.beq i id with
      | true => match fx r.2 with
        | some y => leqT n (rf r.2) r.2 (fin y) (.leaf (.inr (.inl y)))
        | none => .fail "end"
      | false => .fail "exit"
    | .ret => match bx r.2 with
      | some z => leqT n (rr r.2) r.2 (bck z) (.leaf (.inr (.inr z)))
      | none => .fail "ret"
    | .goto _ => .fail "goto"
/-- A scope's first way: to the first jump back, or out. -/
def firstT (c : Code) (l n : Nat) {X Z : Type} (ro : ASt → List (Option Nat)) (st : X → ASt) (bck : Z → ASt) (inv : X → Prop) (back : Z → Prop) (nx : ASt → Option X) (s0 : ASt) : T (Ex × ASt) := match Nat.beq s0.h.length n with
  | true => (codeT P w0 eqT ctr call lc c s0).bind fun r => match r.1 with
    | .goto l' => match Nat.beq l' l with
      | true => match nx r.2 with
        | some x => leqT n (ro r.2) r.2 (st x) (.chk (inv x) (.all fun z : Got Z back => .leaf (.ret, bck z.it)))
        | none => .fail "next"
      | false => .fail "label"
    | .exit _ => .fail "exit"
    | e => .leaf (e, r.2)
  | false => .fail "heap"
/-- From the label to the next jump, or back. -/
def passT (rest : Code) (l n : Nat) {X Z : Type} (ro rr : ASt → List (Option Nat)) (st : X → ASt) (bck : Z → ASt) (nx : ASt → Option X) (bx : ASt → Option Z) (x : X) : T (X ⊕ Empty ⊕ Z) :=
  (codeT P w0 eqT ctr call lc rest (st x)).bind fun r => match r.1 with
    | .goto l' => match Nat.beq l' l with
      | true => match nx r.2 with
        | some x' => leqT n (ro r.2) r.2 (st x') (.leaf (.inl x'))
        | none => .fail "next"
      | false => .fail "label"
    | .ret => match bx r.2 with
      | some z => leqT n (rr r.2) r.2 (bck z) (.leaf (.inr (.inr z)))
      | none => .fail "ret"
    | _ => .fail "end"
end
/-- A round keeps what is kept, and comes nearer; or what stands behind holds. -/
def Kept {X Y Z : Type} (inv : X → Prop) (post : Y → Prop) (back : Z → Prop) (mu : X → Nat) (x : X) : X ⊕ Y ⊕ Z → Prop
  | .inl x' => inv x' ∧ mu x' < mu x
  | .inr (.inl y) => post y
  | .inr (.inr z) => back z
/-- It is so, hidden. -/
structure Hid {α : Type} (t : T α) (K : α → Prop) : Prop where
  holds : t.holds K
/-- What a loop comes to: out, or back (hr: may it go back?). -/
def loopT (id n : Nat) (hr : Bool) {X Y Z : Type} (ro : ASt → List (Option Nat)) (st : X → ASt) (fin : Y → ASt) (bck : Z → ASt) (inv : X → Prop) (post : Y → Prop) (back : Z → Prop) (s0 : ASt) (x0 : X) : T (Ex × ASt) := match Nat.beq s0.h.length n with
  | true => leqT n (ro s0) s0 (st x0) (.chk (inv x0) (match hr with
    | true => .all fun b : Bool => .br b (.all fun y : Got Y post => .leaf (.exit id, fin y.it)) (.all fun z : Got Z back => .leaf (.ret, bck z.it))
    | false => .all fun y : Got Y post => .leaf (.exit id, fin y.it)))
  | false => .fail "heap"
theorem loop_ok {P : Program} {w0 : World} {eqT : TypeId → Bool} {ctr : FuncId → List AV → List Blk → Option (T AV × Option Nat)} {call : FuncId → List AV → List Blk → T (AV × List Blk)} {lc : Nat → ASt → Option (Code × T (Ex × ASt))}
    (B : Base P eqT) (C : Ctrs P w0 ctr) (hcall : CallOk P w0 call) (hL : LcOk P w0 lc) {body c : Code} (hc : body = .loop c) {id n : Nat} {hr : Bool} {X Y Z : Type} {ro rf rr : ASt → List (Option Nat)} {st : X → ASt} {fin : Y → ASt} {bck : Z → ASt} {nx : ASt → Option X} {fx : ASt → Option Y} {bx : ASt → Option Z}
    {inv : X → Prop} {post : Y → Prop} {back : Z → Prop} (mu : X → Nat) {nf nf' nf'' : Nat} (hst : ∀ x, (st x).fine nf = true) (hfin : ∀ y, (fin y).fine nf' = true) (hbck : ∀ z, (bck z).fine nf'' = true) (hno : hr = true ∨ ∀ z : Z, False)
    (step : ∀ x, inv x → Hid (roundT P w0 eqT ctr call lc c id n ro rf rr st fin bck nx fx bx x) (Kept inv post back mu x)) (s0 : ASt) (x0 : X) : LoopOk P w0 id body s0 (loopT id n hr ro st fin bck inv post back s0 x0) := by
  subst hc
  intro bs K Q a w hK ht hw R hQ
  unfold loopT at hK
  split at hK
  · rename_i hn
    have hn := Nat.eq_of_beq_eq_true hn
    obtain ⟨hle, hi, hall0⟩ := leqT_ok hK
    have hall : ∀ y : Got Y post, K (.exit id, fin y.it) := by
      intro y
      cases hr with
      | true => exact (hall0 true).1 rfl y
      | false => exact hall0 y
    have hback : ∀ z : Got Z back, K (.ret, bck z.it) := by
      intro z
      cases hr with
      | true => exact (hall0 false).2 rfl z
      | false =>
        rcases hno with h | h
        · cases h
        · exact (h z.it).elim
    have hbs : bs.length = n := by rw [R.len, hn]
    have key : ∀ (m : Nat) (x : X) (more : List Nat) (a : Act) (w : World), mu x < m → inv x → TOk (bs ++ more) (st x).ts a → TWf (lt (st x).h.length) (st x).ts → Rep (lt (st x).h.length) w0 (bs ++ more) (st x).h w → Code.rounds P c Q m a w := by
      intro m
      induction m with
      | zero => intro x more a w h; omega
      | succ m ih =>
        intro x more a w hm hi ht hw R
        rw [rounds_succ]
        have hs := (step x hi).holds
        unfold roundT at hs
        rw [T.holds_bind] at hs
        refine codeT_ok B.mixed B.names B.eqs C.ok C.there hcall hL c (bs ++ more) (st x) _ _ a w hs ht hw R ?_
        intro more2 e s' a' w' hk ht' hw' R'
        rw [List.append_assoc] at ht' R'
        cases e with
        | normal =>
          simp only at hk
          split at hk
          · rename_i x' hx
            obtain ⟨hle, hi', hmu⟩ := leqT_ok hk
            obtain ⟨more', h1, h2, h3⟩ := hle.use (hst x') hbs ht' R'
            exact ih x' more' a' w' (by omega) hi' h1 h2 h3
          · exact hk.elim
        | exit i =>
          simp only at hk
          split at hk
          · rename_i hi
            have hi := Nat.eq_of_beq_eq_true hi
            subst hi
            split at hk
            · rename_i y hy
              obtain ⟨hle, hp⟩ := leqT_ok hk
              obtain ⟨more', h1, h2, h3⟩ := hle.use (hfin y) hbs ht' R'
              exact hQ more' (.exit i) (fin y) a' w' (hall ⟨y, hp⟩) h1 h2 h3
            · exact hk.elim
          · exact hk.elim
        | ret =>
          simp only at hk
          split at hk
          · rename_i z hz
            obtain ⟨hle, hp⟩ := leqT_ok hk
            obtain ⟨more', h1, h2, h3⟩ := hle.use (hbck z) hbs ht' R'
            exact hQ more' .ret (bck z) a' w' (hback ⟨z, hp⟩) h1 h2 h3
          · exact hk.elim
        | goto l => exact hk.elim
    obtain ⟨more', h1, h2, h3⟩ := hle.use (more := []) (hst x0) hbs (by rw [List.append_nil]; exact ht) (by rw [List.append_nil]; exact R)
    exact wp_loop_rounds (mu x0 + 1) (key _ x0 more' a w (by omega) hi h1 h2 h3)
  · exact hK.elim

theorem least {p : Nat → Prop} : ∀ {m : Nat}, p m → ∃ m, p m ∧ ∀ k, k < m → ¬ p k := by
  intro m
  induction m using Nat.strongRecOn with
  | _ m ih =>
    intro h
    by_cases h2 : ∃ k, k < m ∧ p k
    · obtain ⟨k, hk, hp⟩ := h2
      exact ih k hk hp
    · exact ⟨m, h, fun k hk hp => h2 ⟨k, hk, hp⟩⟩
open Classical in
theorem scope_ok {P : Program} {w0 : World} {eqT : TypeId → Bool} {ctr : FuncId → List AV → List Blk → Option (T AV × Option Nat)} {call : FuncId → List AV → List Blk → T (AV × List Blk)} {lc : Nat → ASt → Option (Code × T (Ex × ASt))}
    (B : Base P eqT) (C : Ctrs P w0 ctr) (hcall : CallOk P w0 call) (hL : LcOk P w0 lc) {c rest : Code} {l : Nat} (hf : findLabel c l = some rest) {n : Nat} {X Z : Type} {ro rr : ASt → List (Option Nat)} {st : X → ASt} {bck : Z → ASt} {nx : ASt → Option X} {bx : ASt → Option Z}
    {inv : X → Prop} {back : Z → Prop} (mu : X → Nat) {nf nf'' : Nat} (hst : ∀ x, (st x).fine nf = true) (hbck : ∀ z, (bck z).fine nf'' = true)
    (step : ∀ x, inv x → Hid (passT P w0 eqT ctr call lc rest l n ro rr st bck nx bx x) (Kept inv (fun _ => False) back mu x)) (s0 : ASt) : LoopOk P w0 777 (.scope c) s0 (firstT P w0 eqT ctr call lc c l n ro st bck inv back nx s0) := by
  intro bs K Q a w hK ht hw R hQ
  unfold firstT at hK
  split at hK
  · rename_i hn
    have hn := Nat.eq_of_beq_eq_true hn
    have hbs : bs.length = n := by rw [R.len, hn]
    rw [T.holds_bind] at hK
    -- what holds at each jump
    let J : Act → World → Nat → Prop := fun a w m => ∃ x more, mu x = m ∧ inv x ∧ (∀ z : Got Z back, K (.ret, bck z.it)) ∧ TOk (bs ++ more) (st x).ts a ∧ TWf (lt (st x).h.length) (st x).ts ∧ Rep (lt (st x).h.length) w0 (bs ++ more) (st x).h w
    let μ : Act → World → Nat := fun a w => if h : ∃ m, J a w m then Classical.choose (least (Classical.choose_spec h)) else 0
    have hμ : ∀ a w m, J a w m → J a w (μ a w) ∧ μ a w ≤ m := by
      intro a w m hm
      have h : ∃ m, J a w m := ⟨m, hm⟩
      have e : μ a w = Classical.choose (least (Classical.choose_spec h)) := dif_pos h
      have hs := Classical.choose_spec (least (Classical.choose_spec h))
      rw [e]
      exact ⟨hs.1, Nat.le_of_not_lt fun hlt => hs.2 m hlt hm⟩
    refine wp_scope_jumps l (fun a w => ∃ m, J a w m) μ hf ?_ ?_
    · refine codeT_ok B.mixed B.names B.eqs C.ok C.there hcall hL c bs s0 _ _ a w hK ht hw R ?_
      intro more e s' a' w' hk ht' hw' R'
      cases e with
      | normal => exact hQ more .normal s' a' w' hk ht' hw' R'
      | ret => exact hQ more .ret s' a' w' hk ht' hw' R'
      | exit i => exact hk.elim
      | goto l' =>
        simp only at hk
        split at hk
        · rename_i hl
          have hl := Nat.eq_of_beq_eq_true hl
          subst hl
          split at hk
          · rename_i x hx
            obtain ⟨hle, hi, hall⟩ := leqT_ok hk
            obtain ⟨more', h1, h2, h3⟩ := hle.use (hst x) hbs ht' R'
            exact ⟨rfl, mu x, x, more', rfl, hi, hall, h1, h2, h3⟩
          · exact hk.elim
        · exact hk.elim
    · intro a w ⟨m, hm⟩
      obtain ⟨⟨x, more, hx, hi, hall, h1, h2, h3⟩, _⟩ := hμ a w m hm
      have hs := (step x hi).holds
      unfold passT at hs
      rw [T.holds_bind] at hs
      refine codeT_ok B.mixed B.names B.eqs C.ok C.there hcall hL rest (bs ++ more) (st x) _ _ a w hs h1 h2 h3 ?_
      intro more2 e s' a' w' hk ht' hw' R'
      rw [List.append_assoc] at ht' R'
      cases e with
      | normal => exact hk.elim
      | exit i => exact hk.elim
      | ret =>
        simp only at hk
        split at hk
        · rename_i z hz
          obtain ⟨hle, hp⟩ := leqT_ok hk
          obtain ⟨more', g1, g2, g3⟩ := hle.use (hbck z) hbs ht' R'
          exact hQ more' .ret (bck z) a' w' (hall ⟨z, hp⟩) g1 g2 g3
        · exact hk.elim
      | goto l' =>
        simp only at hk
        split at hk
        · rename_i hl
          have hl := Nat.eq_of_beq_eq_true hl
          subst hl
          split at hk
          · rename_i x' hx'
            obtain ⟨hle, hi', hlt⟩ := leqT_ok hk
            obtain ⟨more', g1, g2, g3⟩ := hle.use (hst x') hbs ht' R'
            have hj : J a' w' (mu x') := ⟨x', more', rfl, hi', hall, g1, g2, g3⟩
            refine ⟨rfl, ⟨_, hj⟩, ?_⟩
            have := (hμ a' w' _ hj).2
            omega
          · exact hk.elim
        · exact hk.elim
  · exact hK.elim

/-! ### What is left of a function, told from without -/
section
variable (P : Program) (w0 : World) (eqT : TypeId → Bool) (ctr : FuncId → List AV → List Blk → Option (T AV × Option Nat)) (call : FuncId → List AV → List Blk → T (AV × List Blk)) (lc : Nat → ASt → Option (Code × T (Ex × ASt)))
/-- From a state on, to the end. -/
def tailT (c : Code) (n : Nat) {Z : Type} (rr : ASt → List (Option Nat)) (bck : Z → ASt) (bx : ASt → Option Z) (s : ASt) : T Z :=
  (codeT P w0 eqT ctr call lc c s).bind fun r => match r.1 with
    | .ret => match bx r.2 with
      | some z => leqT n (rr r.2) r.2 (bck z) (.leaf z)
      | none => .fail "ret"
    | _ => .fail "end"
end
def cutT (n : Nat) {X Z : Type} (ro : ASt → List (Option Nat)) (st : X → ASt) (bck : Z → ASt) (inv : X → Prop) (back : Z → Prop) (s0 : ASt) (x0 : X) : T (Ex × ASt) := match Nat.beq s0.h.length n with
  | true => leqT n (ro s0) s0 (st x0) (.chk (inv x0) (.all fun z : Got Z back => .leaf (.ret, bck z.it)))
  | false => .fail "heap"
theorem cut_ok {P : Program} {w0 : World} {eqT : TypeId → Bool} {ctr : FuncId → List AV → List Blk → Option (T AV × Option Nat)} {call : FuncId → List AV → List Blk → T (AV × List Blk)} {lc : Nat → ASt → Option (Code × T (Ex × ASt))}
    (B : Base P eqT) (C : Ctrs P w0 ctr) (hcall : CallOk P w0 call) (hL : LcOk P w0 lc) {c : Code} {id n : Nat} {X Z : Type} {ro rr : ASt → List (Option Nat)} {st : X → ASt} {bck : Z → ASt} {bx : ASt → Option Z}
    {inv : X → Prop} {back : Z → Prop} {nf nf'' : Nat} (hst : ∀ x, (st x).fine nf = true) (hbck : ∀ z, (bck z).fine nf'' = true)
    (step : ∀ x, inv x → Hid (tailT P w0 eqT ctr call lc c n rr bck bx (st x)) back) (s0 : ASt) (x0 : X) : LoopOk P w0 id c s0 (cutT n ro st bck inv back s0 x0) := by
  intro bs K Q a w hK ht hw R hQ
  unfold cutT at hK
  split at hK
  · rename_i hn
    have hn := Nat.eq_of_beq_eq_true hn
    have hbs : bs.length = n := by rw [R.len, hn]
    obtain ⟨hle, hi, hall⟩ := leqT_ok hK
    obtain ⟨more, h1, h2, h3⟩ := hle.use (more := []) (hst x0) hbs (by rw [List.append_nil]; exact ht) (by rw [List.append_nil]; exact R)
    have hs := (step x0 hi).holds
    unfold tailT at hs
    rw [T.holds_bind] at hs
    refine codeT_ok B.mixed B.names B.eqs C.ok C.there hcall hL c (bs ++ more) (st x0) _ _ a w hs h1 h2 h3 ?_
    intro more2 e s' a' w' hk ht' hw' R'
    rw [List.append_assoc] at ht' R'
    cases e with
    | normal => exact hk.elim
    | exit i => exact hk.elim
    | goto l => exact hk.elim
    | ret =>
      simp only at hk
      split at hk
      · rename_i z hz
        obtain ⟨hle, hp⟩ := leqT_ok hk
        obtain ⟨more', g1, g2, g3⟩ := hle.use (hbck z) hbs ht' R'
        exact hQ more' .ret (bck z) a' w' (hall ⟨z, hp⟩) g1 g2 g3
      · exact hk.elim
  · exact hK.elim

/-! ### Where a loop's text lies -/
def scopeIn : Code → Option Code
  | .scope c => some c
  | .seq a b => match scopeIn a with
    | some c => some c
    | none => scopeIn b
  | _ => none
def scopeAt (P : Program) (f : FuncId) : Code := match P.funcs[f]? with
  | some fn => match fn.body with
    | some c => match scopeIn c with
      | some b => b
      | none => .skip
    | none => .skip
  | none => .skip
def restAt (c : Code) (l : Nat) : Code := match findLabel c l with
  | some r => r
  | none => .skip
def blockIn (id : Nat) : Code → Option Code
  | .block i b => match Nat.beq i id with
    | true => some b
    | false => blockIn id b
  | .seq a b => match blockIn id a with
    | some c => some c
    | none => blockIn id b
  | .cond _ a b => match blockIn id a with
    | some c => some c
    | none => blockIn id b
  | .loop b => blockIn id b
  | .scope b => blockIn id b
  | _ => none
def bodyAt (P : Program) (f : FuncId) (id : Nat) : Code := match P.funcs[f]? with
  | some fn => match fn.body with
    | some c => match blockIn id c with
      | some b => b
      | none => .skip
    | none => .skip
  | none => .skip
def roundOf : Code → Code
  | .loop c => c
  | c => c
/-- A loop: where it stands, and what it comes to. -/
structure Lp where
  f : FuncId
  id : Nat
  ask : ASt → Option (T (Ex × ASt))
def sufIn (id : Nat) : Code → Option Code
  | .seq a b => match (match a with
      | .region i _ _ => Nat.beq i id
      | _ => false) with
    | true => some (.seq a b)
    | false => match sufIn id b with
      | some c => some c
      | none => sufIn id a
  | _ => none
/-- What is left of a function from a region on. -/
def sufAt (P : Program) (f : FuncId) (id : Nat) : Code := match P.funcs[f]? with
  | some fn => match fn.body with
    | some c => match sufIn id c with
      | some b => b
      | none => .skip
    | none => .skip
  | none => .skip
def textAt (P : Program) (f : FuncId) (id : Nat) : Code := match Nat.ble 5000 id with
  | true => match Nat.ble 20000 id with
    | true => sufAt P f (id - 20000)
    | false => .skip
  | false => match Nat.beq id 777 with
    | true => .scope (scopeAt P f)
    | false => bodyAt P f id
def lpOf (P : Program) : List Lp → FuncId → Nat → ASt → Option (Code × T (Ex × ASt))
  | [], _, _, _ => none
  | l :: ls, f, id, s => match Nat.beq l.f f && Nat.beq l.id id with
    | true => match l.ask s with
      | some t => some (textAt P l.f l.id, t)
      | none => lpOf P ls f id s
    | false => lpOf P ls f id s
def Lp.ok (P : Program) (w0 : World) (l : Lp) : Prop := ∀ s t, l.ask s = some t → LoopOk P w0 l.id (textAt P l.f l.id) s t
theorem lps_ok {P : Program} {w0 : World} : ∀ {ls : List Lp}, (∀ l ∈ ls, l.ok P w0) → LcsOk P w0 (lpOf P ls)
  | [], _ => fun _ _ _ _ _ h => by cases h
  | l :: ls, h => fun f id s body t e => by
    unfold lpOf at e
    split at e
    · rename_i hh
      simp only [Bool.and_eq_true] at hh
      split at e
      · rename_i t' he
        cases e
        have := h l (List.mem_cons_self ..) s t he
        rw [Nat.eq_of_beq_eq_true hh.2] at this
        rw [← Nat.eq_of_beq_eq_true hh.2]
        rw [← Nat.eq_of_beq_eq_true hh.2] at this
        exact this
      · exact lps_ok (fun l' hl => h l' (List.mem_cons_of_mem _ hl)) f id s body t e
    · exact lps_ok (fun l' hl => h l' (List.mem_cons_of_mem _ hl)) f id s body t e

/-- A region that is walked in each order. -/
def mixLp (f : FuncId) (region : Nat) : Lp := ⟨f, 5000 + region, fun s => match Nat.blt region 4000 with
  | true => some (.leaf (.normal, s))
  | false => none⟩
theorem mixLp_ok (P : Program) (w0 : World) (f : FuncId) (region : Nat) : (mixLp f region).ok P w0 := fun s t h => by
  have hr : region < 4000 := by
    unfold mixLp at h
    simp only at h
    split at h
    · rename_i hb
      simpa [Nat.blt_eq] using hb
    · cases h
  have hs : textAt P f (5000 + region) = .skip := by
    unfold textAt
    rw [show Nat.ble 5000 (5000 + region) = true by rw [Nat.ble_eq]; omega]
    simp only
    rw [show Nat.ble 20000 (5000 + region) = false by rw [Bool.eq_false_iff, Ne, Nat.ble_eq]; omega]
  have h : some (T.leaf (Ex.normal, s)) = some t := by
    unfold mixLp at h
    simp only at h
    split at h
    · exact h
    · cases h
  cases h
  intro bs K Q a w hK ht hw R hQ
  show (textAt P f (5000 + region)).wp P Q a w
  rw [hs]
  exact wp_skip (hQ.now hK ht hw R)
/-- A region without memory, whose paths are made one: what its last operation comes to is kept. -/
def oneLp (f : FuncId) (region : Nat) : Lp := ⟨f, 9000 + region, fun s => match Nat.blt region 4000 with
  | true => some (.leaf (.normal, s))
  | false => none⟩
theorem oneLp_ok (P : Program) (w0 : World) (f : FuncId) (region : Nat) : (oneLp f region).ok P w0 := fun s t h => by
  have hr : region < 4000 := by
    unfold oneLp at h
    simp only at h
    split at h
    · rename_i hb
      simpa [Nat.blt_eq] using hb
    · cases h
  have hs : textAt P f (9000 + region) = .skip := by
    unfold textAt
    rw [show Nat.ble 5000 (9000 + region) = true by rw [Nat.ble_eq]; omega]
    simp only
    rw [show Nat.ble 20000 (9000 + region) = false by rw [Bool.eq_false_iff, Ne, Nat.ble_eq]; omega]
  have h : some (T.leaf (Ex.normal, s)) = some t := by
    unfold oneLp at h
    simp only at h
    split at h
    · exact h
    · cases h
  cases h
  intro bs K Q a w hK ht hw R hQ
  show (textAt P f (9000 + region)).wp P Q a w
  rw [hs]
  exact wp_skip (hQ.now hK ht hw R)
/-! ### What a state has -/
/-- The row that a slot's slice is of. -/
def rowAt (s : ASt) (t : Nat) : Option Nat := match s.ts[t]? with
  | some (.v (.one (.gs r _ _ _ _ _))) => some r
  | _ => none
def rowIn (s : ASt) (r q : Nat) : Option Nat := match s.h[r]? with
  | some k => match k.cells[q]? with
    | some (.gs r' _ _ _ _ _) => some r'
    | _ => none
  | none => none
/-- The frames that a slot's slice is of. -/
def gF (s : ASt) (t : Nat) : Option (List Fr) := match s.ts[t]? with
  | some (.v (.one (.gs r _ _ _ _ _))) => match s.h[r]? with
    | some k => match k.cells with
      | [.frs _ fs _] => some fs
      | _ => none
    | none => none
  | some (.v (.one .nos)) => some []
  | _ => none
/-- Its content, length, room, and whether it is none. -/
def gX (s : ASt) (t : Nat) : Option (List Int) := match s.ts[t]? with
  | some (.v (.one (.gs r _ _ _ _ _))) => match s.h[r]? with
    | some k => match k.cells with
      | [.row _ _ xs _] => some xs
      | _ => none
    | none => none
  | some (.v (.one .nos)) => some []
  | _ => none
def gL (s : ASt) (t : Nat) : Option Nat := match s.ts[t]? with
  | some (.v (.one (.gs _ _ _ _ len _))) => some len
  | some (.v (.one (.xr _ _ _ len _))) => some len
  | some (.v (.one .nos)) => some 0
  | _ => none
def gC (s : ASt) (t : Nat) : Option Nat := match s.ts[t]? with
  | some (.v (.one (.gs _ _ _ _ _ cap))) => some cap
  | some (.v (.one (.xr _ _ _ _ cap))) => some cap
  | some (.v (.one .nos)) => some 0
  | _ => none
def gN (s : ASt) (t : Nat) : Option Bool := match s.ts[t]? with
  | some (.v (.one (.gs _ nl _ _ _ _))) => some nl
  | some (.v (.one .nos)) => some true
  | _ => none
def gO (s : ASt) (t : Nat) : Option Nat := match s.ts[t]? with
  | some (.v (.one (.gs _ _ _ off _ _))) => some off
  | some (.v (.one .nos)) => some 0
  | _ => none
def gA (s : ASt) (t : Nat) : Option (Option Addr) := match s.ts[t]? with
  | some (.v (.one (.xr a _ _ _ _))) => some a
  | _ => none
def gXs (s : ASt) (t : Nat) : Option (List Int) := match s.ts[t]? with
  | some (.v (.one (.xr _ _ xs _ _))) => some xs
  | _ => none
def gI (s : ASt) (t : Nat) : Option Int := match s.ts[t]? with
  | some (.v (.one (.int _ _ n))) => some n
  | _ => none
def gB (s : ASt) (t : Nat) : Option Bool := match s.ts[t]? with
  | some (.v (.one (.bool _ b))) => some b
  | _ => none
def hS (s : ASt) (r q : Nat) : Option Sc := match s.h[r]? with
  | some k => k.cells[q]?
  | none => none
def hI (s : ASt) (r q : Nat) : Option Int := match hS s r q with
  | some (.int _ _ n) => some n
  | _ => none
def hB (s : ASt) (r q : Nat) : Option Bool := match hS s r q with
  | some (.bool _ b) => some b
  | _ => none
def slots : List AV → List (Nat × AV) → List AV
  | l, [] => l
  | l, (t, x) :: r => slots (l.set t x) r
end Go.Proofs.Ytmbahohmiecfiaa.sym
