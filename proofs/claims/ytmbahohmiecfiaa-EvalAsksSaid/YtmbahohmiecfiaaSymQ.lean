/-
  The walk by computing: contracts of calls that look at one block of the walk's own and come to a value. Conditions stand in each theorem.
-/
import Derived.Test.YtmbahohmiecfiaaSymC
namespace Go.Proofs.Ytmbahohmiecfiaa.sym
open Go.RowKit
set_option linter.unusedVariables false
set_option linter.unusedSimpArgs false
/-- What a call sees: values, and one block. -/
def casQ (h : List Blk) : List (Option (List IntKind)) → List AV → Option (List CA × Option Nat)
  | [], [] => some ([], none)
  | none :: sg, x :: xs => match x.own, casQ h sg xs with
    | true, some (l, ro) => some (.av x :: l, ro)
    | _, _ => none
  | some ks :: sg, .v (.one (.os r off len cap)) :: xs => match casQ h sg xs, h[r]? with
    | some (l, none), some k => match k.plain, intsAs ks 0 ((k.cells.drop off).take (len * ks.length)) with
      | true, some ys => if 0 < ks.length ∧ ys.length = len * ks.length ∧ len ≤ cap then some (.row ks len ys :: l, some r) else none
      | _, _ => none
    | _, _ => none
  | some ks :: sg, .v (.one (.ptr r off)) :: xs => match casQ h sg xs, h[r]? with
    | some (l, none), some k => match k.plain, intsAs ks 0 (k.cells.drop off) with
      | true, some ys => if 0 < ks.length then some (.ptr ks ys :: l, some r) else none
      | _, _ => none
    | _, _ => none
  | some ks :: sg, .v (.one .nos) :: xs => match casQ h sg xs with
    | some (l, ro) => if 0 < ks.length then some (.row ks 0 [] :: l, ro) else none
    | none => none
  | _, _ => none
def T.noAll {α : Type} : T α → Bool
  | .leaf _ => true
  | .br _ t e => t.noAll && e.noAll
  | .chk _ t => t.noAll
  | .all _ => false
  | .fail _ => true
theorem T.pick {α : Type} {K : α → Prop} : ∀ {t : T α}, t.noAll = true → t.holds K → ∃ a, K a ∧ t.holds (· = a)
  | .leaf a, _, h => ⟨a, h, rfl⟩
  | .br c t e, hn, h => by
    simp only [T.noAll, Bool.and_eq_true] at hn
    cases c with
    | true =>
      obtain ⟨a, h1, h2⟩ := T.pick hn.1 (h.1 rfl)
      exact ⟨a, h1, fun _ => h2, fun hf => by cases hf⟩
    | false =>
      obtain ⟨a, h1, h2⟩ := T.pick hn.2 (h.2 rfl)
      exact ⟨a, h1, fun hf => (by cases hf), fun _ => h2⟩
  | .chk p t, hn, h => by
    obtain ⟨a, h1, h2⟩ := T.pick (t := t) hn h.2
    exact ⟨a, h1, h.1, h2⟩
  | .all f, hn, h => by cases hn
  | .fail s, hn, h => h.elim
def avs : List CR → Option (List V)
  | [] => some []
  | .av x :: l => match x.wf (lt 0), avs l with
    | true, some xs => some (x :: xs)
    | _, _ => none
  | _ => none
theorem avs_ok {w w' : World} {us : List Value} (bs : List Nat) : ∀ {rs : List CR} {vs : List Value} {xs : List V}, All2 (CR.Is w w' us) rs vs → avs rs = some xs → vs = xs.map (V.γ bs)
  | [], _, xs, .nil, e => by cases e; rfl
  | .av x :: l, _, xs, .cons h1 h2, e => by
    unfold avs at e
    split at e
    · rename_i ys hx hl
      cases e
      rw [List.map_cons, avs_ok bs h2 hl, h1.2, V.γ_like (like_none bs []) hx]
    · cases e
  | .cut _ _ _ _ :: _, _, _, _, e => by cases e
  | .row _ _ _ _ _ _ _ :: _, _, _, _, e => by cases e
theorem packA_ne (vs : List V) : packA vs ≠ .any := by
  match vs with
  | [] => exact fun h => by cases h
  | [x] => exact fun h => by cases h
  | x :: y :: r => exact fun h => by cases h
theorem packA_γ (bs : List Nat) (vs : List V) : (packA vs).γ bs = packV (vs.map (V.γ bs)) := by
  match vs with
  | [] => rfl
  | [x] => rfl
  | x :: y :: r => rfl
/-- The contracts of calls that look at one block. -/
def qctr (tab : List RCtr) (f : FuncId) (args : List AV) (h : List Blk) : Option (T AV × Option Nat) := match ctrFind tab f with
  | none => none
  | some c => match casQ h c.sig args with
    | none => none
    | some (cas, ro) => match c.ask cas with
      | none => none
      | some t => match t.noAll with
        | true => some (t.bind fun rs => match avs rs with
          | some vs => .leaf (packA vs)
          | none => .fail "results", ro)
        | false => none
/-- A block as a call sees it. -/
def Seen (w : World) (bs : List Nat) (h : List Blk) (ro : Option Nat) : Prop := ∀ r k, ro = some r → h[r]? = some k → k.plain = true → w.heap[bs.getD r 0]? = some (.cells (k.cells.map (Sc.γ bs)).toArray k.t (0, 0))
theorem seen_cell {w : World} {b : Nat} {l : List Value} {t : TypeId} (h : w.heap[b]? = some (.cells l.toArray t (0, 0))) {j : Nat} {v : Value} (hj : l[j]? = some v) : w.cell? ⟨b, j, none⟩ = some v := by
  simp [World.cell?, h, hj]
theorem casQ_ok {w : World} {bs : List Nat} {h : List Blk} : ∀ {sg : List (Option (List IntKind))} {args : List AV} {us : List Value} {cas : List CA} {ro : Option Nat}, casQ h sg args = some (cas, ro) → us.length = args.length →
    (∀ (j : Nat) (y : AV), args[j]? = some y → y.Is bs (us.getD j undef)) → Seen w bs h ro → All2 (CA.Is w) cas us := by
  intro sg
  induction sg with
  | nil =>
    intro args us cas ro e hl hu hs
    cases args with
    | nil =>
      cases e
      have : us = [] := List.eq_nil_of_length_eq_zero (by simpa using hl)
      subst this
      exact .nil
    | cons => simp [casQ] at e
  | cons s sg ih =>
    intro args us cas ro e hl hu hs
    match args, us, hl with
    | [], _, _ => cases s <;> simp [casQ] at e
    | x :: xs, u :: us, hl =>
      have hl' : us.length = xs.length := by simpa using hl
      have hx : x.Is bs u := hu 0 x rfl
      have hu' : ∀ (j : Nat) (y : AV), xs[j]? = some y → y.Is bs (us.getD j undef) := fun j y hj => hu (j + 1) y (by simpa using hj)
      unfold casQ at e
      split at e
      · rename_i h1 _
        cases h1
      · rename_i sg' x' xs' h1 h2
        cases h1
        cases h2
        split at e
        · rename_i l ro' ho hl2
          cases e
          refine .cons ⟨ho, ?_⟩ (ih hl2 hl' hu' hs)
          rw [hx.eq (AV.own_ne ho), AV.γ_any (bs' := []) (AV.own_wf ho)]
        · cases e
      · rename_i ks sg' r off len cap xs' h1 h2
        cases h1
        cases h2
        split at e
        · rename_i l k hl2 hr
          split at e
          · rename_i ys hp hy
            split at e
            · rename_i hk
              cases e
              obtain ⟨k0, k1, k2⟩ := hk
              refine .cons ⟨k0, k1, _, cap, ⟨hx, k2⟩, .inr ⟨_, rfl, fun j v hj => ?_⟩⟩ (ih hl2 hl' hu' (fun _ _ e => by cases e))
              have hw := hs r k rfl hr hp
              obtain ⟨g0, rfl⟩ := rowVals_some hj
              obtain ⟨g1, g2⟩ := intsAs_ok (bs := bs) _ _ _ hy
              have g3 := g2 j (by rw [← g1]; exact g0)
              rw [Nat.zero_add] at g3
              rw [add_plain]
              refine seen_cell hw ?_
              rw [List.getElem?_map, ← g3]
              have : ((k.cells.drop off).take (len * ks.length))[j]? = k.cells[off + j]? := by
                rw [List.getElem?_take, if_pos (by omega), List.getElem?_drop]
              rw [this]
            · cases e
          · cases e
        · cases e
      · rename_i ks sg' r off xs' h1 h2
        cases h1
        cases h2
        split at e
        · rename_i l k hl2 hr
          split at e
          · rename_i ys hp hy
            split at e
            · rename_i hk
              cases e
              refine .cons ⟨hk, bs.getD r 0, off, hx, fun j hj => ?_⟩ (ih hl2 hl' hu' (fun _ _ e => by cases e))
              have hw := hs r k rfl hr hp
              obtain ⟨g1, g2⟩ := intsAs_ok (bs := bs) _ _ _ hy
              have g3 := g2 j (by rw [← g1]; exact hj)
              rw [Nat.zero_add] at g3
              refine seen_cell hw ?_
              rw [List.getElem?_map, ← g3, List.getElem?_drop]
            · cases e
          · cases e
        · cases e
      · rename_i ks sg' xs' h1 h2
        cases h1
        cases h2
        split at e
        · rename_i l ro' hl2
          split at e
          · rename_i hk
            cases e
            exact .cons ⟨hk, by simp, none, 0, ⟨hx, Nat.le_refl _⟩, .inl ⟨rfl, rfl⟩⟩ (ih hl2 hl' hu' hs)
          · cases e
        · cases e
      · cases e
theorem qctr_ok {P : Program} {tab : List RCtr} {w0 : World} (hok : ∀ c ∈ tab, c.Ok P w0) : Ctrs P w0 (qctr tab) := by
  refine ⟨fun f args h t ro ht K hK => ?_, fun f args h t ht => ?_⟩
  · unfold qctr at ht
    split at ht
    · cases ht
    · rename_i c hc
      obtain ⟨hm, rfl⟩ := ctrFind_mem hc
      have ok := hok c hm
      split at ht
      · cases ht
      · rename_i cas ro' hcas
        split at ht
        · cases ht
        · rename_i t' hask
          split at ht
          · rename_i hna
            cases ht
            rw [T.holds_bind] at hK
            obtain ⟨rs, hrs, hp⟩ := T.pick hna hK
            split at hrs
            · rename_i vs hvs
              refine ⟨packA vs, hrs, packA_ne vs, fun bs us hlen hus w hb hsee => ?_⟩
              refine (ok.it w hb cas us t' hask (casQ_ok hcas hlen hus hsee) _ hp).mono fun e w' ⟨rs', vs', hr, ha, he, hb⟩ => ⟨?_, hb⟩
              subst hr
              rw [he, packA_γ, avs_ok bs ha hvs]
            · exact hrs.elim
          · cases ht
  · unfold qctr at ht
    split at ht
    · cases ht
    · rename_i c hc
      obtain ⟨hm, rfl⟩ := ctrFind_mem hc
      exact (hok c hm).there
/-- One table, or else the other. -/
def ctrOr (c1 c2 : FuncId → List AV → List Blk → Option (T AV × Option Nat)) (f : FuncId) (args : List AV) (h : List Blk) : Option (T AV × Option Nat) := match c1 f args h with
  | some t => some t
  | none => c2 f args h
theorem ctrOr_ok {P : Program} {w0 : World} {c1 c2 : FuncId → List AV → List Blk → Option (T AV × Option Nat)} (h1 : Ctrs P w0 c1) (h2 : Ctrs P w0 c2) : Ctrs P w0 (ctrOr c1 c2) := by
  refine ⟨fun f args h t ro ht => ?_, fun f args h t ht => ?_⟩
  · unfold ctrOr at ht
    split at ht
    · rename_i t' ht'
      cases ht
      exact h1.ok f args h _ _ ht'
    · exact h2.ok f args h _ _ ht
  · unfold ctrOr at ht
    split at ht
    · rename_i t' ht'
      exact h1.there f args h _ ht'
    · exact h2.there f args h _ ht
end Go.Proofs.Ytmbahohmiecfiaa.sym
