/-
  The walk by computing: contracts of functions that change blocks, within a frame: they see the blocks that they can reach, and leave all others as they are. Conditions stand in each theorem.
-/
import Derived.Test.YtmbahohmiecfiaaSymQ
namespace Go.Proofs.Ytmbahohmiecfiaa.sym
open Go.RowKit
set_option linter.unusedVariables false
set_option linter.unusedSimpArgs false

/-! ### Other names -/
def renSc (ρ : Nat → Nat) : Sc → Sc
  | .ptr r off => .ptr (ρ r) off
  | .fn f caps => .fn f (caps.map fun c => (ρ c.1, c.2))
  | .os r off len cap => .os (ρ r) off len cap
  | .gs r nl sz off len cap => .gs (ρ r) nl sz off len cap
  | .rp r sz i q => .rp (ρ r) sz i q
  | .fz r f => .fz (ρ r) f
  | .fq r f i => .fq (ρ r) f i
  | .iz r b off xs cap => .iz (ρ r) b off xs cap
  | s => s
def renV (ρ : Nat → Nat) : V → V
  | .one s => .one (renSc ρ s)
  | .agg cs => .agg (cs.map (renSc ρ))
def renAV (ρ : Nat → Nat) : AV → AV
  | .v x => .v (renV ρ x)
  | .tuple vs => .tuple (vs.map (renV ρ))
  | x => x
def renBlk (ρ : Nat → Nat) (k : Blk) : Blk := ⟨k.cells.map (renSc ρ), k.t⟩
/-- The new numbers at the new names are the old ones at the old names. -/
def Maps (m : Nat → Bool) (ρ : Nat → Nat) (bs bs' : List Nat) : Prop := ∀ r, m r = true → bs'.getD (ρ r) 0 = bs.getD r 0
theorem renSc_γ {m : Nat → Bool} {ρ : Nat → Nat} {bs bs' : List Nat} (hm : Maps m ρ bs bs') {s : Sc} (h : s.wf m = true) : (renSc ρ s).γ bs' = s.γ bs := by
  cases s <;> try rfl
  · simp only [renSc, Sc.γ]; rw [hm _ h]
  · rename_i f caps
    simp only [renSc, Sc.γ, List.map_map]
    congr 2
    apply List.map_congr_left
    intro c hc
    simp only [Function.comp, capV]
    rw [hm _ (List.all_eq_true.1 h c hc)]
  · simp only [renSc, Sc.γ]; rw [hm _ h]
  · simp only [renSc, Sc.γ]; rw [hm _ h]
  · simp only [renSc, Sc.γ]; rw [hm _ h]
theorem renL_γ {m : Nat → Bool} {ρ : Nat → Nat} {bs bs' : List Nat} (hm : Maps m ρ bs bs') {l : List Sc} (h : ∀ c ∈ l, c.wf m = true) : (l.map (renSc ρ)).map (Sc.γ bs') = l.map (Sc.γ bs) := by
  rw [List.map_map]
  exact List.map_congr_left fun c hc => renSc_γ hm (h c hc)
theorem renV_γ {m : Nat → Bool} {ρ : Nat → Nat} {bs bs' : List Nat} (hm : Maps m ρ bs bs') {v : V} (h : v.wf m = true) : (renV ρ v).γ bs' = v.γ bs := by
  cases v with
  | one s => exact renSc_γ hm h
  | agg cs => simp only [renV, V.γ]; rw [renL_γ hm fun c hc => List.all_eq_true.1 h c hc]
theorem renAV_is {m : Nat → Bool} {ρ : Nat → Nat} {bs bs' : List Nat} (hm : Maps m ρ bs bs') {x : AV} (h : x.wf m = true) {u : Value} (hu : x.Is bs u) : (renAV ρ x).Is bs' u := by
  cases x with
  | v x => show u = _; have hu : u = _ := hu; rw [hu]; exact (renV_γ hm h).symm
  | tuple vs =>
    have hu : u = .tuple (vs.map (V.γ bs)).toArray := hu
    show u = .tuple ((vs.map (renV ρ)).map (V.γ bs')).toArray
    rw [hu, List.map_map]
    congr 2
    exact (List.map_congr_left fun v hv => renV_γ hm (List.all_eq_true.1 h v hv)).symm
  | undef => exact hu
  | any => trivial
theorem renSc_wf {m m' : Nat → Bool} {ρ : Nat → Nat} (hm : ∀ r, m r = true → m' (ρ r) = true) {s : Sc} (h : s.wf m = true) : (renSc ρ s).wf m' = true := by
  cases s <;> try rfl
  · exact hm _ h
  · simp only [renSc, Sc.wf, List.all_map]
    exact List.all_eq_true.2 fun c hc => hm _ (List.all_eq_true.1 h c hc)
  · exact hm _ h
  · exact hm _ h
  · exact hm _ h
  · exact hm _ h
  · exact hm _ h
  · exact hm _ h
theorem renAV_wf {m m' : Nat → Bool} {ρ : Nat → Nat} (hm : ∀ r, m r = true → m' (ρ r) = true) {x : AV} (h : x.wf m = true) : (renAV ρ x).wf m' = true := by
  have hv : ∀ v : V, v.wf m = true → (renV ρ v).wf m' = true := fun v h => by
    cases v with
    | one s => exact renSc_wf hm h
    | agg cs =>
      simp only [renV, V.wf, List.all_map]
      exact List.all_eq_true.2 fun c hc => renSc_wf hm (List.all_eq_true.1 h c hc)
  cases x with
  | v x => exact hv x h
  | tuple vs =>
    simp only [renAV, AV.wf, List.all_map]
    exact List.all_eq_true.2 fun c hc => hv c (List.all_eq_true.1 h c hc)
  | undef => rfl
  | any => rfl
theorem renSc_real (ρ : Nat → Nat) (s : Sc) : (renSc ρ s).real = s.real := by cases s <;> rfl
theorem renSc_sign {ρ : Nat → Nat} {s : Sc} (h : (renSc ρ s).real = false) : renSc ρ s = s := by cases s <;> first | rfl | cases h
theorem renL_mark (ρ : Nat → Nat) (l : List Sc) : isMark (l.map (renSc ρ)) = isMark l := by
  match l with
  | [] => rfl
  | [c] => simp only [List.map_cons, List.map_nil, isMark_one, renSc_real]
  | a :: b :: l => simp only [List.map_cons, isMark_two]
theorem renL_one {ρ : Nat → Nat} {l : List Sc} {c : Sc} (hc : c.real = false) (h : l.map (renSc ρ) = [c]) : l = [c] := by
  match l, h with
  | [d], h =>
    simp only [List.map_cons, List.map_nil, List.cons.injEq, and_true] at h
    have hd : (renSc ρ d).real = false := by rw [h]; exact hc
    rw [← h, renSc_sign hd]
theorem renBlk_plain (ρ : Nat → Nat) (k : Blk) : (renBlk ρ k).plain = k.plain := by
  show (!isMark (k.cells.map (renSc ρ))) = !isMark k.cells
  rw [renL_mark]
theorem renBlk_frs (ρ : Nat → Nat) (k : Blk) : frsIn (renBlk ρ k) = frsIn k := by
  cases hk : frsIn k with
  | nil =>
    cases hr : frsIn (renBlk ρ k) with
    | nil => rfl
    | cons f l =>
      obtain ⟨nl, fs, cap, hc, hm⟩ := frsIn_some (k := renBlk ρ k) (f := f) (by rw [hr]; exact List.mem_cons_self ..)
      rw [frsIn_of (renL_one (c := .frs nl fs cap) rfl hc)] at hk
      subst hk
      cases hm
  | cons f l =>
    obtain ⟨nl, fs, cap, hc, hm⟩ := frsIn_some (k := k) (f := f) (by rw [hk]; exact List.mem_cons_self ..)
    have h2 : (renBlk ρ k).cells = [.frs nl fs cap] := by
      show k.cells.map (renSc ρ) = _
      rw [hc]; rfl
    rw [frsIn_of h2, ← hk, frsIn_of hc]
theorem renBlk_keep {ρ : Nat → Nat} {k : Blk} (h : keepIn k = none) : keepIn (renBlk ρ k) = none := by
  cases hr : keepIn (renBlk ρ k) with
  | none => rfl
  | some p =>
    obtain ⟨L, O⟩ := p
    have := renL_one (c := .keep L O) rfl (keepIn_some hr)
    rw [keepIn_of this] at h
    cases h
theorem renBlk_live {ρ : Nat → Nat} {k : Blk} : live (renBlk ρ k) ↔ live k := by
  unfold live
  rw [renBlk_plain]
  constructor
  · rintro (h | ⟨ks, xs, cap, h⟩ | ⟨fs, cap, h⟩)
    · exact .inl h
    · exact .inr (.inl ⟨ks, xs, cap, renL_one rfl h⟩)
    · exact .inr (.inr ⟨fs, cap, renL_one rfl h⟩)
  · rintro (h | ⟨ks, xs, cap, h⟩ | ⟨fs, cap, h⟩)
    · exact .inl h
    · exact .inr (.inl ⟨ks, xs, cap, by show k.cells.map (renSc ρ) = _; rw [h]; rfl⟩)
    · exact .inr (.inr ⟨fs, cap, by show k.cells.map (renSc ρ) = _; rw [h]; rfl⟩)
theorem renBlk_is {m : Nat → Bool} {ρ : Nat → Nat} {bs bs' : List Nat} (hm : Maps m ρ bs bs') {n0 : Nat} {w : World} {b : Nat} {k : Blk} (h : BlkIs n0 w bs b k) (hw : ∀ c ∈ k.cells, c.wf m = true) (hk : keepIn k = none) : BlkIs n0 w bs' b (renBlk ρ k) := by
  refine ⟨fun hp => ?_, fun ks xs cap hc => h.row ks xs cap (renL_one rfl hc), fun ks xs cap hc => h.nil ks xs cap (renL_one rfl hc), fun nl fs cap hc => h.frs nl fs cap (renL_one rfl hc), fun L O hc => ?_⟩
  · rw [renBlk_plain] at hp
    have := h.plain hp
    rw [← renL_γ hm hw] at this
    exact this
  · rw [renBlk_keep hk] at hc
    cases hc

/-! ### The blocks that a call can reach -/
def scRefs : Sc → List Nat
  | .ptr r _ => [r]
  | .fn _ caps => caps.map (·.1)
  | .os r _ _ _ => [r]
  | .gs r _ _ _ _ _ => [r]
  | .rp r _ _ _ => [r]
  | .fz r _ => [r]
  | .fq r _ _ => [r]
  | .iz r _ _ _ _ => [r]
  | _ => []
def lRefs : List Sc → List Nat
  | [] => []
  | c :: l => scRefs c ++ lRefs l
def vRefs : V → List Nat
  | .one s => scRefs s
  | .agg cs => lRefs cs
def avRefs : AV → List Nat
  | .v x => vRefs x
  | _ => []
def avsRefs : List AV → List Nat
  | [] => []
  | x :: l => avRefs x ++ avsRefs l
def posOf : List Nat → Nat → Option Nat
  | [], _ => none
  | n :: l, r => match Nat.beq n r with
    | true => some 0
    | false => match posOf l r with
      | some j => some (j + 1)
      | none => none
theorem posOf_some : ∀ {l : List Nat} {r j : Nat}, posOf l r = some j → l[j]? = some r
  | n :: l, r, j, h => by
    unfold posOf at h
    split at h
    · rename_i e
      cases h
      rw [Nat.eq_of_beq_eq_true e]
      rfl
    · split at h
      · rename_i j' hj
        cases h
        have := posOf_some (l := l) hj
        simpa using this
      · cases h
theorem posOf_none : ∀ {l : List Nat} {r : Nat}, posOf l r = none → r ∉ l
  | [], r, _ => by simp
  | n :: l, r, h => by
    unfold posOf at h
    split at h
    · cases h
    · rename_i e
      split at h
      · cases h
      · rename_i hj
        intro hm
        rcases List.mem_cons.1 hm with rfl | hm
        · rw [Nat.beq_refl] at e; cases e
        · exact posOf_none hj hm
def clos (h : List Blk) : Nat → List Nat → List Nat → List Nat
  | 0, _, acc => acc
  | _ + 1, [], acc => acc
  | g + 1, r :: todo, acc => match posOf acc r with
    | some _ => clos h g todo acc
    | none => match h[r]? with
      | some k => clos h g (todo ++ lRefs k.cells) (acc ++ [r])
      | none => clos h g todo acc
def inNs (ns : List Nat) (r : Nat) : Bool := (posOf ns r).isSome
def toS (ns : List Nat) (r : Nat) : Nat := match posOf ns r with
  | some j => j + 1
  | none => 0
def toB (ns : List Nat) (n0 : Nat) : Nat → Nat
  | 0 => 0
  | j + 1 => match ns[j]? with
    | some r => r
    | none => n0 + (j - ns.length)
def pick (h : List Blk) (ns : List Nat) : List Nat → Option (List Blk)
  | [] => some []
  | r :: l => match h[r]?, pick h ns l with
    | some k, some ks => match k.cells.all (Sc.wf (inNs ns)) && (keepIn k).isNone with
      | true => some (renBlk (toS ns) k :: ks)
      | false => none
    | _, _ => none
def mergeA (ns : List Nat) (n0 : Nat) (h1 : List Blk) : Nat → List Blk → List Blk
  | _, [] => []
  | i, k :: l => (match posOf ns i with
    | some j => match h1[j]? with
      | some k1 => renBlk (toB ns n0) k1
      | none => k
    | none => k) :: mergeA ns n0 h1 (i + 1) l
def mergeH (ns : List Nat) (h h1 : List Blk) : List Blk := mergeA ns h.length h1 0 h ++ (h1.drop ns.length).map (renBlk (toB ns h.length))
/-- Each name once. -/
def once (ns : List Nat) : Bool := (List.range ns.length).all fun j => match ns[j]? with
  | some r => match posOf ns r with
    | some i => Nat.beq i j
    | none => false
  | none => false
/-- Names of blocks that are there, not of what is kept. -/
def okName (n : Nat) (r : Nat) : Bool := Nat.blt 0 r && Nat.blt r (n + 1)
def okRes (ns : List Nat) (x : AV) (h1 : List Blk) : Bool := Nat.ble ns.length h1.length && (x.wf (okName h1.length) && h1.all fun k => k.cells.all (Sc.wf (okName h1.length)) && (keepIn k).isNone)
structure FCtr where
  f : FuncId
  ask : List AV → List Blk → Option (T (AV × List Blk))
def keepH (L : Nat → Option Obj) (O : Nat → Bool) (h : List Blk) : List Blk := ⟨[.keep L O], 0⟩ :: h
structure FCtr.Ok (P : Program) (w0 : World) (c : FCtr) : Prop where
  it : ∀ args h t, c.ask args h = some t → ∀ L O, CallOne P w0 c.f args (keepH L O h) (t.map fun r => (r.1, keepH L O r.2))
def fFind : List FCtr → FuncId → Option FCtr
  | [], _ => none
  | c :: l, f => match Nat.beq c.f f with
    | true => some c
    | false => fFind l f
def fpreOf (tab : List FCtr) (f : FuncId) (args : List AV) (h : List Blk) : Option (T (AV × List Blk)) := match fFind tab f with
  | none => none
  | some c =>
    let ns := clos h 200 (avsRefs args) []
    match once ns && args.all (AV.wf (inNs ns)) with
    | false => none
    | true => match pick h ns ns with
      | none => none
      | some hs => match c.ask (args.map (renAV (toS ns))) hs with
        | none => none
        | some t => some (t.bind fun r => match okRes ns r.1 r.2 with
          | true => .leaf (renAV (toB ns h.length) r.1, mergeH ns h r.2)
          | false => .fail "frame")
theorem fFind_mem : ∀ {tab : List FCtr} {f : FuncId} {c : FCtr}, fFind tab f = some c → c ∈ tab ∧ c.f = f
  | c0 :: l, f, c, h => by
    unfold fFind at h
    split at h
    · rename_i hb
      cases h
      exact ⟨List.mem_cons_self .., Nat.eq_of_beq_eq_true hb⟩
    · obtain ⟨h1, h2⟩ := fFind_mem h
      exact ⟨List.mem_cons_of_mem _ h1, h2⟩
theorem pick_len {h : List Blk} {ns : List Nat} : ∀ {l : List Nat} {hs : List Blk}, pick h ns l = some hs → hs.length = l.length ∧ ∀ (j r : Nat), l[j]? = some r → ∃ k, h[r]? = some k ∧ hs[j]? = some (renBlk (toS ns) k) ∧ (∀ c ∈ k.cells, c.wf (inNs ns) = true) ∧ keepIn k = none
  | [], hs, e => by cases e; exact ⟨rfl, fun j r hj => by simp at hj⟩
  | r :: l, hs, e => by
    unfold pick at e
    split at e
    · rename_i k ks hk hks
      split at e
      · rename_i hw
        cases e
        simp only [Bool.and_eq_true, Option.isNone_iff_eq_none] at hw
        obtain ⟨h1, h2⟩ := pick_len hks
        refine ⟨by simp [h1], fun j r' hj => ?_⟩
        cases j with
        | zero =>
          simp at hj
          subst hj
          exact ⟨k, hk, rfl, fun c hc => List.all_eq_true.1 hw.1 c hc, hw.2⟩
        | succ j => exact h2 j r' (by simpa using hj)
      · cases e
    · cases e
theorem mergeA_get (ns : List Nat) (n0 : Nat) (h1 : List Blk) : ∀ (l : List Blk) (i q : Nat), (mergeA ns n0 h1 i l)[q]? = (l[q]?).map fun k => match posOf ns (i + q) with
    | some j => match h1[j]? with
      | some k1 => renBlk (toB ns n0) k1
      | none => k
    | none => k
  | [], i, q => by simp [mergeA]
  | k :: l, i, 0 => by simp only [mergeA, Nat.add_zero, List.getElem?_cons_zero, Option.map_some]
  | k :: l, i, q + 1 => by
    simp only [mergeA, List.getElem?_cons_succ, mergeA_get ns n0 h1 l (i + 1) q]
    rw [show i + 1 + q = i + (q + 1) by omega]
theorem mergeA_len (ns : List Nat) (n0 : Nat) (h1 : List Blk) : ∀ (l : List Blk) (i : Nat), (mergeA ns n0 h1 i l).length = l.length
  | [], _ => rfl
  | k :: l, i => by simp [mergeA, mergeA_len ns n0 h1 l (i + 1)]
theorem okName_iff {n r : Nat} : okName n r = true ↔ 0 < r ∧ r < n + 1 := by simp [okName, Nat.blt_eq]

section
variable {ns : List Nat} {h h1 : List Blk}
/-- Which block of the call's a block is, or which of the others'. -/
theorem merge_cases (hns : ∀ (j r : Nat), ns[j]? = some r → r < h.length) (hle : ns.length ≤ h1.length) {i : Nat} {k : Blk} (hk : (mergeH ns h h1)[i]? = some k) :
    (∃ j k1, h1[j]? = some k1 ∧ k = renBlk (toB ns h.length) k1 ∧ toB ns h.length (j + 1) = i) ∨ (h[i]? = some k ∧ posOf ns i = none) := by
  unfold mergeH at hk
  have hl := mergeA_len ns h.length h1 h 0
  rcases Nat.lt_or_ge i h.length with hi | hi
  · rw [List.getElem?_append_left (by omega), mergeA_get, Nat.zero_add] at hk
    cases hh : h[i]? with
    | none => rw [hh] at hk; cases hk
    | some k0 =>
      rw [hh] at hk
      simp only [Option.map_some, Option.some.injEq] at hk
      cases hp : posOf ns i with
      | none => rw [hp] at hk; exact .inr ⟨congrArg some hk, rfl⟩
      | some j =>
        rw [hp] at hk
        have hj := posOf_some hp
        have hjl : j < h1.length := Nat.lt_of_lt_of_le (List.getElem?_eq_some_iff.1 hj).1 hle
        simp only [List.getElem?_eq_getElem hjl] at hk
        refine .inl ⟨j, h1[j], List.getElem?_eq_getElem hjl, hk.symm, ?_⟩
        show (match ns[j]? with | some r => r | none => _) = i
        rw [hj]
  · rw [List.getElem?_append_right (by omega), hl, List.getElem?_map, List.getElem?_drop] at hk
    cases hh : h1[ns.length + (i - h.length)]? with
    | none => rw [hh] at hk; cases hk
    | some k1 =>
      rw [hh] at hk
      simp only [Option.map_some, Option.some.injEq] at hk
      refine .inl ⟨_, k1, hh, hk.symm, ?_⟩
      show (match ns[ns.length + (i - h.length)]? with | some r => r | none => h.length + (ns.length + (i - h.length) - ns.length)) = i
      rw [List.getElem?_eq_none (by omega)]
      simp only
      omega
theorem merge_len (hle : ns.length ≤ h1.length) : (mergeH ns h h1).length = h.length + (h1.length - ns.length) := by
  unfold mergeH
  rw [List.length_append, mergeA_len, List.length_map, List.length_drop]
theorem toB_lt (hns : ∀ (j r : Nat), ns[j]? = some r → r < h.length) (hle : ns.length ≤ h1.length) {j : Nat} (hj : j < h1.length) : toB ns h.length (j + 1) < (mergeH ns h h1).length := by
  rw [merge_len hle]
  show (match ns[j]? with | some r => r | none => h.length + (j - ns.length)) < _
  split
  · rename_i r hr
    have := hns j r hr
    omega
  · rename_i hr
    have := List.getElem?_eq_none_iff.1 hr
    exact Nat.add_lt_add_left (by omega) _
end
theorem getD_map_some {l : List Nat} {bs : List Nat} {j r : Nat} (h : l[j]? = some r) : (l.map fun r => bs.getD r 0).getD j 0 = bs.getD r 0 := by
  rw [List.getD_eq_getElem?_getD, List.getElem?_map, h]
  rfl
open Classical in
theorem fpreOf_ok {P : Program} {tab : List FCtr} {w0 : World} (hok : ∀ c ∈ tab, c.Ok P w0) : PreOk P w0 (fpreOf tab) := by
  intro f args h t ht K hK
  unfold fpreOf at ht
  split at ht
  · cases ht
  rename_i c hc
  obtain ⟨hmem, rfl⟩ := fFind_mem hc
  have ok := hok c hmem
  simp only at ht
  generalize clos h 200 (avsRefs args) [] = ns at ht
  split at ht
  · cases ht
  rename_i hchk
  simp only [Bool.and_eq_true] at hchk
  obtain ⟨honce, hargs⟩ := hchk
  split at ht
  · cases ht
  rename_i hs hpick
  split at ht
  · cases ht
  rename_i t0 hask
  cases ht
  rw [T.holds_bind] at hK
  obtain ⟨hpl, hpk⟩ := pick_len hpick
  have hns : ∀ (j r : Nat), ns[j]? = some r → r < h.length := fun j r hj => by
    obtain ⟨k, hk, _⟩ := hpk j r hj
    exact (List.getElem?_eq_some_iff.1 hk).1
  have one : ∀ (j r : Nat), ns[j]? = some r → posOf ns r = some j := fun j r hj => by
    have := List.all_eq_true.1 honce j (List.mem_range.2 (List.getElem?_eq_some_iff.1 hj).1)
    simp only [hj] at this
    split at this
    · rename_i i hi
      rw [hi, Nat.eq_of_beq_eq_true this]
    · cases this
  -- the functions
  have there : ∃ fn, P.funcs[c.f]? = some fn ∧ fn.body.isSome = true := by
    refine (ok.it _ _ _ hask (fun _ => none) (fun _ => false) (fun r => ∃ y h2, r = (y, h2)) ?_).1
    rw [T.holds_map]
    exact T.mono (fun r _ => ⟨_, _, rfl⟩) _ hK
  refine ⟨there, fun bs us hlen hus w R => ?_⟩
  let Own : Nat → Prop := fun b => ∃ (r : Nat) (k : Blk), inNs ns r = true ∧ h[r]? = some k ∧ live k ∧ bs.getD r 0 = b
  let Oth : Nat → Prop := fun b => (∃ (r : Nat) (k : Blk), posOf ns r = none ∧ h[r]? = some k ∧ live k ∧ bs.getD r 0 = b) ∨ ∃ (r : Nat) (k : Blk) (L : Nat → Option Obj) (O : Nat → Bool), h[r]? = some k ∧ keepIn k = some (L, O) ∧ O b = true
  let L : Nat → Option Obj := fun b => if Own b then none else w.heap[b]?
  let O : Nat → Bool := fun b => decide (Oth b)
  have hO : ∀ b, O b = true ↔ Oth b := fun b => by simp [O]
  have lo : ∀ {r : Nat} {k : Blk}, h[r]? = some k → lt h.length r = true := fun hk => lt_iff.2 (List.getElem?_eq_some_iff.1 hk).1
  have notOwn : ∀ b, Oth b → ¬ Own b := by
    rintro b (⟨r, k, hr, hk, hl, e⟩ | ⟨r, k, L2, O2, hk, hkp, ho⟩) ⟨r2, k2, hr2, hk2, hl2, e2⟩
    · have := R.apart r r2 k k2 (lo hk) (lo hk2) hk hk2 hl hl2 (e.trans e2.symm)
      subst this
      unfold inNs at hr2
      rw [hr] at hr2
      cases hr2
    · obtain ⟨_, o, ho2⟩ := ((R.blk r k (lo hk) hk).keep L2 O2 hkp).2 b ho
      have := R.kept r k L2 O2 (lo hk) hk hkp r2 k2 (lo hk2) hk2 hl2
      rw [e2, ho2] at this
      cases this
  have hL : ∀ b o, L b = some o → w.heap[b]? = some o := fun b o h => by
    simp only [L] at h
    split at h
    · cases h
    · exact h
  have hLn : ∀ b, ¬ Own b → L b = w.heap[b]? := fun b h => by simp only [L, if_neg h]
  have hLo : ∀ b, Own b → L b = none := fun b h => by simp only [L, if_pos h]
  have othHere : ∀ b, Oth b → w0.heap.size ≤ b ∧ ∃ o, w.heap[b]? = some o := by
    rintro b (⟨r, k, hr, hk, hl, rfl⟩ | ⟨r, k, L2, O2, hk, hkp, ho⟩)
    · obtain ⟨g1, cur, g2⟩ := (R.blk r k (lo hk) hk).here hl
      exact ⟨g1, _, g2⟩
    · obtain ⟨g1, o, g2⟩ := ((R.blk r k (lo hk) hk).keep L2 O2 hkp).2 b ho
      exact ⟨g1, o, ((R.blk r k (lo hk) hk).keep L2 O2 hkp).1 b o g2⟩
  -- the small heap
  let bs0 : List Nat := 0 :: ns.map fun r => bs.getD r 0
  have hb0 : ∀ (j r : Nat), ns[j]? = some r → bs0.getD (j + 1) 0 = bs.getD r 0 := fun j r hj => by
    show (0 :: ns.map fun r => bs.getD r 0).getD (j + 1) 0 = _
    rw [List.getD_cons_succ]
    exact getD_map_some hj
  have mapS : Maps (inNs ns) (toS ns) bs bs0 := fun r hr => by
    unfold inNs at hr
    cases hp : posOf ns r with
    | none => rw [hp] at hr; cases hr
    | some j =>
      show bs0.getD (match posOf ns r with | some j => j + 1 | none => 0) 0 = _
      rw [hp]
      exact hb0 j r (posOf_some hp)
  have inS : ∀ r, inNs ns r = true → lt (ns.length + 1) (toS ns r) = true := fun r hr => by
    unfold inNs at hr
    cases hp : posOf ns r with
    | none => rw [hp] at hr; cases hr
    | some j =>
      have := (List.getElem?_eq_some_iff.1 (posOf_some hp)).1
      unfold toS
      rw [hp, lt_iff]
      simp only
      omega
  have small : ∀ {i : Nat} {k : Blk}, (keepH L O hs)[i]? = some k → (i = 0 ∧ k = ⟨[.keep L O], 0⟩) ∨ ∃ j r k0, i = j + 1 ∧ ns[j]? = some r ∧ h[r]? = some k0 ∧ k = renBlk (toS ns) k0 ∧ (∀ c ∈ k0.cells, c.wf (inNs ns) = true) ∧ keepIn k0 = none := by
    intro i k hk
    cases i with
    | zero => exact .inl ⟨rfl, by simpa [keepH] using hk.symm⟩
    | succ j =>
      right
      have hk : hs[j]? = some k := by simpa [keepH] using hk
      have hj : j < ns.length := by rw [← hpl]; exact (List.getElem?_eq_some_iff.1 hk).1
      obtain ⟨k0, g1, g2, g3, g4⟩ := hpk j ns[j] (List.getElem?_eq_getElem hj)
      rw [hk] at g2
      exact ⟨j, ns[j], k0, rfl, List.getElem?_eq_getElem hj, g1, Option.some.inj g2, g3, g4⟩
  have nolive : ¬ live ⟨[.keep L O], 0⟩ := fun hl => by
    have := live_keep hl
    simp [keepIn] at this
  have own : ∀ {j r : Nat} {k0 : Blk}, ns[j]? = some r → h[r]? = some k0 → live k0 → Own (bs.getD r 0) := fun {j r k0} hj hk hl => ⟨r, k0, by unfold inNs; rw [one j r hj]; rfl, hk, hl, rfl⟩
  have hlenS : (keepH L O hs).length = ns.length + 1 := by simp [keepH, hpl]
  have RS : Rep (lt (keepH L O hs).length) w0 bs0 (keepH L O hs) w := by
    rw [hlenS]
    refine ⟨R.below, by rw [hlenS]; simp [bs0], fun r hr => by rw [hlenS]; exact lt_iff.1 hr, fun i k hi hk => ?_, fun i i' k k' hi hi' hk hk' hl hl' e => ?_, fun i k hi hk cc hcc => ?_, fun i k hi hk f hf b off ha hne => ⟨fun i' k' hi' hk' hl' => ?_, fun i' k' L' O' hi' hk' hkp => ?_⟩, fun i k L' O' hi hk hkp i' k' hi' hk' hl' => ?_⟩
    · rcases small hk with ⟨rfl, rfl⟩ | ⟨j, r, k0, rfl, hj, hk0, rfl, hw, hkn⟩
      · refine ⟨fun h => (by cases h), fun ks xs cap h => (by cases h), fun ks xs cap h => (by cases h), fun nl fs cap h => (by cases h), fun L' O' h => ?_⟩
        have h : some (L, O) = some (L', O') := h
        cases h
        refine ⟨hL, fun b hb => ?_⟩
        have hb := (hO b).1 hb
        obtain ⟨g1, o, g2⟩ := othHere b hb
        exact ⟨g1, o, by rw [hLn b (notOwn b hb)]; exact g2⟩
      · rw [hb0 j r hj]
        exact renBlk_is mapS (R.blk r k0 (lo hk0) hk0) hw hkn
    · rcases small hk with ⟨rfl, rfl⟩ | ⟨j, r, k0, rfl, hj, hk0, rfl, hw, hkn⟩
      · exact (nolive hl).elim
      · rcases small hk' with ⟨rfl, rfl⟩ | ⟨j', r', k0', rfl, hj', hk0', rfl, hw', hkn'⟩
        · exact (nolive hl').elim
        · rw [hb0 j r hj, hb0 j' r' hj'] at e
          have := R.apart r r' k0 k0' (lo hk0) (lo hk0') hk0 hk0' (renBlk_live.1 hl) (renBlk_live.1 hl') e
          subst this
          have e1 := one j r hj
          have e2 := one j' r hj'
          rw [e1] at e2
          cases e2
          rfl
    · rcases small hk with ⟨rfl, rfl⟩ | ⟨j, r, k0, rfl, hj, hk0, rfl, hw, hkn⟩
      · simp at hcc; subst hcc; rfl
      · obtain ⟨c0, hc0, rfl⟩ := List.mem_map.1 hcc
        exact renSc_wf inS (hw c0 hc0)
    · rcases small hk with ⟨rfl, rfl⟩ | ⟨j, r, k0, rfl, hj, hk0, rfl, hw, hkn⟩
      · cases hf
      · rw [renBlk_frs] at hf
        rcases small hk' with ⟨rfl, rfl⟩ | ⟨j', r', k0', rfl, hj', hk0', rfl, hw', hkn'⟩
        · exact (nolive hl').elim
        · rw [hb0 j' r' hj']
          exact (R.far r k0 (lo hk0) hk0 f hf b off ha hne).1 r' k0' (lo hk0') hk0' (renBlk_live.1 hl')
    · rcases small hk with ⟨rfl, rfl⟩ | ⟨j, r, k0, rfl, hj, hk0, rfl, hw, hkn⟩
      · cases hf
      · rw [renBlk_frs] at hf
        rcases small hk' with ⟨rfl, rfl⟩ | ⟨j', r', k0', rfl, hj', hk0', rfl, hw', hkn'⟩
        · have hkp : some (L, O) = some (L', O') := hkp
          cases hkp
          cases hob : O b with
          | false => rfl
          | true =>
            exfalso
            obtain ⟨q1, q2⟩ := R.far r k0 (lo hk0) hk0 f hf b off ha hne
            rcases (hO b).1 hob with ⟨r2, k2, _, hk2, hl2, e2⟩ | ⟨r2, k2, L2, O2, hk2, hkp2, ho2⟩
            · exact q1 r2 k2 (lo hk2) hk2 hl2 e2
            · rw [q2 r2 k2 L2 O2 (lo hk2) hk2 hkp2] at ho2; cases ho2
        · rw [renBlk_keep hkn'] at hkp; cases hkp
    · rcases small hk with ⟨rfl, rfl⟩ | ⟨j, r, k0, rfl, hj, hk0, rfl, hw, hkn⟩
      · have hkp : some (L, O) = some (L', O') := hkp
        cases hkp
        rcases small hk' with ⟨rfl, rfl⟩ | ⟨j', r', k0', rfl, hj', hk0', rfl, hw', hkn'⟩
        · exact (nolive hl').elim
        · rw [hb0 j' r' hj']
          exact hLo _ (own hj' hk0' (renBlk_live.1 hl'))
      · rw [renBlk_keep hkn] at hkp; cases hkp
  have hK2 : (t0.map fun r => (r.1, keepH L O r.2)).holds fun r => ∃ y h2, r = (y, keepH L O h2) ∧ okRes ns y h2 = true ∧ K (renAV (toB ns h.length) y, mergeH ns h h2) := by
    rw [T.holds_map]
    refine T.mono (fun r hr => ?_) _ hK
    split at hr
    · rename_i hres
      exact ⟨r.1, r.2, rfl, hres, hr⟩
    · exact hr.elim
  have call := (ok.it _ _ _ hask L O _ hK2).2 bs0 us (by simp [hlen]) (fun j y hj => ?_) w RS
  · refine call.mono fun e w' ⟨u, x, hx', more, he, ⟨y, h1, hxy, hres, hk⟩, hu, R'⟩ => ?_
    cases hxy
    unfold okRes at hres
    simp only [Bool.and_eq_true] at hres
    obtain ⟨hle, hyw, hall⟩ := hres
    have hle := Nat.le_of_ble_eq_true hle
    have hcell : ∀ (j : Nat) (k : Blk), h1[j]? = some k → (∀ cc ∈ k.cells, cc.wf (okName h1.length) = true) ∧ keepIn k = none := fun j k hj => by
      have := List.all_eq_true.1 hall k (List.mem_of_getElem? hj)
      simp only [Bool.and_eq_true, Option.isNone_iff_eq_none] at this
      exact ⟨fun cc hcc => List.all_eq_true.1 this.1 cc hcc, this.2⟩
    have hlen1 : (keepH L O h1).length = h1.length + 1 := by simp [keepH]
    have hmore : more.length = h1.length - ns.length := by
      have := R'.len
      rw [hlen1] at this
      simp only [bs0, List.length_append, List.length_cons, List.length_map] at this
      omega
    have hml := merge_len (ns := ns) (h := h) (h1 := h1) hle
    have mapB : Maps (okName h1.length) (toB ns h.length) (bs0 ++ more) (bs ++ more) := fun r hr => by
      obtain ⟨g1, g2⟩ := okName_iff.1 hr
      obtain ⟨j, rfl⟩ : ∃ j, r = j + 1 := ⟨r - 1, by omega⟩
      show (bs ++ more).getD (match ns[j]? with | some r => r | none => h.length + (j - ns.length)) 0 = _
      cases hj : ns[j]? with
      | some r =>
        have e1 : (bs0 ++ more).getD (j + 1) 0 = bs0.getD (j + 1) 0 := by
          rw [List.getD_eq_getElem?_getD, List.getD_eq_getElem?_getD, List.getElem?_append_left (by have := (List.getElem?_eq_some_iff.1 hj).1; simp [bs0]; omega)]
        rw [e1, hb0 j r hj]
        simp only
        rw [List.getD_eq_getElem?_getD, List.getD_eq_getElem?_getD, List.getElem?_append_left (by rw [R.len]; exact hns j r hj)]
      | none =>
        have := List.getElem?_eq_none_iff.1 hj
        simp only
        rw [List.getD_eq_getElem?_getD, List.getD_eq_getElem?_getD, List.getElem?_append_right (R.len ▸ Nat.le_add_right _ _), List.getElem?_append_right (by simp only [bs0, List.length_cons, List.length_map]; omega), R.len]
        have e1 : h.length + (j - ns.length) - h.length = j + 1 - bs0.length := by simp only [bs0, List.length_cons, List.length_map]; omega
        rw [e1]
    have old : ∀ i, i < h.length → (bs ++ more).getD i 0 = bs.getD i 0 := fun i hi => by
      rw [List.getD_eq_getElem?_getD, List.getD_eq_getElem?_getD, List.getElem?_append_left (by rw [R.len]; exact hi)]
    have hkeep : ∀ b o, L b = some o → w'.heap[b]? = some o := by
      have := (R'.blk 0 ⟨[.keep L O], 0⟩ (by rw [lt_iff]; simp [keepH]) rfl).keep L O rfl
      exact this.1
    have hfree : ∀ (j : Nat) (k : Blk), h1[j]? = some k → live k → L ((bs0 ++ more).getD (j + 1) 0) = none := fun j k hj hl => R'.kept 0 ⟨[.keep L O], 0⟩ L O (by rw [lt_iff]; simp [keepH]) rfl rfl (j + 1) k (by rw [lt_iff, hlen1]; have := (List.getElem?_eq_some_iff.1 hj).1; omega) (by simpa [keepH] using hj) hl
    have lo1 : ∀ {j : Nat} {k : Blk}, h1[j]? = some k → lt (keepH L O h1).length (j + 1) = true := fun hj => by
      rw [lt_iff, hlen1]
      have := (List.getElem?_eq_some_iff.1 hj).1
      omega
    have at1 : ∀ {j : Nat} {k : Blk}, h1[j]? = some k → (keepH L O h1)[j + 1]? = some k := fun hj => by simpa [keepH] using hj
    have okj : ∀ {j : Nat} {k : Blk}, h1[j]? = some k → okName h1.length (j + 1) = true := fun hj => okName_iff.2 ⟨by omega, by have := (List.getElem?_eq_some_iff.1 hj).1; omega⟩
    have num : ∀ {j : Nat} {k : Blk}, h1[j]? = some k → (bs ++ more).getD (toB ns h.length (j + 1)) 0 = (bs0 ++ more).getD (j + 1) 0 := fun hj => mapB _ (okj hj)
    have inB : ∀ r, okName h1.length r = true → lt (mergeH ns h h1).length (toB ns h.length r) = true := fun r hr => by
      obtain ⟨g1, g2⟩ := okName_iff.1 hr
      obtain ⟨j, rfl⟩ : ∃ j, r = j + 1 := ⟨r - 1, by omega⟩
      exact lt_iff.2 (toB_lt hns hle (by omega))
    -- a block of the others' is as it was
    have oth : ∀ {i : Nat} {k : Blk}, h[i]? = some k → posOf ns i = none → live k → Oth (bs.getD i 0) := fun {i k} hk hp hl => .inl ⟨i, k, hp, hk, hl, rfl⟩
    have same : ∀ b o, ¬ Own b → w.heap[b]? = some o → w'.heap[b]? = some o := fun b o hn ho => hkeep b o (by rw [hLn b hn]; exact ho)
    refine ⟨u, _, _, more, he, hk, renAV_is mapB hyw hu, ?_⟩
    refine ⟨R'.below, by rw [List.length_append, R.len, hml, hmore], fun r hr => lt_iff.1 hr, fun i k hi hk' => ?_, fun i i' k k' hi hi' hk1 hk2 hl hl' e => ?_, fun i k hi hk' cc hcc => ?_, fun i k hi hk' f hf b off ha hne => ⟨fun i' k' hi' hk2 hl' => ?_, fun i' k' L' O' hi' hk2 hkp => ?_⟩, fun i k L' O' hi hk' hkp i' k' hi' hk2 hl' => ?_⟩
    · rcases merge_cases hns hle hk' with ⟨j, k1, hj, rfl, rfl⟩ | ⟨hik, hp⟩
      · rw [num hj]
        exact renBlk_is mapB (R'.blk (j + 1) k1 (lo1 hj) (at1 hj)) (hcell j k1 hj).1 (hcell j k1 hj).2
      · have hil := (List.getElem?_eq_some_iff.1 hik).1
        have B := R.blk i k (lo hik) hik
        have hlk : Like (lt h.length) bs (bs ++ more) := by rw [← R.len]; exact like_more bs more
        rw [old i hil]
        refine B.to (fun _ => rfl) (fun hl => ?_) (fun f hf => ?_) (fun L2 O2 hkp b o ho => ?_) (map_γ_like hlk (R.wf i k (lo hik) hik))
        · obtain ⟨_, cur, g⟩ := B.here hl
          rw [same _ _ (notOwn _ (oth hik hp hl)) g, g]
        · refine (B.ice hf).same' (fun b off ha hne o ho => same b o ?_ ho)
          rintro ⟨r2, k2, _, hk2, hl2, e2⟩
          exact (R.far i k (lo hik) hik f hf b off ha hne).1 r2 k2 (lo hk2) hk2 hl2 e2
        · have g := (B.keep L2 O2 hkp).1 b o ho
          rw [same b o ?_ g, g]
          rintro ⟨r2, k2, _, hk2, hl2, e2⟩
          have := R.kept i k L2 O2 (lo hik) hik hkp r2 k2 (lo hk2) hk2 hl2
          rw [e2, ho] at this
          cases this
    · rcases merge_cases hns hle hk1 with ⟨j, k1, hj, rfl, rfl⟩ | ⟨hik, hp⟩ <;> rcases merge_cases hns hle hk2 with ⟨j', k1', hj', rfl, rfl⟩ | ⟨hik', hp'⟩
      · rw [num hj, num hj'] at e
        have := R'.apart (j + 1) (j' + 1) k1 k1' (lo1 hj) (lo1 hj') (at1 hj) (at1 hj') (renBlk_live.1 hl) (renBlk_live.1 hl') e
        rw [this]
      · exfalso
        rw [num hj, old i' (List.getElem?_eq_some_iff.1 hik').1] at e
        have g := hfree j k1 hj (renBlk_live.1 hl)
        have ho := oth hik' hp' hl'
        rw [e, hLn _ (notOwn _ ho)] at g
        obtain ⟨_, o, g2⟩ := othHere _ ho
        rw [g2] at g
        cases g
      · exfalso
        rw [num hj', old i (List.getElem?_eq_some_iff.1 hik).1] at e
        have g := hfree j' k1' hj' (renBlk_live.1 hl')
        have ho := oth hik hp hl
        rw [← e, hLn _ (notOwn _ ho)] at g
        obtain ⟨_, o, g2⟩ := othHere _ ho
        rw [g2] at g
        cases g
      · rw [old i (List.getElem?_eq_some_iff.1 hik).1, old i' (List.getElem?_eq_some_iff.1 hik').1] at e
        exact R.apart i i' k k' (lo hik) (lo hik') hik hik' hl hl' e
    · rcases merge_cases hns hle hk' with ⟨j, k1, hj, rfl, rfl⟩ | ⟨hik, hp⟩
      · obtain ⟨c0, hc0, rfl⟩ := List.mem_map.1 hcc
        exact renSc_wf inB ((hcell j k1 hj).1 c0 hc0)
      · exact Sc.wf_mono (fun r hr => by rw [lt_iff] at *; omega) (R.wf i k (lo hik) hik cc hcc)
    · have fact : (∀ (r : Nat) (kk : Blk), posOf ns r = none → h[r]? = some kk → live kk → bs.getD r 0 ≠ b) ∧ ∀ (j : Nat) (kk : Blk), h1[j]? = some kk → live kk → (bs0 ++ more).getD (j + 1) 0 ≠ b := by
        rcases merge_cases hns hle hk' with ⟨j, k1, hj, rfl, rfl⟩ | ⟨hik, hp⟩
        · rw [renBlk_frs] at hf
          obtain ⟨q1, q2⟩ := R'.far (j + 1) k1 (lo1 hj) (at1 hj) f hf b off ha hne
          refine ⟨fun r kk hp hkk hlk e => ?_, fun j2 kk hj2 hl2 => q1 (j2 + 1) kk (lo1 hj2) (at1 hj2) hl2⟩
          have := q2 0 ⟨[.keep L O], 0⟩ L O (by rw [lt_iff]; simp [keepH]) rfl rfl
          rw [← e, (hO _).2 (oth hkk hp hlk)] at this
          cases this
        · obtain ⟨q1, q2⟩ := R.far i k (lo hik) hik f hf b off ha hne
          refine ⟨fun r kk hp hkk hlk => q1 r kk (lo hkk) hkk hlk, fun j2 kk hj2 hl2 e => ?_⟩
          have g := hfree j2 kk hj2 hl2
          have hn : ¬ Own b := fun ⟨r2, k2, _, hk2, hl2, e2⟩ => q1 r2 k2 (lo hk2) hk2 hl2 e2
          have hb := ((R.blk i k (lo hik) hik).ice hf b off ha 0 (by cases hx : f.xs with | nil => exact absurd hx hne | cons => simp)).1
          rw [e, hLn b hn, Array.getElem?_eq_getElem hb] at g
          cases g
      rcases merge_cases hns hle hk2 with ⟨j', k1', hj', rfl, rfl⟩ | ⟨hik', hp'⟩
      · rw [num hj']
        exact fact.2 j' k1' hj' (renBlk_live.1 hl')
      · rw [old i' (List.getElem?_eq_some_iff.1 hik').1]
        exact fact.1 i' k' hp' hik' hl'
    · rcases merge_cases hns hle hk2 with ⟨j', k1', hj', rfl, rfl⟩ | ⟨hik', hp'⟩
      · rw [renBlk_keep (hcell j' k1' hj').2] at hkp; cases hkp
      · rcases merge_cases hns hle hk' with ⟨j, k1, hj, rfl, rfl⟩ | ⟨hik, hp⟩
        · rw [renBlk_frs] at hf
          have := (R'.far (j + 1) k1 (lo1 hj) (at1 hj) f hf b off ha hne).2 0 ⟨[.keep L O], 0⟩ L O (by rw [lt_iff]; simp [keepH]) rfl rfl
          cases ho : O' b with
          | false => rfl
          | true =>
            rw [(hO _).2 (.inr ⟨i', k', L', O', hik', hkp, ho⟩)] at this
            cases this
        · exact (R.far i k (lo hik) hik f hf b off ha hne).2 i' k' L' O' (lo hik') hik' hkp
    · rcases merge_cases hns hle hk' with ⟨j, k1, hj, rfl, rfl⟩ | ⟨hik, hp⟩
      · rw [renBlk_keep (hcell j k1 hj).2] at hkp; cases hkp
      · rcases merge_cases hns hle hk2 with ⟨j', k1', hj', rfl, rfl⟩ | ⟨hik', hp'⟩
        · rw [num hj']
          have g := hfree j' k1' hj' (renBlk_live.1 hl')
          generalize (bs0 ++ more).getD (j' + 1) 0 = n at *
          cases ho : L' n with
          | none => rfl
          | some o =>
            exfalso
            have hw := ((R.blk i k (lo hik) hik).keep L' O' hkp).1 n o ho
            have hn : ¬ Own n := fun ⟨r2, k2, _, hk2, hl2, e2⟩ => by
              have := R.kept i k L' O' (lo hik) hik hkp r2 k2 (lo hk2) hk2 hl2
              rw [e2, ho] at this
              cases this
            rw [hLn n hn, hw] at g
            cases g
        · rw [old i' (List.getElem?_eq_some_iff.1 hik').1]
          exact R.kept i k L' O' (lo hik) hik hkp i' k' (lo hik') hik' hl'
  · rw [List.getElem?_map] at hj
    cases hy : args[j]? with
    | none => rw [hy] at hj; cases hj
    | some y0 =>
      rw [hy] at hj
      cases hj
      have hw := List.all_eq_true.1 hargs y0 (List.mem_of_getElem? hy)
      refine ⟨renAV_is mapS hw (hus j y0 hy).1, ?_⟩
      rw [hlenS]
      exact renAV_wf inS hw
/-! ### As such a contract is proved -/
/-- What a walk comes to is what the contract says, but for what nobody asks for any more. -/
def AsF (n : Nat) (x : AV) (h : List Blk) (y : AV) (h2 : List Blk) : Prop := ∃ ro : List (Option Nat), (leqT n ro ⟨[x], h⟩ ⟨[y], h2⟩ (.leaf ())).holds (fun _ => True) ∧ ASt.fine ⟨[y], h2⟩ h2.length = true ∧ y ≠ .any
theorem AsF.use {n : Nat} {x y : AV} {h h2 : List Blk} (H : AsF n x h y h2) {w0 w : World} {bs more : List Nat} (hb : bs.length = n) {u : Value} (hx : x.Is (bs ++ more) u) (R : Rep (lt h.length) w0 (bs ++ more) h w) :
    ∃ more', y.Is (bs ++ more') u ∧ Rep (lt h2.length) w0 (bs ++ more') h2 w := by
  obtain ⟨ro, hl, hf, hy⟩ := H
  obtain ⟨Lq, _⟩ := leqT_ok hl
  have ht : TOk (bs ++ more) [x] ⟨#[u], []⟩ := ⟨rfl, rfl, fun t z hz => by
    match t, hz with
    | 0, hz => simp at hz; subst hz; exact hx
    | t + 1, hz => simp at hz⟩
  obtain ⟨more', t1, _, R1⟩ := Lq.use hf hb ht R
  exact ⟨more', t1.at_ 0 y rfl, R1⟩
theorem fctr_ok {P : Program} {eqT : TypeId → Bool} (B : Base P eqT) {c : FCtr} {w0 : World} {ctr : FuncId → List AV → List Blk → Option (T AV × Option Nat)} (C : Ctrs P w0 ctr)
    {pre : FuncId → List AV → List Blk → Option (T (AV × List Blk))} (hP : PreOk P w0 pre) {n : Nat}
    (walk : ∀ args h t, c.ask args h = some t → ∀ L O K, t.holds K → ∃ lc, LcsOk P w0 lc ∧ (callT P w0 eqT ctr pre lc n c.f args (keepH L O h)).holds fun r => ∃ y h2, K (y, h2) ∧ AsF (keepH L O h).length r.1 r.2 y (keepH L O h2)) : c.Ok P w0 := by
  refine ⟨fun args h t hask L O K hK => ?_⟩
  rw [T.holds_map] at hK
  obtain ⟨lc, hL, hw⟩ := walk args h t hask L O _ hK
  obtain ⟨there, H⟩ := callT_ok B.mixed B.names B.eqs C.ok C.there hP hL n c.f args (keepH L O h) _ hw
  refine ⟨there, fun bs us hlen hus w R => (H bs us hlen hus w R).mono fun e w' ⟨u, x, h', more, he, ⟨y, h2, hk, ha⟩, hu, R'⟩ => ?_⟩
  obtain ⟨more', g1, g2⟩ := ha.use R.len hu R'
  exact ⟨u, y, keepH L O h2, more', he, hk, g1, g2⟩
/-- The same, for a function that calls itself: its body, and what is called by contract. -/
theorem fctr_rec {P : Program} {eqT : TypeId → Bool} (B : Base P eqT) {c : FCtr} {w0 : World} {ctr : FuncId → List AV → List Blk → Option (T AV × Option Nat)} (C : Ctrs P w0 ctr)
    {pre : FuncId → List AV → List Blk → Option (T (AV × List Blk))} (hP : PreOk P w0 pre) {n : Nat}
    (walk : ∀ args h t, c.ask args h = some t → ∀ L O K, t.holds K → ∃ lc, LcsOk P w0 lc ∧ (bodyT P w0 eqT ctr (callT P w0 eqT ctr pre lc n) lc c.f args (keepH L O h)).holds fun r => ∃ y h2, K (y, h2) ∧ AsF (keepH L O h).length r.1 r.2 y (keepH L O h2)) : c.Ok P w0 := by
  refine ⟨fun args h t hask L O K hK => ?_⟩
  rw [T.holds_map] at hK
  obtain ⟨lc, hL, hw⟩ := walk args h t hask L O _ hK
  obtain ⟨there, H⟩ := bodyT_ok B.mixed B.names B.eqs C.ok C.there (callT_ok B.mixed B.names B.eqs C.ok C.there hP hL n) hL c.f args (keepH L O h) _ hw
  refine ⟨there, fun bs us hlen hus w R => (H bs us hlen hus w R).mono fun e w' ⟨u, x, h', more, he, ⟨y, h2, hk, ha⟩, hu, R'⟩ => ?_⟩
  obtain ⟨more', g1, g2⟩ := ha.use R.len hu R'
  exact ⟨u, y, keepH L O h2, more', he, hk, g1, g2⟩
/-- One table, or else the other. -/
def preOr (p1 p2 : FuncId → List AV → List Blk → Option (T (AV × List Blk))) (f : FuncId) (args : List AV) (h : List Blk) : Option (T (AV × List Blk)) := match p1 f args h with
  | some t => some t
  | none => p2 f args h
theorem preOr_ok {P : Program} {w0 : World} {p1 p2 : FuncId → List AV → List Blk → Option (T (AV × List Blk))} (h1 : PreOk P w0 p1) (h2 : PreOk P w0 p2) : PreOk P w0 (preOr p1 p2) := by
  intro f args h t ht
  unfold preOr at ht
  split at ht
  · rename_i t' ht'
    cases ht
    exact h1 f args h _ ht'
  · exact h2 f args h _ ht
end Go.Proofs.Ytmbahohmiecfiaa.sym
