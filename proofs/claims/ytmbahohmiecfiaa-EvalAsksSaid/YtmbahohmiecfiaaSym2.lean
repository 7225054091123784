/-
  What the walk by computing says of one operation is so: of an operation that makes no memory. No conditions but those that stand in each theorem.
-/
import Derived.Test.YtmbahohmiecfiaaSym1
import Derived.Laws.CopyRow
import Derived.Laws.Cells
import Derived.Laws.StructEq
import Derived.Laws.BytesString
import Derived.ChangeKeysEq
import Derived.Lib.Hide
namespace Go.Proofs.Ytmbahohmiecfiaa.sym
open Go.RowKit
set_option linter.unusedVariables false
set_option linter.unusedSimpArgs false

theorem T.holds_bind {α β : Type} (g : α → T β) (K : β → Prop) : ∀ (t : T α), (t.bind g).holds K ↔ t.holds fun a => (g a).holds K
  | .leaf a => Iff.rfl
  | .br c t e => by simp only [T.bind, T.holds, T.holds_bind g K t, T.holds_bind g K e]
  | .chk p t => by simp only [T.bind, T.holds, T.holds_bind g K t]
  | .all f => by simp only [T.bind, T.holds]; exact forall_congr' fun x => T.holds_bind g K (f x)
  | .fail _ => Iff.rfl
theorem T.holds_map {α β : Type} (g : α → β) (K : β → Prop) (t : T α) : (t.map g).holds K ↔ t.holds fun a => K (g a) := T.holds_bind _ _ _
theorem T.mono {α : Type} {K K' : α → Prop} (h : ∀ a, K a → K' a) : ∀ (t : T α), t.holds K → t.holds K'
  | .leaf a, ht => h a ht
  | .br c t e, ht => ⟨fun hc => T.mono h t (ht.1 hc), fun hc => T.mono h e (ht.2 hc)⟩
  | .chk p t, ht => ⟨ht.1, T.mono h t ht.2⟩
  | .all f, ht => fun x => T.mono h (f x) (ht x)
  | .fail _, ht => ht
theorem fork_holds {α : Type} {l b : Bool} {t e : T α} {K : α → Prop} (h : (fork l b t e).holds K) : (b = true ∧ t.holds K) ∨ (b = false ∧ e.holds K) := by
  cases l <;> cases b
  · exact .inr ⟨rfl, h.2 rfl⟩
  · exact .inl ⟨rfl, h.1 rfl⟩
  · exact .inr ⟨rfl, h⟩
  · exact .inl ⟨rfl, h⟩

theorem T.holds_tag {α : Type} {s : String} {t : T α} {K : α → Prop} (h : (t.tag s).holds K) : t.holds K := by
  unfold T.tag at h
  split at h
  · exact h.elim
  · exact h
theorem chkT_holds {α : Type} {b : Bool} {p : Prop} {t : T α} {K : α → Prop} (h : (chkT b p t).holds K) (hb : b = true → p) : p ∧ t.holds K := by
  cases b
  · exact h
  · exact ⟨hb rfl, h⟩

/-! ### Values -/
theorem scOf_γ (bs : List Nat) (v : Value) : (scOf v).γ bs = v := by
  unfold scOf
  split <;> rfl
theorem vOf_γ (bs : List Nat) (v : Value) : (vOf v).γ bs = v := by
  cases v <;> simp only [vOf, V.γ, scOf_γ]
  rw [List.map_map, show (Sc.γ bs ∘ scOf) = id from funext (scOf_γ bs), List.map_id]
theorem scOf_wf (m : Nat → Bool) (v : Value) : (scOf v).wf m = true := by
  unfold scOf
  split <;> rfl
theorem vOf_wf (m : Nat → Bool) (v : Value) : (vOf v).wf m = true := by
  cases v <;> simp only [vOf, V.wf, scOf_wf]
  rw [List.all_eq_true]
  intro x hx
  obtain ⟨y, _, rfl⟩ := List.mem_map.1 hx
  exact scOf_wf m y
theorem Sc.flat_one {bs : List Nat} {s : Sc} (h : s.flat = true) : (s.γ bs).oneCell' = true := by
  cases s <;> try rfl
  rename_i v
  cases v <;> first | rfl | cases h
theorem Sc.flat_real {s : Sc} (h : s.flat = true) : s.real = true := by
  cases s <;> first | rfl | cases h
theorem V.fine_real {v : V} (h : v.fine = true) : ∀ c ∈ v.list, c.real = true := by
  intro c hc
  cases v with
  | one s' => simp [V.list] at hc; subst hc; exact Sc.flat_real h
  | agg cs => exact Sc.flat_real (List.all_eq_true.1 h c hc)
theorem V.list_γ {bs : List Nat} {v : V} (h : v.fine = true) : (v.γ bs).cells = (v.list.map (Sc.γ bs)).toArray := by
  cases v with
  | one s =>
    have := Sc.flat_one (bs := bs) (s := s) h
    cases hs : s.γ bs <;> simp [V.γ, V.list, Value.cells, hs] <;> simp [hs, Value.oneCell'] at this
  | agg cs => rfl
theorem V.list_flat {bs : List Nat} {v : V} (h : v.fine = true) : ∀ u ∈ v.list.map (Sc.γ bs), u.oneCell' = true := by
  intro u hu
  obtain ⟨s, hs, rfl⟩ := List.mem_map.1 hu
  cases v with
  | one s' => simp [V.list] at hs; subst hs; exact Sc.flat_one h
  | agg cs => exact Sc.flat_one (List.all_eq_true.1 h s hs)
theorem V.list_wf {m : Nat → Bool} {v : V} (h : v.wf m = true) : ∀ c ∈ v.list, c.wf m = true := by
  intro c hc
  cases v with
  | one s => simp [V.list] at hc; subst hc; exact h
  | agg cs => exact List.all_eq_true.1 h c hc

/-! ### Other numbers -/
theorem lt_iff {n r : Nat} : lt n r = true ↔ r < n := by simp [lt, Nat.blt_eq]
/-- Alike where it counts. -/
def Like (m : Nat → Bool) (bs bs' : List Nat) : Prop := ∀ r, m r = true → bs'.getD r 0 = bs.getD r 0
theorem Sc.γ_like {m : Nat → Bool} {bs bs' : List Nat} (hb : Like m bs bs') {s : Sc} (h : s.wf m = true) : s.γ bs' = s.γ bs := by
  cases s <;> try rfl
  · simp only [Sc.γ]; rw [hb _ h]
  · rename_i f caps
    simp only [Sc.γ]
    congr 2
    apply List.map_congr_left
    intro c hc
    simp only [capV]
    rw [hb _ (List.all_eq_true.1 h c hc)]
  · simp only [Sc.γ]; rw [hb _ h]
  · simp only [Sc.γ]; rw [hb _ h]
  · simp only [Sc.γ]; rw [hb _ h]
theorem Sc.wf_mono {m m' : Nat → Bool} (hm : ∀ r, m r = true → m' r = true) {s : Sc} (h : s.wf m = true) : s.wf m' = true := by
  cases s <;> try rfl
  · exact hm _ h
  · exact List.all_eq_true.2 fun c hc => hm _ (List.all_eq_true.1 h c hc)
  · exact hm _ h
  · exact hm _ h
  · exact hm _ h
  · exact hm _ h
  · exact hm _ h
  · exact hm _ h
theorem like_none (bs bs' : List Nat) : Like (lt 0) bs bs' := fun r h => by rw [lt_iff] at h; omega
theorem Sc.γ_any {bs bs' : List Nat} {s : Sc} (h : s.wf (lt 0) = true) : s.γ bs = s.γ bs' := Sc.γ_like (like_none _ _) h
theorem map_γ_like {m : Nat → Bool} {bs bs' : List Nat} (hb : Like m bs bs') {cs : List Sc} (h : ∀ c ∈ cs, c.wf m = true) : cs.map (Sc.γ bs') = cs.map (Sc.γ bs) := List.map_congr_left fun c hc => Sc.γ_like hb (h c hc)
theorem V.γ_like {m : Nat → Bool} {bs bs' : List Nat} (hb : Like m bs bs') {v : V} (h : v.wf m = true) : v.γ bs' = v.γ bs := by
  cases v with
  | one s => exact Sc.γ_like hb h
  | agg cs => simp only [V.γ]; rw [map_γ_like hb fun c hc => List.all_eq_true.1 h c hc]
theorem V.wf_mono {m m' : Nat → Bool} (hm : ∀ r, m r = true → m' r = true) {v : V} (h : v.wf m = true) : v.wf m' = true := by
  cases v with
  | one s => exact Sc.wf_mono hm h
  | agg cs => exact List.all_eq_true.2 fun c hc => Sc.wf_mono hm (List.all_eq_true.1 h c hc)
theorem AV.γ_like {m : Nat → Bool} {bs bs' : List Nat} (hb : Like m bs bs') {x : AV} (h : x.wf m = true) : x.γ bs' = x.γ bs := by
  cases x with
  | v x => exact V.γ_like hb h
  | tuple vs =>
    simp only [AV.γ]
    congr 2
    exact List.map_congr_left fun v hv => V.γ_like hb (List.all_eq_true.1 h v hv)
  | undef => rfl
  | any => rfl
theorem AV.wf_mono {m m' : Nat → Bool} (hm : ∀ r, m r = true → m' r = true) {x : AV} (h : x.wf m = true) : x.wf m' = true := by
  cases x with
  | v x => exact V.wf_mono hm h
  | tuple vs => exact List.all_eq_true.2 fun v hv => V.wf_mono hm (List.all_eq_true.1 h v hv)
  | undef => rfl
  | any => rfl
theorem like_more (bs b : List Nat) : Like (lt bs.length) bs (bs ++ b) := fun r h => by
  rw [lt_iff] at h
  rw [List.getD_eq_getElem?_getD, List.getD_eq_getElem?_getD, List.getElem?_append_left h]

theorem AV.Is.eq {bs : List Nat} {x : AV} {u : Value} (h : x.Is bs u) (hx : x ≠ .any) : u = x.γ bs := by
  cases x <;> first | exact h | exact absurd rfl hx
theorem AV.is_v {bs : List Nat} {x : V} {u : Value} (h : (AV.v x).Is bs u) : u = x.γ bs := h
theorem AV.is_refl (bs : List Nat) (x : AV) : x.Is bs (x.γ bs) := by cases x <;> first | rfl | trivial
theorem AV.Is.like {m : Nat → Bool} {bs bs' : List Nat} (hb : Like m bs bs') {x : AV} {u : Value} (h : x.Is bs u) (hw : x.wf m = true) : x.Is bs' u := by
  cases x with
  | any => trivial
  | v x => show u = _; rw [AV.γ_like hb hw]; exact h
  | tuple vs => show u = _; rw [AV.γ_like hb hw]; exact h
  | undef => exact h

structure TOk (bs : List Nat) (ts : List AV) (a : Act) : Prop where
  defers : a.defers = []
  size : a.tmps.size = ts.length
  at_ : ∀ (t : Nat) (x : AV), ts[t]? = some x → x.Is bs (a.tmps.getD t undef)
/-- All names in the slots are of blocks that are there. -/
def TWf (m : Nat → Bool) (ts : List AV) : Prop := ∀ x ∈ ts, x.wf m = true
theorem TOk.like {m : Nat → Bool} {bs bs' : List Nat} (hb : Like m bs bs') {ts : List AV} {a : Act} (h : TOk bs ts a) (hw : TWf m ts) : TOk bs' ts a :=
  ⟨h.defers, h.size, fun t x hx => (h.at_ t x hx).like hb (hw x (List.mem_of_getElem? hx))⟩
theorem TWf.mono {m m' : Nat → Bool} (hm : ∀ r, m r = true → m' r = true) {ts : List AV} (h : TWf m ts) : TWf m' ts := fun x hx => AV.wf_mono hm (h x hx)
theorem TWf.put {m : Nat → Bool} {ts : List AV} (h : TWf m ts) (d : Option Tmp) {x : AV} (hw : x.wf m = true) : TWf m (putA ts d x) := by
  cases d with
  | none => exact h
  | some d =>
    intro y hy
    rcases List.mem_or_eq_of_mem_set hy with h1 | h1
    · exact h y h1
    · subst h1; exact hw
theorem TWf.knows {m : Nat → Bool} {ts : List AV} (h : TWf m ts) (l : Bool) (t : Tmp) (b : Bool) : TWf m (knows l ts t b) := by
  cases l with
  | true => exact h
  | false =>
    intro y hy
    rcases List.mem_or_eq_of_mem_set hy with h1 | h1
    · exact h y h1
    · subst h1; rfl
theorem TWf.opd {m : Nat → Bool} {ts : List AV} (h : TWf m ts) (x : Operand) : (sym.opd ts x).wf m = true := by
  cases x with
  | tmp t =>
    simp only [sym.opd]
    cases ht : ts[t]? with
    | some x => exact h x (List.mem_of_getElem? ht)
    | none => rfl
  | const v => exact vOf_wf _ v
  | global g => rfl
  | func f => rfl
theorem TOk.opd {bs : List Nat} {ts : List AV} {a : Act} (h : TOk bs ts a) (x : Operand) : (opd ts x).Is bs (a.eval x) := by
  cases x with
  | tmp t =>
    simp only [sym.opd, Act.eval]
    cases ht : ts[t]? with
    | some x => exact h.at_ t x ht
    | none =>
      have : ts.length ≤ t := List.getElem?_eq_none_iff.1 ht
      have h2 := h.size
      show a.tmps.getD t undef = undef
      rw [Array.getD, dif_neg (by omega)]
  | const v => exact (vOf_γ bs v).symm
  | global g => rfl
  | func f => rfl
theorem TOk.put {bs : List Nat} {ts : List AV} {a : Act} (h : TOk bs ts a) (d : Option Tmp) {x : AV} {u : Value} (hx : x.Is bs u) : TOk bs (putA ts d x) (a.put d u) := by
  cases d with
  | none => exact h
  | some d =>
    refine ⟨h.defers, by simp [Act.put, putA, h.size], fun t y hy => ?_⟩
    simp only [putA, List.getElem?_set] at hy
    simp only [Act.put]
    by_cases e : d = t
    · subst e
      rw [if_pos rfl] at hy
      split at hy
      · rename_i hlt
        cases hy
        have hs : d < a.tmps.size := by rw [h.size]; exact hlt
        simp [hs, hx]
      · cases hy
    · rw [if_neg e] at hy
      have := h.at_ t y hy
      simp only [Array.getD_eq_getD_getElem?] at this ⊢
      rw [Array.getElem?_setIfInBounds_ne e]
      exact this
theorem TOk.knows {bs : List Nat} {ts : List AV} {a : Act} (h : TOk bs ts a) {l b b' : Bool} {t : Tmp} (ht : ts[t]? = some (.v (.one (.bool l b)))) (hb : b = b') : TOk bs (knows l ts t b') a := by
  subst hb
  cases l with
  | true => exact h
  | false =>
    refine ⟨h.defers, by simp [sym.knows, h.size], fun t' y hy => ?_⟩
    simp only [sym.knows, List.getElem?_set] at hy
    by_cases e : t = t'
    · subst e
      rw [if_pos rfl] at hy
      split at hy
      · cases hy
        have g := h.at_ t _ ht; exact g
      · cases hy
    · rw [if_neg e] at hy
      exact h.at_ t' y hy

/-! ### Memory of the walk's own: of the blocks that are there already -/
/-- What a row's block holds. -/
structure RowIs (cur : Array Value) (ks : List IntKind) (xs : List Int) (cap : Nat) : Prop where
  size : cur.size = cap * ks.length
  len : xs.length ≤ cur.size
  cell : ∀ j, j < xs.length → cur[j]? = some (.int (ks.getD (j % ks.length) .u8) (xs.getD j 0))
/-- Frames' cells. -/
def frVals : List Fr → List Value
  | [] => []
  | f :: l => .int .u8 f.s :: .slice f.a f.xs.length f.cap :: frVals l
structure FrsIs (cur : Array Value) (fs : List Fr) (cap : Nat) : Prop where
  size : cur.size = cap * 2
  take : cur.toList.take (fs.length * 2) = frVals fs
/-- What a frame's bytes are, elsewhere. -/
def FrIs (w : World) (f : Fr) : Prop := ∀ b off, f.a = some ⟨b, off, none⟩ → ∀ j, j < f.xs.length → b < w.heap.size ∧ w.cell? ⟨b, off + j, none⟩ = some (.int .u8 (f.xs.getD j 0))
/-- A block's frames. -/
def frsIn (k : Blk) : List Fr := match k.cells with
  | [.frs _ fs _] => fs
  | _ => []
/-- Blocks that are kept as they are, and which of them are somebody's. -/
def keepIn (k : Blk) : Option ((Nat → Option Obj) × (Nat → Bool)) := match k.cells with
  | [.keep L O] => some (L, O)
  | _ => none
/-- The block is there, and is nobody else's. -/
def live (k : Blk) : Prop := k.plain = true ∨ (∃ ks xs cap, k.cells = [.row false ks xs cap]) ∨ ∃ fs cap, k.cells = [.frs false fs cap]
/-- What stands at a block's number. -/
structure BlkIs (n0 : Nat) (w : World) (bs : List Nat) (b : Nat) (k : Blk) : Prop where
  plain : k.plain = true → n0 ≤ b ∧ w.heap[b]? = some (.cells (k.cells.map (Sc.γ bs)).toArray k.t (0, 0))
  row : ∀ ks xs cap, k.cells = [.row false ks xs cap] → n0 ≤ b ∧ ∃ cur, w.heap[b]? = some (.cells cur k.t (0, 0)) ∧ RowIs cur ks xs cap
  nil : ∀ ks xs cap, k.cells = [.row true ks xs cap] → xs = []
  frs : ∀ nl fs cap, k.cells = [.frs nl fs cap] → (nl = true → fs = []) ∧ (nl = false → n0 ≤ b ∧ ∃ cur, w.heap[b]? = some (.cells cur k.t (0, 0)) ∧ FrsIs cur fs cap) ∧ ∀ f ∈ fs, FrIs w f
  keep : ∀ L O, keepIn k = some (L, O) → (∀ b o, L b = some o → w.heap[b]? = some o) ∧ ∀ b, O b = true → n0 ≤ b ∧ ∃ o, L b = some o
theorem frsIn_some {k : Blk} {f : Fr} (h : f ∈ frsIn k) : ∃ nl fs cap, k.cells = [.frs nl fs cap] ∧ f ∈ fs := by
  unfold frsIn at h
  split at h
  · rename_i nl fs cap hc
    exact ⟨nl, fs, cap, hc, h⟩
  · cases h
theorem frsIn_of {k : Blk} {nl : Bool} {fs : List Fr} {cap : Nat} (hc : k.cells = [.frs nl fs cap]) : frsIn k = fs := by
  unfold frsIn; rw [hc]
theorem BlkIs.here {n0 : Nat} {w : World} {bs : List Nat} {b : Nat} {k : Blk} (h : BlkIs n0 w bs b k) (hl : live k) : n0 ≤ b ∧ ∃ cur, w.heap[b]? = some (.cells cur k.t (0, 0)) := by
  rcases hl with hl | ⟨ks, xs, cap, hl⟩ | ⟨fs, cap, hl⟩
  · exact ⟨(h.plain hl).1, _, (h.plain hl).2⟩
  · obtain ⟨h1, cur, h2, _⟩ := h.row _ _ _ hl
    exact ⟨h1, cur, h2⟩
  · obtain ⟨_, h2, _⟩ := h.frs _ _ _ hl
    obtain ⟨h1, cur, h2, _⟩ := h2 rfl
    exact ⟨h1, cur, h2⟩
theorem BlkIs.ice {n0 : Nat} {w : World} {bs : List Nat} {b : Nat} {k : Blk} (h : BlkIs n0 w bs b k) {f : Fr} (hf : f ∈ frsIn k) : FrIs w f := by
  obtain ⟨nl, fs, cap, hc, hm⟩ := frsIn_some hf
  exact (h.frs _ _ _ hc).2.2 f hm
theorem BlkIs.to {n0 : Nat} {w w' : World} {bs bs' : List Nat} {b b' : Nat} {k : Blk} (h : BlkIs n0 w bs b k) (hb : live k → b' = b) (hw : live k → w'.heap[b]? = w.heap[b]?) (hz : ∀ f ∈ frsIn k, FrIs w' f) (hy : ∀ L O, keepIn k = some (L, O) → ∀ b o, L b = some o → w'.heap[b]? = w.heap[b]?) (hc : k.cells.map (Sc.γ bs') = k.cells.map (Sc.γ bs)) : BlkIs n0 w' bs' b' k := by
  refine ⟨fun hp => ?_, fun ks xs cap hk => ?_, h.nil, fun nl fs cap hk => ⟨(h.frs _ _ _ hk).1, fun hn => ?_, fun f hf => hz f (by rw [frsIn_of hk]; exact hf)⟩, fun L O hk => ⟨fun b o hb => (hy L O hk b o hb).trans ((h.keep L O hk).1 b o hb), (h.keep L O hk).2⟩⟩
  · have hl : live k := .inl hp
    rw [hb hl, hw hl, hc]; exact h.plain hp
  · have hl : live k := .inr (.inl ⟨_, _, _, hk⟩)
    rw [hb hl, hw hl]; exact h.row _ _ _ hk
  · subst hn
    have hl : live k := .inr (.inr ⟨_, _, hk⟩)
    rw [hb hl, hw hl]; exact (h.frs _ _ _ hk).2.1 rfl
/-- A frame's bytes are in no block that is the walk's own. -/
def Far (m : Nat → Bool) (bs : List Nat) (h : List Blk) (f : Fr) : Prop := ∀ b off, f.a = some ⟨b, off, none⟩ → f.xs ≠ [] → (∀ (r : Nat) (k : Blk), m r = true → h[r]? = some k → live k → bs.getD r 0 ≠ b) ∧ ∀ (r : Nat) (k : Blk) (L : Nat → Option Obj) (O : Nat → Bool), m r = true → h[r]? = some k → keepIn k = some (L, O) → O b = false
theorem FrIs.same {w w' : World} {f : Fr} (h : FrIs w f) (hs : w.heap.size ≤ w'.heap.size) (hw : ∀ b off, f.a = some ⟨b, off, none⟩ → f.xs ≠ [] → b < w.heap.size → w'.heap[b]? = w.heap[b]?) : FrIs w' f := by
  intro b off ha j hj
  obtain ⟨h1, h2⟩ := h b off ha j hj
  refine ⟨by omega, ?_⟩
  have := hw b off ha (by rintro e; rw [e] at hj; simp at hj) h1
  rw [← h2]
  simp only [World.cell?, this]
theorem FrIs.same' {w w' : World} {f : Fr} (h : FrIs w f) (hw : ∀ b off, f.a = some ⟨b, off, none⟩ → f.xs ≠ [] → ∀ o, w.heap[b]? = some o → w'.heap[b]? = some o) : FrIs w' f := by
  intro b off ha j hj
  obtain ⟨h1, h2⟩ := h b off ha j hj
  have g := hw b off ha (by rintro e; rw [e] at hj; simp at hj) _ (Array.getElem?_eq_getElem h1)
  refine ⟨(Array.getElem?_eq_some_iff.1 g).1, ?_⟩
  rw [← h2]
  simp only [World.cell?, g, Array.getElem?_eq_getElem h1]
theorem FrIs.below {w w' : World} {f : Fr} (h : FrIs w f) (hb : Below w.heap.size w w') : FrIs w' f := h.same hb.size fun b off _ _ hlt => hb.block b hlt
structure Rep (m : Nat → Bool) (w0 : World) (bs : List Nat) (h : List Blk) (w : World) : Prop where
  below : Below w0.heap.size w0 w
  len : bs.length = h.length
  inm : ∀ r, m r = true → r < h.length
  blk : ∀ (r : Nat) (k : Blk), m r = true → h[r]? = some k → BlkIs w0.heap.size w bs (bs.getD r 0) k
  apart : ∀ (r r' : Nat) (k k' : Blk), m r = true → m r' = true → h[r]? = some k → h[r']? = some k' → live k → live k' → bs.getD r 0 = bs.getD r' 0 → r = r'
  wf : ∀ (r : Nat) (k : Blk), m r = true → h[r]? = some k → ∀ c ∈ k.cells, c.wf m = true
  far : ∀ (r : Nat) (k : Blk), m r = true → h[r]? = some k → ∀ f ∈ frsIn k, Far m bs h f
  kept : ∀ (r : Nat) (k : Blk) (L : Nat → Option Obj) (O : Nat → Bool), m r = true → h[r]? = some k → keepIn k = some (L, O) → ∀ (r' : Nat) (k' : Blk), m r' = true → h[r']? = some k' → live k' → L (bs.getD r' 0) = none

theorem updBlk_get (f : Blk → Blk) : ∀ (h : List Blk) (r i : Nat), (updBlk h r f)[i]? = if i = r then (h[i]?).map f else h[i]?
  | [], r, i => by simp [updBlk]
  | k :: h, 0, 0 => by simp [updBlk]
  | k :: h, 0, i + 1 => by simp [updBlk]
  | k :: h, r + 1, 0 => by simp [updBlk]
  | k :: h, r + 1, i + 1 => by simp [updBlk, updBlk_get f h r i]
theorem updBlk_length (f : Blk → Blk) : ∀ (h : List Blk) (r : Nat), (updBlk h r f).length = h.length
  | [], _ => rfl
  | _ :: _, 0 => rfl
  | k :: h, r + 1 => by simp [updBlk, updBlk_length f h r]
theorem updBlk_append (f : Blk → Blk) (k : Blk) : ∀ (h : List Blk) (r : Nat), r < h.length → updBlk (h ++ [k]) r f = updBlk h r f ++ [k]
  | [], r, hr => by simp at hr
  | _ :: _, 0, _ => rfl
  | x :: h, r + 1, hr => by simp only [List.cons_append, updBlk, updBlk_append f k h r (by simpa using hr)]

theorem Rep.cell {m : Nat → Bool} {w0 w : World} {bs : List Nat} {h : List Blk} (R : Rep m w0 bs h w) {r : Nat} {k : Blk} (hm : m r = true) (hr : h[r]? = some k) (hp : k.plain = true) {q : Nat} {c : Sc} (hq : k.cells[q]? = some c) : w.cell? ⟨bs.getD r 0, q, none⟩ = some (c.γ bs) := by
  simp only [World.cell?, ((R.blk r k hm hr).plain hp).2]
  simp [hq]
theorem Rep.call {m : Nat → Bool} {w0 w w' : World} {bs : List Nat} {h : List Blk} (R : Rep m w0 bs h w) (hb : Below w.heap.size w w') : Rep m w0 bs h w' := by
  refine ⟨R.below.trans (hb.mono R.below.size), R.len, R.inm, fun r k hm hr => ?_, R.apart, R.wf, R.far, R.kept⟩
  refine (R.blk r k hm hr).to (fun _ => rfl) (fun hl => ?_) (fun f hf => ((R.blk r k hm hr).ice hf).below hb) (fun L O hk b o ho => hb.block b (Array.getElem?_eq_some_iff.1 (((R.blk r k hm hr).keep L O hk).1 b o ho)).1) rfl
  obtain ⟨_, cur, h2⟩ := (R.blk r k hm hr).here hl
  exact hb.block _ (Array.getElem?_eq_some_iff.1 h2).1
theorem Rep.drew {m : Nat → Bool} {w0 w : World} {bs : List Nat} {h : List Blk} (R : Rep m w0 bs h w) : Rep m w0 bs h { w with drawn := w.drawn + 1 } :=
  ⟨R.below.drew, R.len, R.inm, fun r k hm hr => (R.blk r k hm hr).to (fun _ => rfl) (fun _ => rfl) (fun f hf => (R.blk r k hm hr).ice hf) (fun _ _ _ _ _ _ => rfl) rfl, R.apart, R.wf, R.far, R.kept⟩
theorem Rep.start (w : World) : Rep (lt 0) w [] [] w := ⟨Below.refl _ _, rfl, fun r h => by (rw [lt_iff] at h; omega), fun r k h => by (rw [lt_iff] at h; omega), fun r r' k k' h => by (rw [lt_iff] at h; omega), fun r k h => by (rw [lt_iff] at h; omega), fun r k h => by (rw [lt_iff] at h; omega), fun r k L O h => by (rw [lt_iff] at h; omega)⟩
theorem setAll_mem {cells cs : List Sc} {off : Nat} {c : Sc} (h : c ∈ setAll cells off cs) : c ∈ cells ∨ c ∈ cs := by
  simp only [setAll, List.append_assoc, List.mem_append] at h
  rcases h with h | h | h
  · exact .inl (List.mem_of_mem_take h)
  · exact .inr h
  · exact .inl (List.mem_of_mem_drop h)
theorem isMark_one {c : Sc} : isMark [c] = !c.real := by cases c <;> rfl
theorem isMark_some {l : List Sc} (h : isMark l = true) : ∃ c, l = [c] ∧ c.real = false := by
  match l with
  | [] => cases h
  | [c] => rw [isMark_one] at h; exact ⟨c, rfl, by simpa using h⟩
  | a :: b :: l => unfold isMark at h; split at h <;> simp_all
theorem setAll_ge {cells cs : List Sc} {off : Nat} : cells.length ≤ (setAll cells off cs).length := by
  simp only [setAll, List.length_append, List.length_take, List.length_drop]
  omega
theorem setAll_plain {k : Blk} {cs : List Sc} {off : Nat} (hp : k.plain = true) (hc : ∀ c ∈ cs, c.real = true) : Blk.plain { k with cells := setAll k.cells off cs } = true := by
  show (!isMark (setAll k.cells off cs)) = true
  cases hm : isMark (setAll k.cells off cs) with
  | false => rfl
  | true =>
    exfalso
    obtain ⟨c, he, hr⟩ := isMark_some hm
    rcases setAll_mem (c := c) (cells := k.cells) (off := off) (cs := cs) (by rw [he]; exact List.mem_cons_self ..) with h1 | h1
    · have hl := setAll_ge (cells := k.cells) (off := off) (cs := cs)
      rw [he] at hl
      obtain ⟨cells, tt⟩ := k
      simp only at h1 hl
      match cells, h1, hl, hp with
      | [d], h1, hl, hp =>
        simp at h1
        subst h1
        have hp : (!isMark [c]) = true := hp
        rw [isMark_one, hr] at hp
        cases hp
      | a :: b :: l, h1, hl, hp => simp at hl
    · rw [hc c h1] at hr; cases hr
theorem plain_row {k : Blk} (hp : k.plain = true) {nl : Bool} {ks : List IntKind} {xs : List Int} {cap : Nat} (h : k.cells = [.row nl ks xs cap]) : False := by
  unfold Blk.plain at hp
  rw [h] at hp
  cases hp
theorem plain_of_real {k : Blk} (h : k.cells.all Sc.real = true) : k.plain = true := by
  show (!isMark k.cells) = true
  cases hm : isMark k.cells with
  | false => rfl
  | true =>
    obtain ⟨c, he, hr⟩ := isMark_some hm
    rw [he] at h
    simp [hr] at h
theorem plain_frs {k : Blk} (hp : k.plain = true) {nl : Bool} {fs : List Fr} {cap : Nat} (h : k.cells = [.frs nl fs cap]) : False := by
  unfold Blk.plain at hp
  rw [h] at hp
  cases hp
theorem plain_frsIn {k : Blk} (hp : k.plain = true) : frsIn k = [] := by
  unfold frsIn
  split
  · rename_i hc; exact (plain_frs hp hc).elim
  · rfl
theorem plain_keep {k : Blk} (hp : k.plain = true) : keepIn k = none := by
  unfold keepIn
  split
  · rename_i hc
    unfold Blk.plain at hp
    rw [hc] at hp
    cases hp
  · rfl
theorem live_keep {k : Blk} (h : live k) : keepIn k = none := by
  rcases h with h | ⟨_, _, _, h⟩ | ⟨_, _, h⟩
  · exact plain_keep h
  · unfold keepIn; rw [h]
  · unfold keepIn; rw [h]
theorem row_frsIn {k : Blk} {nl : Bool} {ks : List IntKind} {xs : List Int} {cap : Nat} (h : k.cells = [.row nl ks xs cap]) : frsIn k = [] := by
  unfold frsIn; rw [h]
theorem dead_frsIn {k : Blk} (h : k.cells = [.dead]) : frsIn k = [] := by
  unfold frsIn; rw [h]
/-- A block is another one now; nothing else is. -/
theorem Rep.update {m : Nat → Bool} {w0 w w' : World} {bs : List Nat} {h : List Blk} (R : Rep m w0 bs h w) {r : Nat} {k k1 : Blk} (hm : m r = true) (hr : h[r]? = some k) (hl : live k1 → live k)
    (hw : ∀ i, i ≠ bs.getD r 0 ∨ ¬ live k → w'.heap[i]? = w.heap[i]?) (hbel : Below w0.heap.size w0 w') (hk1 : BlkIs w0.heap.size w' bs (bs.getD r 0) k1) (hwf : ∀ c ∈ k1.cells, c.wf m = true) (hnf : frsIn k1 = []) (hnk : keepIn k1 = none) (hgs : w.heap.size ≤ w'.heap.size) :
    Rep m w0 bs (updBlk h r fun _ => k1) w' := by
  have lift : ∀ (i : Nat) (x : Blk), (updBlk h r fun _ => k1)[i]? = some x → live x → ∃ y, h[i]? = some y ∧ live y := by
    intro i x g l
    rw [updBlk_get] at g
    split at g
    · rename_i e
      subst e
      rw [hr] at g
      cases g
      exact ⟨k, hr, hl l⟩
    · exact ⟨x, g, l⟩
  refine ⟨hbel, by rw [updBlk_length]; exact R.len, fun r' hm' => by rw [updBlk_length]; exact R.inm r' hm', fun r' k' hm' hr' => ?_, fun r1 r2 k1' k2' h1 h2 g1 g2 l1 l2 e => ?_, fun r' k' hm' hr' c hc => ?_, fun r' k' hm' hr' f hf b off ha hne => ⟨fun r1 k1' h1 g1 l1 => ?_, fun r1 k1' L O h1 g1 hk1' => ?_⟩, fun r' k' L O hm' hr' hk' r1 k1' h1 g1 l1 => ?_⟩
  · rw [updBlk_get] at hr'
    split at hr'
    · rename_i e
      subst e
      rw [hr] at hr'
      cases hr'
      exact hk1
    · rename_i e
      refine (R.blk r' k' hm' hr').to (fun _ => rfl) (fun hl' => hw _ ?_) (fun f hf => ?_) (fun L O hk b o ho => hw b ?_) rfl
      · by_cases hlk : live k
        · exact .inl fun e' => e (R.apart _ _ _ _ hm' hm hr' hr hl' hlk e')
        · exact .inr hlk
      · refine ((R.blk r' k' hm' hr').ice hf).same hgs fun b off ha hne hlt => hw b ?_
        by_cases hlk : live k
        · exact .inl fun e' => (R.far r' k' hm' hr' f hf b off ha hne).1 r k hm hr hlk e'.symm
        · exact .inr hlk
      · by_cases hlk : live k
        · refine .inl fun e' => ?_
          have := R.kept r' k' L O hm' hr' hk r k hm hr hlk
          rw [← e', ho] at this
          cases this
        · exact .inr hlk
  · obtain ⟨y1, e1, m1⟩ := lift _ _ g1 l1
    obtain ⟨y2, e2, m2⟩ := lift _ _ g2 l2
    exact R.apart _ _ _ _ h1 h2 e1 e2 m1 m2 e
  · rw [updBlk_get] at hr'
    split at hr'
    · rename_i e
      subst e
      rw [hr] at hr'
      cases hr'
      exact hwf c hc
    · exact R.wf r' k' hm' hr' c hc
  · rw [updBlk_get] at hr'
    split at hr'
    · rename_i e
      subst e
      rw [hr] at hr'
      cases hr'
      rw [hnf] at hf
      cases hf
    · obtain ⟨y, e1, m1⟩ := lift _ _ g1 l1
      exact (R.far r' k' hm' hr' f hf b off ha hne).1 r1 y h1 e1 m1
  · rw [updBlk_get] at hr' g1
    split at hr'
    · rename_i e
      subst e
      rw [hr] at hr'
      cases hr'
      rw [hnf] at hf
      cases hf
    · split at g1
      · rename_i e
        subst e
        rw [hr] at g1
        cases g1
        rw [hnk] at hk1'
        cases hk1'
      · exact (R.far r' k' hm' hr' f hf b off ha hne).2 r1 k1' L O h1 g1 hk1'
  · rw [updBlk_get] at hr'
    split at hr'
    · rename_i e
      subst e
      rw [hr] at hr'
      cases hr'
      rw [hnk] at hk'
      cases hk'
    · obtain ⟨y, e1, m1⟩ := lift _ _ g1 l1
      exact R.kept r' k' L O hm' hr' hk' r1 y h1 e1 m1
theorem below_setRow' {w0 w : World} {b : Nat} {c : Array Value} (h : Below w0.heap.size w0 w) (hb : w0.heap.size ≤ b) : Below w0.heap.size w0 (w.setRow b c) :=
  ⟨h.os, h.tape, h.output, by rw [setRow_size]; exact h.size, fun i hi => by rw [setRow_other _ _ _ _ (by omega)]; exact h.block i hi⟩
theorem updBlk_congr {f g : Blk → Blk} : ∀ {h : List Blk} {r : Nat} {k : Blk}, h[r]? = some k → f k = g k → updBlk h r f = updBlk h r g
  | [], r, k, hr, _ => by simp at hr
  | x :: h, 0, k, hr, e => by simp at hr; subst hr; simp only [updBlk, e]
  | x :: h, r + 1, k, hr, e => by simp only [updBlk, updBlk_congr (h := h) (r := r) (by simpa using hr) e]
theorem Rep.write {m : Nat → Bool} {w0 w : World} {bs : List Nat} {h : List Blk} (R : Rep m w0 bs h w) {r off : Nat} {k : Blk} {cs : List Sc} (hm : m r = true) (hr : h[r]? = some k) (hp : k.plain = true) (hreal : ∀ c ∈ cs, c.real = true) (hwf : ∀ c ∈ cs, c.wf m = true) :
    Rep m w0 bs (updBlk h r fun k => { k with cells := setAll k.cells off cs }) (w.setRow (bs.getD r 0) ((setAll k.cells off cs).map (Sc.γ bs)).toArray) := by
  obtain ⟨h1, h2⟩ := (R.blk r k hm hr).plain hp
  rw [updBlk_congr (g := fun _ => { k with cells := setAll k.cells off cs }) hr rfl]
  have hp' := setAll_plain (off := off) hp hreal
  refine R.update hm hr (fun _ => .inl hp) (fun i hi => setRow_other _ _ _ _ ?_) (below_setRow' R.below h1) ⟨fun _ => ⟨h1, setRow_heap _ _ _ _ _ _ h2⟩, fun ks xs cap e => (plain_row hp' e).elim, fun ks xs cap e => (plain_row hp' e).elim, fun nl fs cap e => (plain_frs hp' e).elim, fun L O e => (by rw [plain_keep hp'] at e; cases e)⟩ (fun c hc => ?_) (plain_frsIn hp') (plain_keep hp') (by rw [setRow_size]; exact Nat.le_refl _)
  · rcases hi with hi | hi
    · exact hi
    · exact absurd (Or.inl hp) hi
  · rcases setAll_mem hc with h3 | h3
    · exact R.wf _ _ hm hr c h3
    · exact hwf c h3
/-- A block more is there. -/
def also (m : Nat → Bool) (i r : Nat) : Bool := m r || r == i
theorem also_mono {m : Nat → Bool} {i : Nat} : ∀ r, m r = true → also m i r = true := fun r h => by simp [also, h]
/-- What stands at a place that nobody names yet may be other. -/
theorem set_like {m : Nat → Bool} {bs : List Nat} {i b : Nat} (hi : m i = false) : Like m bs (bs.set i b) := fun r hr => by
  rw [List.getD_eq_getElem?_getD, List.getD_eq_getElem?_getD, List.getElem?_set_ne (by rintro rfl; rw [hi] at hr; cases hr)]
theorem Rep.new {m : Nat → Bool} {w0 w w' : World} {bs : List Nat} {h : List Blk} (R : Rep m w0 bs h w) {i : Nat} {k : Blk} (hi : m i = false) (hk : h[i]? = some k) (hwf : ∀ c ∈ k.cells, c.wf m = true)
    (b : Nat) (hb : w.heap.size ≤ b) (hbel : Below w.heap.size w w') (hk1 : BlkIs w0.heap.size w' (bs.set i b) b k) (hnf : frsIn k = []) (hnk : keepIn k = none) :
    Rep (also m i) w0 (bs.set i b) h w' := by
  have hlt : i < h.length := (List.getElem?_eq_some_iff.1 hk).1
  have hlk : Like m bs (bs.set i b) := set_like hi
  have hold : ∀ r k, m r = true → h[r]? = some k → live k → bs.getD r 0 < w.heap.size := fun r k hm hr hl => by
    obtain ⟨_, cur, hc⟩ := (R.blk r k hm hr).here hl
    exact (Array.getElem?_eq_some_iff.1 hc).1
  have hself : (bs.set i b).getD i 0 = b := by
    rw [List.getD_eq_getElem?_getD, List.getElem?_set_self (by rw [R.len]; exact hlt)]
    rfl
  have cases' : ∀ r, also m i r = true → m r = true ∨ (m r = false ∧ r = i) := fun r hr => by
    simp only [also, Bool.or_eq_true, beq_iff_eq] at hr
    cases hh : m r with
    | true => exact .inl rfl
    | false => rcases hr with h1 | h1; exact absurd h1 (by simp [hh]); exact .inr ⟨rfl, h1⟩
  refine ⟨R.below.trans (hbel.mono R.below.size), by simp [R.len], fun r hr => ?_, fun r k' hr hk' => ?_, fun r r' k1 k2 hr hr' g1 g2 l1 l2 e => ?_, fun r k' hr hk' c hc => ?_, fun r k' hr hk' f hf b' off ha hne => ⟨fun r1 k1 hr1 hk1' l1 => ?_, fun r1 k1 L O hr1 hk1' hkp => ?_⟩, fun r k' L O hr hk' hkp r1 k1 hr1 hk1' l1 => ?_⟩
  · rcases cases' r hr with h1 | ⟨_, h1⟩
    · exact R.inm r h1
    · omega
  · rcases cases' r hr with h1 | ⟨_, h1⟩
    · have g := R.blk r k' h1 hk'
      rw [hlk r h1]
      exact g.to (fun _ => rfl) (fun hl => hbel.block _ (hold r k' h1 hk' hl)) (fun f hf => (g.ice hf).below hbel) (fun L O hkp b' o ho => hbel.block b' (Array.getElem?_eq_some_iff.1 ((g.keep L O hkp).1 b' o ho)).1) (map_γ_like hlk (R.wf r k' h1 hk'))
    · subst h1
      rw [hk] at hk'
      cases hk'
      rw [hself]
      exact hk1
  · rcases cases' r hr with h1 | ⟨_, h1⟩ <;> rcases cases' r' hr' with h2 | ⟨_, h2⟩
    · rw [hlk r h1, hlk r' h2] at e; exact R.apart _ _ _ _ h1 h2 g1 g2 l1 l2 e
    · subst h2; rw [hlk r h1, hself] at e; have := hold r _ h1 g1 l1; omega
    · subst h1; rw [hlk r' h2, hself] at e; have := hold r' _ h2 g2 l2; omega
    · omega
  · rcases cases' r hr with h1 | ⟨_, h1⟩
    · exact Sc.wf_mono also_mono (R.wf r k' h1 hk' c hc)
    · subst h1; rw [hk] at hk'; cases hk'; exact Sc.wf_mono also_mono (hwf c hc)
  · rcases cases' r hr with h1 | ⟨_, h1⟩
    · rcases cases' r1 hr1 with h2 | ⟨_, h2⟩
      · rw [hlk r1 h2]
        exact (R.far r k' h1 hk' f hf b' off ha hne).1 r1 k1 h2 hk1' l1
      · subst h2
        rw [hself]
        have := ((R.blk r k' h1 hk').ice hf b' off ha 0 (by cases hx : f.xs with | nil => exact absurd hx hne | cons => simp)).1
        omega
    · subst h1
      rw [hk] at hk'
      cases hk'
      rw [hnf] at hf
      cases hf
  · rcases cases' r hr with h1 | ⟨_, h1⟩
    · rcases cases' r1 hr1 with h2 | ⟨_, h2⟩
      · exact (R.far r k' h1 hk' f hf b' off ha hne).2 r1 k1 L O h2 hk1' hkp
      · subst h2
        rw [hk] at hk1'
        cases hk1'
        rw [hnk] at hkp
        cases hkp
    · subst h1
      rw [hk] at hk'
      cases hk'
      rw [hnf] at hf
      cases hf
  · rcases cases' r hr with h1 | ⟨_, h1⟩
    · rcases cases' r1 hr1 with h2 | ⟨_, h2⟩
      · rw [hlk r1 h2]
        exact R.kept r k' L O h1 hk' hkp r1 k1 h2 hk1' l1
      · subst h2
        rw [hself]
        cases ho : L b with
        | none => rfl
        | some o =>
          have := (Array.getElem?_eq_some_iff.1 (((R.blk r k' h1 hk').keep L O hkp).1 b o ho)).1
          omega
    · subst h1
      rw [hk] at hk'
      cases hk'
      rw [hnk] at hkp
      cases hkp
theorem below_alloc (w : World) (o : Obj) : Below w.heap.size w (w.alloc o) := (Below.refl _ w).alloc (Nat.le_refl _) o
theorem Rep.newPlain {m : Nat → Bool} {w0 w : World} {bs : List Nat} {h : List Blk} (R : Rep m w0 bs h w) {i : Nat} {k : Blk} (hi : m i = false) (hk : h[i]? = some k) (hp : k.plain = true) (hwf : ∀ c ∈ k.cells, c.wf m = true) :
    Rep (also m i) w0 (bs.set i w.heap.size) h (w.alloc (.cells (k.cells.map (Sc.γ bs)).toArray k.t)) := by
  refine R.new hi hk hwf w.heap.size (Nat.le_refl _) (below_alloc w _) ⟨fun _ => ⟨R.below.size, ?_⟩, fun ks xs cap e => (plain_row hp e).elim, fun ks xs cap e => (plain_row hp e).elim, fun nl fs cap e => (plain_frs hp e).elim, fun L O e => (by rw [plain_keep hp] at e; cases e)⟩ (plain_frsIn hp) (plain_keep hp)
  rw [map_γ_like (set_like hi) hwf]
  show (w.heap.push _)[w.heap.size]? = _
  simp
/-- Room for a block to come. -/
theorem Rep.room {w0 w : World} {bs : List Nat} {h : List Blk} (R : Rep (lt h.length) w0 bs h w) (k : Blk) : Rep (lt h.length) w0 (bs ++ [0]) (h ++ [k]) w := by
  have hlk : Like (lt h.length) bs (bs ++ [0]) := by rw [← R.len]; exact like_more bs [0]
  have old : ∀ {r : Nat} {k' : Blk}, lt h.length r = true → (h ++ [k])[r]? = some k' → h[r]? = some k' := fun hr g => by
    rw [List.getElem?_append_left (by rw [lt_iff] at hr; exact hr)] at g
    exact g
  refine ⟨R.below, by simp [R.len], fun r hr => by rw [lt_iff] at hr; simp; omega, fun r k' hr hk' => ?_, fun r r' k1 k2 hr hr' g1 g2 l1 l2 e => ?_, fun r k' hr hk' => R.wf r k' hr (old hr hk'), fun r k' hr hk' f hf b off ha hne => ⟨fun r1 k1 h1 g1 l1 => ?_, fun r1 k1 L O h1 g1 hkp => (R.far r k' hr (old hr hk') f hf b off ha hne).2 r1 k1 L O h1 (old h1 g1) hkp⟩, fun r k' L O hr hk' hkp r1 k1 h1 g1 l1 => ?_⟩
  rotate_left 2
  · rw [hlk r1 h1]
    exact (R.far r k' hr (old hr hk') f hf b off ha hne).1 r1 k1 h1 (old h1 g1) l1
  · rw [hlk r1 h1]
    exact R.kept r k' L O hr (old hr hk') hkp r1 k1 h1 (old h1 g1) l1
  · have hk' := old hr hk'
    rw [hlk r hr]
    exact (R.blk r k' hr hk').to (fun _ => rfl) (fun _ => rfl) (fun f hf => (R.blk r k' hr hk').ice hf) (fun _ _ _ _ _ _ => rfl) (map_γ_like hlk (R.wf r k' hr hk'))
  · rw [hlk r hr, hlk r' hr'] at e; exact R.apart _ _ _ _ hr hr' (old hr g1) (old hr' g2) l1 l2 e
theorem Rep.congr {m m' : Nat → Bool} (e : ∀ r, m r = m' r) {w0 w : World} {bs : List Nat} {h : List Blk} (R : Rep m w0 bs h w) : Rep m' w0 bs h w := by
  have : m = m' := funext e
  rw [← this]; exact R
theorem also_lt (n : Nat) : ∀ r, also (lt n) n r = lt (n + 1) r := fun r => by
  rw [Bool.eq_iff_iff]
  simp only [also, Bool.or_eq_true, beq_iff_eq, lt_iff]
  omega

/-! ### One operation's run -/
def Up (P : Program) (o : Oper) (ev : Operand → Value) (w : World) (R : Value → World → Prop) : Prop :=
  match (execOp ev o).run P w with
  | .ok (.value v) w' => R v w'
  | .ok .skip w' => R undef w'
  | .ok (.enter f args) w' => Calls P f args w' fun e w'' => ∃ v, e = .returned v ∧ R v w''
  | _ => False
theorem Up.mono {P : Program} {o : Oper} {ev : Operand → Value} {w : World} {R R' : Value → World → Prop} (h : Up P o ev w R) (hr : ∀ v w', R v w' → R' v w') : Up P o ev w R' := by
  unfold Up at *
  split at h
  · exact hr _ _ h
  · exact hr _ _ h
  · exact h.mono fun e w' ⟨v, he, hv⟩ => ⟨v, he, hr _ _ hv⟩
  · exact h.elim
theorem Up.wp {P : Program} {o : Oper} {a : Act} {w : World} {R : Value → World → Prop} {K : Act → World → Prop} {Q : Exit → Act → World → Prop} (h : Up P o a.eval w R) (hr : ∀ v w', R v w' → K (a.put o.dst v) w') : o.wp P a w K Q := by
  unfold Oper.wp
  unfold Up at h
  generalize (execOp a.eval o).run P w = r at *
  cases r with
  | ok n w' =>
    cases n <;> simp only [Oper.upon] <;> simp only at h
    case value v => exact hr _ _ h
    case skip => exact hr _ _ h
    case enter f args => exact h.mono fun e w'' ⟨v, he, hv⟩ => by subst he; exact hr _ _ hv
  | halt x w' => exact h.elim
theorem Up.value {P : Program} {o : Oper} {ev : Operand → Value} {w w' : World} {R : Value → World → Prop} {v : Value} (h : (execOp ev o).run P w = .ok (.value v) w') (hr : R v w') : Up P o ev w R := by
  unfold Up; rw [h]; exact hr
theorem Up.skip {P : Program} {o : Oper} {ev : Operand → Value} {w w' : World} {R : Value → World → Prop} (h : (execOp ev o).run P w = .ok .skip w') (hr : R undef w') : Up P o ev w R := by
  unfold Up; rw [h]; exact hr

def Agree (h h' : List Blk) : Eff → Prop
  | .none => True
  | .rd r off n => ∀ k : Blk, h[r]? = some k → ∃ k', h'[r]? = some k' ∧ (k'.plain = k.plain ∧ k'.cells.length = k.cells.length ∧ k'.t = k.t) ∧ ∀ q, q < n → k'.cells[off + q]? = k.cells[off + q]?
  | .wr r _ _ => ∀ k : Blk, h[r]? = some k → ∃ k', h'[r]? = some k' ∧ k'.plain = k.plain ∧ k'.cells.length = k.cells.length
  | .new k => h'[h.length]? = some k
  | .full _ => False
/-- The effect is within its block. -/
def Within (h : List Blk) : Eff → Prop
  | .wr r off cs => ∃ k : Blk, h[r]? = some k ∧ (k.plain = true ∧ ∀ c ∈ cs, c.real = true) ∧ off + cs.length ≤ k.cells.length
  | .rd r _ _ => ∃ k : Blk, h[r]? = some k
  | _ => True
/-- The blocks it minds are there. -/
def Foot (m : Nat → Bool) (n : Nat) : Eff → Prop
  | .rd r _ _ => m r = true
  | .wr r _ cs => m r = true ∧ ∀ c ∈ cs, c.wf m = true
  | .new k => m n = false ∧ ∀ c ∈ k.cells, c.wf m = true
  | _ => True
/-- The block that comes by it. -/
def Eff.more (m : Nat → Bool) (n : Nat) : Eff → Nat → Bool
  | .new _ => also m n
  | _ => m
/-- Alike but at the block that comes. -/
def Near (bs bs' : List Nat) (n : Nat) : Eff → Prop
  | .new _ => ∃ b, bs' = bs.set n b
  | _ => bs' = bs
/-- What an operation does, in whatever world that is as it must be where it looks. -/
def Loc (P : Program) (w0 : World) (o : Oper) (ts : List AV) (h : List Blk) (x : AV) (e : Eff) : Prop :=
  (x ≠ .any ∧ (∀ h', e ≠ .full h') ∧ Within h e) ∧ ∀ (bs : List Nat) (ev : Operand → Value), (∀ y ∈ o.op.operands, (opd ts y).Is bs (ev y)) → ∀ m h' w, Agree h h' e → Foot m h.length e → Rep m w0 bs h' w →
    Up P o ev w fun u w' => ∃ bs', Near bs bs' h.length e ∧ u = x.γ bs' ∧ Rep (e.more m h.length) w0 bs' (e.appW h') w'

/-- A computation that changes nothing. -/
def Pure (P : Program) (s : List Nat → Sem Value) (x : AV) : Prop := x ≠ .any ∧ ∀ bs w, (s bs).run P w = .ok (x.γ bs) w

def CtrOk (P : Program) (w0 : World) (ctr : FuncId → List AV → List Blk → Option (T AV × Option Nat)) : Prop :=
  ∀ f args h t ro, ctr f args h = some (t, ro) → ∀ K, t.holds K → ∃ x, K x ∧ x ≠ .any ∧ ∀ (bs : List Nat) (us : List Value), us.length = args.length → (∀ (j : Nat) (y : AV), args[j]? = some y → y.Is bs (us.getD j undef)) →
    ∀ w, Below w0.heap.size w0 w → (∀ r k, ro = some r → h[r]? = some k → k.plain = true → w.heap[bs.getD r 0]? = some (.cells (k.cells.map (Sc.γ bs)).toArray k.t (0, 0))) → Calls P f us.toArray w fun e w' => e = .returned (x.γ bs) ∧ Below w.heap.size w w'
def EqOk (P : Program) (eqT : TypeId → Bool) : Prop :=
  ∀ t, eqT t = true → P.eqGuardType P.depth t = false ∧ ∀ bs zs xs ys l b, zeroV P t = some (.agg zs) → kinds xs zs = true → kinds ys zs = true → eqCells xs ys = some (l, b) → ∀ w, (Op.equalIn 10000 t (.agg (xs.map (Sc.γ bs)).toArray) (.agg (ys.map (Sc.γ bs)).toArray)).run P w = .ok b w
/-- No function is one that the model answers out of turn. -/
def NamesOk (P : Program) : Prop := ∀ (f : FuncId) (fn : Func), P.funcs[f]? = some fn → fn.body.isSome = true → (fn.name == "runtime.NumGoroutine") = false
end Go.Proofs.Ytmbahohmiecfiaa.sym
