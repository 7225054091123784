/-
  A region whose order is drawn, its end: in whatever order the edges let, the region ends as in the order of the text. No conditions but those that stand in each theorem.
-/
import Derived.Test.YtmbahohmiecfiaaSym6
namespace Go.Proofs.Ytmbahohmiecfiaa.sym
open Go.RowKit
set_option linter.unusedVariables false
set_option linter.unusedSimpArgs false

/-- What operation j writes into slot t; into cell (r, q). -/
def wT (b : List Nat) (ops : Array Oper) (rs : List Rec) (t : Nat) (j : Nat) : Option Value := match ops[j]?, rs[j]? with
  | some o, some r => if o.dst = some t then some (r.v.γ b) else none
  | _, _ => none
def wE (e : Eff) (r q : Nat) : Option Sc := match e with
  | .wr r' off cs => if r' = r ∧ off ≤ q then cs[q - off]? else none
  | _ => none
def wC (rs : List Rec) (r q : Nat) (j : Nat) : Option Sc := match rs[j]? with
  | some x => wE x.eff r q
  | none => none
/-- Operation j makes block r. -/
def makes (rs : List Rec) (j r : Nat) : Bool := match rs[j]? with
  | some x => match x.eff with
    | .new _ => x.n == r
    | _ => false
  | none => false
/-- The blocks that are there behind the listed ones. -/
def mask (n0 n : Nat) (rs : List Rec) (f : Nat → Bool) (r : Nat) : Bool := lt n0 r || (List.range n).any fun j => f j && makes rs j r
/-- The blocks that come. -/
def news : List Rec → List Blk
  | [] => []
  | r :: rs => match r.eff with
    | .new k => k :: news rs
    | _ => news rs

theorem putγ_get (a : Act) (d : Option Tmp) (v : Value) (t : Nat) (ht : t < a.tmps.size) : (a.put d v).tmps[t]? = some (if d = some t then v else a.tmps.getD t undef) := by
  cases d with
  | none => simp [Act.put, ht]
  | some d =>
    simp only [Act.put, Option.some.injEq]
    by_cases e : d = t
    · subst e; simp [ht]
    · rw [Array.getElem?_setIfInBounds_ne e, if_neg e]; simp [ht]
theorem put_size (a : Act) (d : Option Tmp) (v : Value) : (a.put d v).tmps.size = a.tmps.size := by cases d <;> simp [Act.put]
theorem put_defers (a : Act) (d : Option Tmp) (v : Value) : (a.put d v).defers = a.defers := by cases d <;> rfl

/-- Heaps of one shape. -/
def Shape (h h' : List Blk) : Prop := h.length = h'.length ∧ ∀ (r : Nat) (k k' : Blk), h[r]? = some k → h'[r]? = some k' → k'.t = k.t ∧ k'.cells.length = k.cells.length ∧ k'.plain = k.plain
theorem Shape.get {h h' : List Blk} (s : Shape h h') {r : Nat} {k : Blk} (hr : h[r]? = some k) : ∃ k', h'[r]? = some k' ∧ k'.t = k.t ∧ k'.cells.length = k.cells.length ∧ k'.plain = k.plain := by
  have : r < h'.length := by rw [← s.1]; exact (List.getElem?_eq_some_iff.1 hr).1
  exact ⟨h'[r], List.getElem?_eq_getElem this, s.2 r k _ hr (List.getElem?_eq_getElem this)⟩
theorem Shape.symm {h h' : List Blk} (s : Shape h h') : Shape h' h := ⟨s.1.symm, fun r k k' g g' => by
  obtain ⟨b, c, d⟩ := s.2 r k' k g' g
  exact ⟨b.symm, c.symm, d.symm⟩⟩
theorem Shape.trans {a b c : List Blk} (s : Shape a b) (s' : Shape b c) : Shape a c := ⟨s.1.trans s'.1, fun r k k' g g' => by
  obtain ⟨m, hm, h2, h3, h4⟩ := s.get g
  obtain ⟨a2, a3, a4⟩ := s'.2 r m k' hm g'
  exact ⟨a2.trans h2, a3.trans h3, a4.trans h4⟩⟩
theorem Shape.refl (h : List Blk) : Shape h h := ⟨rfl, fun r k k' g g' => by rw [g] at g'; cases g'; exact ⟨rfl, rfl, rfl⟩⟩

theorem setAll_length {cells cs : List Sc} {off : Nat} (h : off + cs.length ≤ cells.length) : (setAll cells off cs).length = cells.length := by
  simp [setAll]; omega
theorem setAll_get {cells cs : List Sc} {off : Nat} (h : off + cs.length ≤ cells.length) (q : Nat) : (setAll cells off cs)[q]? = if off ≤ q ∧ q < off + cs.length then cs[q - off]? else cells[q]? := by
  simp only [setAll, List.append_assoc, List.getElem?_append, List.length_take, List.getElem?_take, List.getElem?_drop]
  have hm : min off cells.length = off := by omega
  rw [hm]
  by_cases h1 : q < off
  · rw [if_pos h1, if_pos h1, if_neg (by omega)]
  · rw [if_neg h1]
    by_cases h2 : q - off < cs.length
    · rw [if_pos h2, if_pos (by omega)]
    · rw [if_neg h2, if_neg (by omega)]
      congr 1
      omega
/-- The effect is within its block: of writes alone. -/
def WithinW (h : List Blk) : Eff → Prop
  | .wr r off cs => ∃ k : Blk, h[r]? = some k ∧ (k.plain = true ∧ ∀ c ∈ cs, c.real = true) ∧ off + cs.length ≤ k.cells.length
  | _ => True
theorem app_shape {h : List Blk} {e : Eff} (hw : WithinW h e) : Shape h (e.appW h) := by
  cases e with
  | none => exact Shape.refl h
  | rd => exact Shape.refl h
  | new => exact Shape.refl h
  | full => exact Shape.refl h
  | wr r off cs =>
    obtain ⟨k0, hk0, ⟨hp0, hcr⟩, hle⟩ := hw
    refine ⟨(updBlk_length _ h r).symm, fun i k k' g g' => ?_⟩
    simp only [Eff.appW, updBlk_get] at g'
    split at g'
    · rename_i e
      subst e
      rw [g] at g' hk0
      cases hk0
      cases g'
      exact ⟨rfl, setAll_length hle, by rw [hp0]; exact setAll_plain hp0 hcr⟩
    · rw [g] at g'
      cases g'
      exact ⟨rfl, rfl, rfl⟩
theorem app_get {h : List Blk} {e : Eff} (hw : WithinW h e) {r : Nat} {k k' : Blk} (hr : h[r]? = some k) (hr' : (e.appW h)[r]? = some k') (q : Nat) : k'.cells[q]? = (wE e r q).or (k.cells[q]?) := by
  cases e with
  | none => simp only [Eff.appW] at hr'; rw [hr] at hr'; cases hr'; simp [wE]
  | rd => simp only [Eff.appW] at hr'; rw [hr] at hr'; cases hr'; simp [wE]
  | new => simp only [Eff.appW] at hr'; rw [hr] at hr'; cases hr'; simp [wE]
  | full => simp only [Eff.appW] at hr'; rw [hr] at hr'; cases hr'; simp [wE]
  | wr r0 off cs =>
    obtain ⟨k0, hk0, _, hle⟩ := hw
    simp only [Eff.appW, updBlk_get] at hr'
    split at hr'
    · rename_i e
      subst e
      rw [hr] at hr' hk0
      cases hk0
      cases hr'
      simp only [setAll_get hle, wE, true_and]
      by_cases h1 : off ≤ q
      · by_cases h2 : q < off + cs.length
        · have : q - off < cs.length := by omega
          simp [h1, h2, this]
        · have : cs[q - off]? = none := List.getElem?_eq_none (by omega)
          simp [h1, h2, this]
      · simp [h1]
    · rename_i e
      rw [hr] at hr'
      cases hr'
      simp [wE, Ne.symm e]

section
variable {P : Program} {w0 : World} {F : List Nat → Prop} {ops : Array Oper} {n : Nat} {rs : List Rec} {A : Nat → List Nat → Act} {H : Nat → List Blk}

theorem Text.facts (T : Text P w0 F ops (ops.toList.take n) rs A H) (hn : n ≤ ops.size) {i : Nat} (hin : i < n) : ∃ o r, ops[i]? = some o ∧ rs[i]? = some r ∧ (A (i + 1) = fun b => (A i b).put o.dst (r.v.γ b)) ∧ H (i + 1) = r.eff.app (H i) ∧ r.n = (H i).length ∧ r.v.wf (lt (H (i + 1)).length) = true ∧ r.eff.wf (lt (H i).length) = true ∧
    ((∀ h', r.eff ≠ .full h') ∧ Within (H i) r.eff) ∧ ∃ ts', (∀ b, F b → TOk b ts' (A i b)) ∧
    (r.want = true → (∀ b, F b → Region.wanted o (yielded ops (A i b).tmps) = true) ∧ Loc P w0 o ts' (H i) r.v r.eff) ∧
    (r.want = false → (∀ b, F b → Region.wanted o (yielded ops (A i b).tmps) = false) ∧ r.v = .undef ∧ r.eff = .none) := by
  have hi : i < ops.size := by omega
  have ho : (ops.toList.take n)[i]? = some (ops[i]'hi) := by rw [List.getElem?_take, if_pos hin]; simp
  have hl : i < rs.length := by rw [T.len]; simp; omega
  have hr : rs[i]? = some rs[i] := List.getElem?_eq_getElem hl
  exact ⟨_, _, by simp, hr, T.at_ i _ _ ho hr⟩

theorem Text.act (T : Text P w0 F ops (ops.toList.take n) rs A H) (hn : n ≤ ops.size) (b : List Nat) : ∀ i, i ≤ n → (A i b).tmps.size = (A 0 b).tmps.size ∧ (A i b).defers = (A 0 b).defers ∧ ∀ t, t < (A 0 b).tmps.size → (A i b).tmps[t]? = some (st (wT b ops rs t) (fun _ => true) ((A 0 b).tmps.getD t undef) i)
  | 0, _ => ⟨rfl, rfl, fun t ht => by simp [st, ht]⟩
  | i + 1, h => by
    obtain ⟨h1, h2, h3⟩ := Text.act T hn b i (by omega)
    obtain ⟨o, r, ho, hr, hA, _⟩ := T.facts hn (i := i) (by omega)
    rw [hA]
    refine ⟨by rw [put_size, h1], by rw [put_defers, h2], fun t ht => ?_⟩
    rw [putγ_get _ _ _ _ (by omega)]
    have hold : (A i b).tmps.getD t undef = st (wT b ops rs t) (fun _ => true) ((A 0 b).tmps.getD t undef) i := by
      rw [Array.getD_eq_getD_getElem?, h3 t ht]; rfl
    simp only [st, if_true, wT, ho, hr]
    by_cases e : o.dst = some t
    · simp [e]
    · simp [e, hold, wT]

theorem Text.grows (T : Text P w0 F ops (ops.toList.take n) rs A H) (hn : n ≤ ops.size) : ∀ i j, i ≤ j → j ≤ n → (H i).length ≤ (H j).length := by
  intro i j hij hj
  induction j with
  | zero => have : i = 0 := by omega
            subst this; exact Nat.le_refl _
  | succ j ih =>
    by_cases e : i = j + 1
    · subst e; exact Nat.le_refl _
    · obtain ⟨o, r, _, _, _, hH, _, _, _, hf, _⟩ := T.facts hn (i := j) (by omega)
      rw [hH]
      exact Nat.le_trans (ih (by omega) (by omega)) (app_length hf.1)
theorem Text.makes_at (T : Text P w0 F ops (ops.toList.take n) rs A H) (hn : n ≤ ops.size) {j r : Nat} (hj : j < n) (h : makes rs j r = true) : r = (H j).length ∧ (H (j + 1)).length = (H j).length + 1 ∧ ∃ x k, rs[j]? = some x ∧ x.eff = .new k := by
  obtain ⟨o, x, _, hr, _, hH, hnn, _⟩ := T.facts hn hj
  unfold makes at h
  rw [hr] at h
  simp only at h
  split at h
  · rename_i k he
    simp only [beq_iff_eq] at h
    refine ⟨by omega, ?_, x, k, hr, he⟩
    rw [hH, he]
    simp [Eff.app]
  · cases h
/-- Each block that comes, comes once. -/
theorem Text.makes_one (T : Text P w0 F ops (ops.toList.take n) rs A H) (hn : n ≤ ops.size) {i j r : Nat} (hi : i < n) (hj : j < n) (h1 : makes rs i r = true) (h2 : makes rs j r = true) : i = j := by
  obtain ⟨a1, a2, _⟩ := T.makes_at hn hi h1
  obtain ⟨b1, b2, _⟩ := T.makes_at hn hj h2
  rcases Nat.lt_trichotomy i j with h | h | h
  · have := T.grows hn (i + 1) j h (by omega); omega
  · exact h
  · have := T.grows hn (j + 1) i h (by omega); omega
/-- A block that the text has at i was there, or came ahead of i. -/
theorem Text.made (T : Text P w0 F ops (ops.toList.take n) rs A H) (hn : n ≤ ops.size) : ∀ i, i ≤ n → ∀ r, r < (H i).length → r < (H 0).length ∨ ∃ j, j < i ∧ makes rs j r = true
  | 0, _, r, h => .inl h
  | i + 1, hi, r, h => by
    obtain ⟨o, x, _, hr, _, hH, hnn, _, _, hf, _⟩ := T.facts hn (i := i) (by omega)
    by_cases h1 : r < (H i).length
    · rcases Text.made T hn i (by omega) r h1 with h2 | ⟨j, hj, h2⟩
      · exact .inl h2
      · exact .inr ⟨j, by omega, h2⟩
    · right
      refine ⟨i, by omega, ?_⟩
      unfold makes
      rw [hr]
      simp only
      rw [hH] at h
      cases he : x.eff with
      | none => rw [he] at h; simp only [Eff.app] at h; omega
      | rd => rw [he] at h; simp only [Eff.app] at h; omega
      | wr => rw [he] at h; simp only [Eff.app, updBlk_length] at h; omega
      | full h' => exact absurd he (hf.1 h')
      | new k => rw [he] at h; simp only [Eff.app, List.length_append, List.length_singleton] at h; simp only [beq_iff_eq]; omega

/-- The heap with room for all that comes. -/
def Text.room (H : Nat → List Blk) (rs : List Rec) (i : Nat) : List Blk := H i ++ news (rs.drop i)
theorem updBlk_app (f : Blk → Blk) (l : List Blk) : ∀ (h : List Blk) (r : Nat), r < h.length → updBlk (h ++ l) r f = updBlk h r f ++ l
  | [], r, hr => by simp at hr
  | _ :: _, 0, _ => rfl
  | x :: h, r + 1, hr => by simp only [List.cons_append, updBlk, updBlk_app f l h r (by simpa using hr)]
theorem Text.room_step (T : Text P w0 F ops (ops.toList.take n) rs A H) (hn : n ≤ ops.size) {i : Nat} (hi : i < n) {x : Rec} (hr : rs[i]? = some x) : Text.room H rs (i + 1) = x.eff.appW (Text.room H rs i) ∧ WithinW (Text.room H rs i) x.eff := by
  obtain ⟨o, x', _, hr', _, hH, hnn, _, _, hf, _⟩ := T.facts hn hi
  rw [hr] at hr'
  cases hr'
  have hd : rs.drop i = x :: rs.drop (i + 1) := by
    have hl := (List.getElem?_eq_some_iff.1 hr)
    rw [List.drop_eq_getElem_cons hl.1, hl.2]
  unfold Text.room
  rw [hH, hd]
  cases he : x.eff with
  | none => simp only [Eff.app, Eff.appW, news, he]; exact ⟨trivial, trivial⟩
  | rd => simp only [Eff.app, Eff.appW, news, he]; exact ⟨trivial, trivial⟩
  | full h' => exact absurd he (hf.1 h')
  | new k => simp only [Eff.app, Eff.appW, news, he, List.append_assoc, List.singleton_append]; exact ⟨trivial, trivial⟩
  | wr r off cs =>
    have hw := hf.2
    rw [he] at hw
    obtain ⟨k, hk, hle⟩ := hw
    have hlt := (List.getElem?_eq_some_iff.1 hk).1
    simp only [Eff.app, Eff.appW, news, he, updBlk_app _ _ _ _ hlt]
    exact ⟨trivial, k, by rw [List.getElem?_append_left hlt]; exact hk, hle⟩
theorem Text.heap (T : Text P w0 F ops (ops.toList.take n) rs A H) (hn : n ≤ ops.size) : ∀ i, i ≤ n → Shape (Text.room H rs 0) (Text.room H rs i) ∧ ∀ (r : Nat) (k k' : Blk), (Text.room H rs 0)[r]? = some k → (Text.room H rs i)[r]? = some k' → ∀ q c, k.cells[q]? = some c → k'.cells[q]? = some (st (wC rs r q) (fun _ => true) c i)
  | 0, _ => ⟨Shape.refl _, fun r k k' g g' q c hq => by rw [g] at g'; cases g'; exact hq⟩
  | i + 1, h => by
    obtain ⟨s, hc⟩ := Text.heap T hn i (by omega)
    obtain ⟨o, r0, ho, hr, _⟩ := T.facts hn (i := i) (by omega)
    obtain ⟨hH, hw⟩ := T.room_step hn (by omega) hr
    rw [hH]
    have s1 := app_shape hw
    refine ⟨s.trans s1, fun r k k' g g' q c hq => ?_⟩
    obtain ⟨m, hm, _⟩ := s.get g
    rw [app_get hw hm g' q, hc r k m g hm q c hq]
    simp only [st, if_true, wC, hr]
    cases wE r0.eff r q <;> rfl
theorem Text.room_get {H : Nat → List Blk} {rs : List Rec} {i r : Nat} {k : Blk} (h : (H i)[r]? = some k) : (Text.room H rs i)[r]? = some k := by
  unfold Text.room
  rw [List.getElem?_append_left (List.getElem?_eq_some_iff.1 h).1]
  exact h
end

/-- Behind the listed ones. -/
structure Inv (n n0 : Nat) (F : List Nat → Prop) (ops : Array Oper) (rs : List Rec) (w0 : World) (a0 : Act) (h0 : List Blk) (f : Nat → Bool) (a : Act) (w : World) : Prop where
  size : a.tmps.size = a0.tmps.size
  defers : a.defers = a0.defers
  mem : ∃ b h', F b ∧ Rep (mask n0 n rs f) w0 b h' w ∧ Shape h0 h' ∧ (∀ (r : Nat) (k k' : Blk), h0[r]? = some k → h'[r]? = some k' → ∀ q c, k.cells[q]? = some c → k'.cells[q]? = some (st (wC rs r q) f c n)) ∧
    ∀ t, t < a0.tmps.size → a.tmps[t]? = some (st (wT b ops rs t) f (a0.tmps.getD t undef) n)

theorem hits_wr {r off q : Nat} {cs : List Sc} {e : Eff} (h : hits (.wr r off cs) e = false) (hw : wE e r q ≠ none) (hq : off ≤ q ∧ q < off + cs.length) : False := by
  cases e with
  | none => exact hw rfl
  | rd => exact hw rfl
  | new => exact hw rfl
  | full => simp [hits] at h
  | wr r' off' cs' =>
    simp only [wE] at hw
    split at hw
    · rename_i hh
      obtain ⟨rfl, hh⟩ := hh
      have : q - off' < cs'.length := by
        rcases Nat.lt_or_ge (q - off') cs'.length with h1 | h1
        · exact h1
        · exact absurd (List.getElem?_eq_none h1) hw
      simp [hits] at h
      omega
    · exact hw rfl
theorem hits_rd {r off n q : Nat} {e : Eff} (h : hits e (.rd r off n) = false ∨ hits (.rd r off n) e = false) (hw : wE e r q ≠ none) (hq : off ≤ q ∧ q < off + n) : False := by
  cases e with
  | none => exact hw rfl
  | rd => exact hw rfl
  | new => exact hw rfl
  | full => simp [hits] at h
  | wr r' off' cs' =>
    simp only [wE] at hw
    split at hw
    · rename_i hh
      obtain ⟨rfl, hh⟩ := hh
      have : q - off' < cs'.length := by
        rcases Nat.lt_or_ge (q - off') cs'.length with h1 | h1
        · exact h1
        · exact absurd (List.getElem?_eq_none h1) hw
      rcases h with h | h <;> simp [hits] at h <;> omega
    · exact hw rfl
theorem wE_cov {e : Eff} {r q : Nat} {c : Sc} (h : wE e r q = some c) : ∃ off cs, e = .wr r off cs ∧ off ≤ q ∧ q < off + cs.length := by
  cases e with
  | none => cases h
  | rd => cases h
  | new => cases h
  | full => cases h
  | wr r' off cs =>
    simp only [wE] at h
    split at h
    · rename_i hh
      obtain ⟨rfl, hh⟩ := hh
      have := (List.getElem?_eq_some_iff.1 h).1
      exact ⟨off, cs, rfl, hh, by omega⟩
    · cases h
theorem wf_split {m1 m2 : Nat → Bool} {s : Sc} (h : s.wf m1 = true) (h2 : ∀ r, m1 r = true → m2 r = true ∨ s.wf (fun x => !(x == r)) = true) : s.wf m2 = true := by
  cases s with
  | ptr r off =>
    rcases h2 r h with h3 | h3
    · exact h3
    · simp [Sc.wf] at h3
  | gs r _ _ _ _ _ =>
    rcases h2 r h with h3 | h3
    · exact h3
    · simp [Sc.wf] at h3
  | rp r _ _ _ =>
    rcases h2 r h with h3 | h3
    · exact h3
    · simp [Sc.wf] at h3
  | os r off len cap =>
    rcases h2 r h with h3 | h3
    · exact h3
    · simp [Sc.wf] at h3
  | fn f caps =>
    refine List.all_eq_true.2 fun c hc => ?_
    rcases h2 c.1 (List.all_eq_true.1 h c hc) with h3 | h3
    · exact h3
    · have := List.all_eq_true.1 h3 c hc
      simp at this
  | fz r f =>
    rcases h2 r h with h3 | h3
    · exact h3
    · simp [Sc.wf] at h3
  | fq r f i =>
    rcases h2 r h with h3 | h3
    · exact h3
    · simp [Sc.wf] at h3
  | iz r _ _ _ _ =>
    rcases h2 r h with h3 | h3
    · exact h3
    · simp [Sc.wf] at h3
  | _ => rfl
theorem st_val {V : Type} (w w' : Nat → Option V) (f : Nat → Bool) (base : V) : ∀ n, (∀ j, j < n → f j = true → w j = w' j) → st w f base n = st w' f base n
  | 0, _ => rfl
  | n + 1, h => by
    have ih := st_val w w' f base n fun j hj => h j (by omega)
    simp only [st]
    rw [ih]
    cases hf : f n with
    | false => rfl
    | true => rw [h n (by omega) hf]
theorem st_off {V : Type} (w : Nat → Option V) (f : Nat → Bool) (base : V) : ∀ n, (∀ j, j < n → f j = true → w j = none) → st w f base n = base
  | 0, _ => rfl
  | n + 1, h => by
    have ih := st_off w f base n fun j hj => h j (by omega)
    simp only [st]
    rw [ih]
    cases hf : f n with
    | false => rfl
    | true => rw [h n (by omega) hf]; rfl

section
variable {P : Program} {w0 : World} {F : List Nat → Prop} {ops : Array Oper} {n : Nat} {rs : List Rec} {A : Nat → List Nat → Act} {H : Nat → List Blk}
/-- The operations behind all others, one by one. -/
theorem seq_any {Q : Exit → Act → World → Prop} (hlast : ∀ t, n ≤ t → t < ops.size → lastOk ops t = true) : ∀ (g k : Nat) (listed : Array Bool) (a : Act) (w : World), k + g = ops.size → n ≤ k → listed.size = ops.size → (∀ j, j < k → listed.getD j false = true) → (∀ j, k ≤ j → j < ops.size → listed.getD j false = false) → Closed ops listed →
    wpList P ops Q (ops.toList.drop k) a w → wpAny P .any ops Q g listed a w
  | 0, k, listed, a, w, hk, hnk, hs, hl, hu, hcl, h => by
    refine ⟨?_, ?_⟩
    · rw [List.eq_nil_iff_forall_not_mem]
      intro j hj
      obtain ⟨h1, o, ho, _⟩ := mem_ready.1 hj
      have := hl j (by have := (Array.getElem?_eq_some_iff.1 ho).1; omega)
      rw [getD_both h1] at this
      cases this
    · rw [List.drop_eq_nil_of_le (by simp; omega)] at h
      exact h
  | g + 1, k, listed, a, w, hk, hnk, hs, hl, hu, hcl, h => by
    have hks : k < ops.size := by omega
    have ho : ops[k]? = some (ops[k]'hks) := by simp
    have hlk := hlast k hnk hks
    unfold lastOk at hlk
    rw [ho] at hlk
    simp only [Bool.and_eq_true] at hlk
    have hready : k ∈ Region.ready .any ops listed := mem_ready.2 ⟨getD_in (by omega) (hu k (Nat.le_refl _) hks), _, ho, fun e he hb => by
      have := List.all_eq_true.1 hlk.1 e (by simpa using he)
      simp [hb] at this
      exact hl e.on this⟩
    refine ⟨fun h0 => absurd hready (by rw [h0]; simp), fun i hi => ?_⟩
    obtain ⟨hun, o, hoi, hedge⟩ := mem_ready.1 hi
    have hin : i < ops.size := (Array.getElem?_eq_some_iff.1 hoi).1
    have hik : i = k := by
      rcases Nat.lt_trichotomy i k with h1 | h1 | h1
      · have := hl i h1
        rw [getD_both hun] at this
        cases this
      · exact h1
      · exfalso
        have hli := hlast i (by omega) hin
        unfold lastOk at hli
        rw [hoi] at hli
        simp only [Bool.and_eq_true] at hli
        have := List.all_eq_true.1 hli.2 k (List.mem_range.2 h1)
        have := anc_listed hcl i i (Nat.le_refl _) this fun oj hoj => by rw [hoi] at hoj; cases hoj; exact hedge
        rw [hu k (Nat.le_refl _) hks] at this
        cases this
    subst hik
    have hnext : ∀ a' w', wpList P ops Q (ops.toList.drop (i + 1)) a' w' → wpAny P .any ops Q g (listed.setIfInBounds i true) a' w' := fun a' w' h' =>
      seq_any hlast g (i + 1) _ a' w' (by omega) (by omega) (by simp [hs]) (fun j hj => by
        by_cases e : j = i
        · subst e; simp [hs, hin]
        · rw [getD_set_ne false (Ne.symm e)]; exact hl j (by omega)) (fun j hj hj' => by rw [getD_set_ne false (by omega)]; exact hu j (by omega) hj') (fun j oj hoj hlj e he hb => by
          by_cases hji : i = j
          · subst hji
            rw [hoi] at hoj
            cases hoj
            exact getD_set_true (hedge e he hb)
          · rw [getD_set_ne false hji] at hlj
            exact getD_set_true (hcl j oj hoj hlj e he hb)) h'
    rw [List.drop_eq_getElem_cons (by simpa using hin)] at h
    have eo : ops.toList[i]'(by simpa using hin) = o := by
      have : ops[i]? = some o := hoi
      simpa [hin] using this
    rw [eo] at h
    unfold wpList at h
    unfold wpOp
    simp only [hoi]
    split
    · rename_i hw
      rw [if_pos hw] at h
      rcases h with h | h
      · exact .inl (Oper.wp_mono hnext h)
      · exact .inr h
    · rename_i hw
      rw [if_neg hw] at h
      exact hnext _ _ h

theorem mask_iff {n0 : Nat} {f : Nat → Bool} {r : Nat} : mask n0 n rs f r = true ↔ r < n0 ∨ ∃ j, j < n ∧ f j = true ∧ makes rs j r = true := by
  simp only [mask, Bool.or_eq_true, lt_iff, List.any_eq_true, List.mem_range, Bool.and_eq_true]

theorem any_order {a0 : Act} {n0 : Nat} (T : Text P w0 F ops (ops.toList.take n) rs A H) (hn : n ≤ ops.size) (hok : okOrder ops 0 (ops.toList.take n) rs = true) (hlast : ∀ t, n ≤ t → t < ops.size → lastOk ops t = true) (hA0 : ∀ b, A 0 b = a0) (hn0 : n0 = (H 0).length)
    (hF : ∀ b i x, F b → n0 ≤ i → F (b.set i x)) {Q : Exit → Act → World → Prop} (hQ : ∀ b a w, F b → a = A n b → Rep (lt (H n).length) w0 b (H n) w → wpList P ops Q (ops.toList.drop n) a w) :
    ∀ (m : Nat) (listed : Array Bool) (a : Act) (w : World), listed.size = ops.size → (listed.toList.take n).count false = m → (∀ j, n ≤ j → j < ops.size → listed.getD j false = false) → Closed ops listed → Inv n n0 F ops rs w0 a0 (Text.room H rs 0) (fun j => listed.getD j false) a w → wpAny P .any ops Q (m + (ops.size - n)) listed a w := by
  have tk : ∀ {i : Nat} {o : Oper}, i < n → ops[i]? = some o → (ops.toList.take n)[i]? = some o := fun hi ho => by rw [List.getElem?_take, if_pos hi]; simpa using ho
  have pair : ∀ i j oi oj ri rj, i < j → j < n → ops[i]? = some oi → ops[j]? = some oj → rs[i]? = some ri → rs[j]? = some rj → pairOk ops i j oi oj ri rj = true := by
    intro i j oi oj ri rj hij hjn hi hj hri hrj
    have := ((okOrder_at _ _ 0 hok i oi ri (tk (by omega) hi) hri).2 j oj rj hij (tk hjn hj) hrj)
    simpa using this
  have edges : ∀ i oi, i < n → ops[i]? = some oi → ∀ e ∈ oi.after, Region.binds .any e = true → e.on < i := by
    intro i oi hlt hi e he hb
    obtain ⟨o, r, ho, hr, _⟩ := T.facts hn hlt
    have := (okOrder_at _ _ 0 hok i oi r (tk hlt hi) hr).1
    simp only [Nat.zero_add, edgesOk] at this
    have := List.all_eq_true.1 this e (by simpa using he)
    simpa [hb] using this
  intro m
  induction m with
  | zero =>
    intro listed a w hs hc hu hcl inv
    have hall : ∀ j, j < n → listed.getD j false = true := by
      intro j hj
      cases hh : listed.getD j false with
      | true => rfl
      | false =>
        exfalso
        have hjl : j < listed.size := by omega
        have : listed[j] = false := by simpa [hjl] using hh
        have hm : false ∈ listed.toList.take n := by
          rw [List.mem_iff_getElem?]
          exact ⟨j, by rw [List.getElem?_take, if_pos hj]; simp [hjl, this]⟩
        have := List.count_pos_iff.2 hm
        omega
    rw [Nat.zero_add]
    refine seq_any hlast (ops.size - n) n listed a w (by omega) (Nat.le_refl _) hs hall hu hcl ?_
    obtain ⟨b, h', hb, R, sh, hcell, htmp⟩ := inv.mem
    obtain ⟨t1, t2, t3⟩ := T.act hn b n (Nat.le_refl _)
    obtain ⟨s1, s2⟩ := T.heap hn n (Nat.le_refl _)
    have eqst : ∀ {V : Type} (w : Nat → Option V) (b : V), st w (fun j => listed.getD j false) b n = st w (fun _ => true) b n := fun w b => st_congr _ _ _ _ _ fun j hj _ => hall j hj
    have ea : a = A n b := by
      have e1 : a.tmps = (A n b).tmps := by
        apply Array.ext_getElem?
        intro t
        rw [hA0] at t1 t3
        by_cases ht : t < a0.tmps.size
        · rw [htmp t ht, t3 t ht, eqst]
        · rw [Array.getElem?_eq_none (by rw [inv.size]; omega), Array.getElem?_eq_none (by omega)]
      have e2 : a.defers = (A n b).defers := by rw [inv.defers, t2, hA0]
      cases a; cases hA : A n b
      simp only [hA] at e1 e2
      subst e1 e2
      rfl
    have eroom : Text.room H rs n = H n := by
      unfold Text.room
      rw [List.drop_eq_nil_of_le (by rw [T.len]; simp; omega)]
      simp [news]
    have eh : h' = H n := by
      rw [← eroom]
      apply List.ext_getElem?
      intro r
      cases hr : (Text.room H rs 0)[r]? with
      | none =>
        have hl : (Text.room H rs 0).length ≤ r := List.getElem?_eq_none_iff.1 hr
        rw [List.getElem?_eq_none (by rw [← sh.1]; exact hl), List.getElem?_eq_none (by rw [← s1.1]; exact hl)]
      | some k =>
        obtain ⟨k1, hk1, a2, a3, a4⟩ := sh.get hr
        obtain ⟨k2, hk2, b2, b3, b4⟩ := s1.get hr
        rw [hk1, hk2]
        have ec : k1.cells = k2.cells := by
          apply List.ext_getElem?
          intro q
          cases hq : k.cells[q]? with
          | none =>
            have hl : k.cells.length ≤ q := List.getElem?_eq_none_iff.1 hq
            rw [List.getElem?_eq_none (by omega), List.getElem?_eq_none (by omega)]
          | some c => rw [hcell r k k1 hr hk1 q c hq, s2 r k k2 hr hk2 q c hq, eqst]
        cases k1; cases k2
        simp only at a2 b2 ec
        rw [a2, b2, ec]
    subst eh
    refine hQ b a w hb ea (R.congr fun r => ?_)
    rw [Bool.eq_iff_iff, mask_iff, lt_iff]
    constructor
    · rintro (h1 | ⟨j, hj, _, h1⟩)
      · have := T.grows hn 0 n (by omega) (Nat.le_refl _); omega
      · obtain ⟨g1, g2, _⟩ := T.makes_at hn hj h1
        have := T.grows hn (j + 1) n (by omega) (Nat.le_refl _); omega
    · intro h1
      rcases T.made hn n (Nat.le_refl _) r h1 with h2 | ⟨j, hj, h2⟩
      · exact .inl (by omega)
      · exact .inr ⟨j, hj, hall j hj, h2⟩
  | succ m ih =>
    intro listed a w hs hc hu hcl inv
    rw [show m + 1 + (ops.size - n) = (m + (ops.size - n)) + 1 by omega]
    have hm : false ∈ listed.toList.take n := List.count_pos_iff.1 (by omega)
    have hex : ∃ j, j < n ∧ listed.getD j false = false := by
      obtain ⟨j, hj⟩ := List.mem_iff_getElem?.1 hm
      rw [List.getElem?_take] at hj
      split at hj
      · rename_i hjn
        have hj' : j < listed.size := by omega
        exact ⟨j, hjn, by simpa [hj'] using hj⟩
      · cases hj
    refine ⟨fun h0 => ?_, fun i hi => ?_⟩
    · exfalso
      obtain ⟨j, hj, hjf⟩ := hex
      have : ∀ p j, j ≤ p → j < n → listed.getD j false = false → ∃ i, i < n ∧ listed.getD i false = false ∧ ∀ i', i' < i → listed.getD i' false = true := by
        intro p
        induction p with
        | zero => intro j hjn hj hjf; exact ⟨j, hj, hjf, fun i' hi' => by omega⟩
        | succ p ihn =>
          intro j hjn hj hjf
          by_cases hh : ∃ i', i' < j ∧ listed.getD i' false = false
          · obtain ⟨i', h1, h2⟩ := hh
            exact ihn i' (by omega) (by omega) h2
          · refine ⟨j, hj, hjf, fun i' hi' => ?_⟩
            cases hx : listed.getD i' false with
            | true => rfl
            | false => exact absurd ⟨i', hi', hx⟩ hh
      obtain ⟨i, hi, hif, hlow⟩ := this j j (Nat.le_refl _) hj hjf
      have : i ∈ Region.ready .any ops listed := mem_ready.2 ⟨getD_in (by omega) hif, ops[i]'(by omega), by simp, fun e he hb => hlow e.on (edges i _ hi (by simp) e he hb)⟩
      rw [h0] at this
      cases this
    · obtain ⟨hun, o, ho, hedge⟩ := mem_ready.1 hi
      have hun' := getD_both hun
      have hisz : i < ops.size := (Array.getElem?_eq_some_iff.1 ho).1
      have hin : i < n := by
        rcases Nat.lt_or_ge i n with h1 | h1
        · exact h1
        · exfalso
          obtain ⟨j, hj, hjf⟩ := hex
          have hli := hlast i h1 hisz
          unfold lastOk at hli
          rw [ho] at hli
          simp only [Bool.and_eq_true] at hli
          have := List.all_eq_true.1 hli.2 j (List.mem_range.2 (by omega))
          have := anc_listed hcl i i (Nat.le_refl _) this fun oj hoj => by rw [ho] at hoj; cases hoj; exact hedge
          rw [hjf] at this
          cases this
      obtain ⟨o', r, ho', hr, hA, hH, hnn, hvw, hew, ⟨hfull, hwith⟩, ts', hts, hwant, hnot⟩ := T.facts hn hin
      rw [ho] at ho'
      cases ho'
      obtain ⟨b, h', hb, R, sh, hcell, htmp⟩ := inv.mem
      -- who is listed, of those that mind
      have before : ∀ j, anc ops i j = true → listed.getD j false = true := fun j h => anc_listed hcl i i (Nat.le_refl _) h fun oj hoj => by rw [ho] at hoj; cases hoj; exact hedge
      have behind : ∀ j oj, ops[j]? = some oj → anc ops j i = true → listed.getD j false = false := by
        intro j oj hoj h
        cases hh : listed.getD j false with
        | false => rfl
        | true =>
          have := anc_listed hcl j j (Nat.le_refl _) h fun ok hok => hcl j ok hok hh
          rw [hun'] at this
          cases this
      -- one place: as in the text's order
      have place : ∀ {V : Type} (wr : Nat → Option V) (b : V), (∀ j, j < n → j ≠ i → wr j ≠ none → ∀ oj rj, ops[j]? = some oj → rs[j]? = some rj → (j < i → anc ops i j = true) ∧ (i < j → anc ops j i = true)) →
          st wr (fun j => listed.getD j false) b n = st wr (fun _ => true) b i := by
        intro V wr b hm
        rw [← st_upto wr b i n (by omega)]
        refine st_congr _ _ _ _ _ fun j hj hwj => ?_
        by_cases e : j = i
        · subst e; simp [hun']
        · obtain ⟨oj, rj, hoj, hrj, _⟩ := T.facts hn hj
          obtain ⟨h1, h2⟩ := hm j hj e hwj oj rj hoj hrj
          rcases Nat.lt_or_gt_of_ne e with hlt | hgt
          · simp [hlt, before j (h1 hlt)]
          · rw [behind j oj hoj (h2 hgt)]
            simp
            omega
      obtain ⟨act1, act2, act3⟩ := T.act hn b i (by omega)
      rw [hA0] at act1 act3
      have tmpsame : ∀ t, t ∈ opTmps ops o → a.tmps[t]? = (A i b).tmps[t]? := by
        intro t ht
        by_cases hlt : t < a0.tmps.size
        · rw [htmp t hlt, act3 t hlt]
          congr 1
          refine place _ _ fun j hj hji hwj oj rj hoj hrj => ?_
          have hdst : oj.dst = some t := by
            simp only [wT, hoj, hrj] at hwj
            by_cases e : oj.dst = some t
            · exact e
            · rw [if_neg e] at hwj; exact absurd rfl hwj
          refine ⟨fun hlt => ?_, fun hgt => ?_⟩
          · have hp := pair j i oj o rj r hlt hin hoj ho hrj hr
            simp only [pairOk, hdst, Bool.or_eq_true, Bool.and_eq_true] at hp
            rcases hp with hp | hp
            · exact hp
            · have := hp.1.2.1
              simp at this
              exact absurd ht this
          · have hp := pair i j o oj r rj hgt hj ho hoj hr hrj
            simp only [pairOk, hdst, Bool.or_eq_true, Bool.and_eq_true] at hp
            rcases hp with hp | hp
            · exact hp
            · have := hp.2
              simp at this
              exact absurd ht this
        · have h9 := Nat.le_of_not_lt hlt
          rw [Array.getElem?_eq_none (by rw [inv.size]; exact h9), Array.getElem?_eq_none (by rw [act1]; exact h9)]
      have evsame : ∀ y ∈ o.op.operands, a.eval y = (A i b).eval y := by
        intro y hy
        cases y with
        | tmp t =>
          have := tmpsame t (by
            simp only [opTmps, List.mem_append, List.mem_filterMap]
            exact .inl ⟨.tmp t, by simpa using hy, rfl⟩)
          simp only [Act.eval, Array.getD_eq_getD_getElem?, this]
        | const => rfl
        | global => rfl
        | func => rfl
      have wsame : Region.wanted o (yielded ops a.tmps) = Region.wanted o (yielded ops (A i b).tmps) := by
        unfold Region.wanted
        cases hg : o.guard with
        | none => rfl
        | some g =>
          obtain ⟨g, want⟩ := g
          simp only [yielded]
          cases hd : (ops[g]?).bind (·.dst) with
          | none => rfl
          | some t =>
            have := tmpsame t (by
              simp only [opTmps, List.mem_append, hg]
              exact .inr (by simp [hd]))
            simp only [Option.bind_some, this]
      -- the step
      have hset : (listed.setIfInBounds i true).size = ops.size := by simp [hs]
      have hil : i < listed.size := by omega
      have hcount : ((listed.setIfInBounds i true).toList.take n).count false = m := by
        have hit : i < (listed.toList.take n).length := by simp; omega
        have hf : (listed.toList.take n)[i]'hit = false := by
          have : listed[i] = false := by simpa [hil] using hun'
          simp [this]
        rw [Array.toList_setIfInBounds, List.take_set, List.count_set hit]
        simp [hf, hc]
      have hrestu : ∀ j, n ≤ j → j < ops.size → (listed.setIfInBounds i true).getD j false = false := fun j hj hj' => by rw [getD_set_ne false (by omega)]; exact hu j hj hj'
      have hgetD : (fun j => (listed.setIfInBounds i true).getD j false) = fun j => if j = i then true else listed.getD j false := by
        funext j
        by_cases e : j = i
        · subst e; simp [hil]
        · rw [getD_set_ne false (Ne.symm e), if_neg e]
      have hclosed : Closed ops (listed.setIfInBounds i true) := by
        intro j oj hoj hlj e he hb
        by_cases hji : i = j
        · subst hji
          rw [ho] at hoj
          cases hoj
          exact getD_set_true (hedge e he hb)
        · rw [getD_set_ne false hji] at hlj
          exact getD_set_true (hcl j oj hoj hlj e he hb)
      -- blocks
      have hroomlen : ∀ p, p ≤ n → (H p).length ≤ (Text.room H rs 0).length := by
        intro p hp
        rw [(T.heap hn p hp).1.1]
        unfold Text.room
        simp
      have there : ∀ j r', j < i → makes rs j r' = true → (anc ops i j = true → mask n0 n rs (fun j => listed.getD j false) r' = true) := fun j r' hj hmk h => mask_iff.2 (.inr ⟨j, by omega, before j h, hmk⟩)
      have inmask : ∀ r', r' < (H i).length → mask n0 n rs (fun j => listed.getD j false) r' = true ∨ ∃ j oj rj, j < i ∧ makes rs j r' = true ∧ ops[j]? = some oj ∧ rs[j]? = some rj ∧ rj.n = r' ∧ rj.free r = true ∧ ∃ k, rj.eff = .new k := by
        intro r' hr'
        rcases T.made hn i (by omega) r' hr' with h1 | ⟨j, hj, hmk⟩
        · exact .inl (mask_iff.2 (.inl (by omega)))
        · obtain ⟨oj, rj, hoj, hrj, _, _, hnj, _⟩ := T.facts hn (i := j) (by omega)
          have hp := pair j i oj o rj r hj hin hoj ho hrj hr
          obtain ⟨g1, g2, x, k, g3, g4⟩ := T.makes_at hn (by omega) hmk
          rw [hrj] at g3
          cases g3
          simp only [pairOk, Bool.or_eq_true, Bool.and_eq_true] at hp
          rcases hp with hp | hp
          · exact .inl (there j r' hj hmk hp)
          · exact .inr ⟨j, oj, rj, hj, hmk, hoj, hrj, by omega, hp.1.1.2, k, g4⟩
      have free_off : ∀ (rj : Rec) (k : Blk), rj.eff = .new k → rj.free r = true → r.eff.off rj.n = true ∧ r.v.wf (fun x => !(x == rj.n)) = true := by
        intro rj k he hf
        unfold Rec.free at hf
        rw [he] at hf
        simpa only [Bool.and_eq_true] using hf
      have cellsmask : ∀ cs : List Sc, cs.all (Sc.wf (lt (H i).length)) = true → (∀ x, r.eff.off x = true → cs.all (Sc.wf fun y => !(y == x)) = true) → ∀ c ∈ cs, c.wf (mask n0 n rs (fun j => listed.getD j false)) = true := by
        intro cs h1 h2 c hc
        refine wf_split (List.all_eq_true.1 h1 c hc) fun r' hr' => ?_
        rcases inmask r' (lt_iff.1 hr') with h3 | ⟨j, oj, rj, hj, _, _, _, hrn, hfree, k, hk⟩
        · exact .inl h3
        · obtain ⟨o1, _⟩ := free_off rj k hk hfree
          rw [hrn] at o1
          exact .inr (List.all_eq_true.1 (h2 r' o1) c hc)
      have hnotyet : ∀ k, r.eff = .new k → mask n0 n rs (fun j => listed.getD j false) (H i).length = false := by
        intro k hk
        cases hh : mask n0 n rs (fun j => listed.getD j false) (H i).length with
        | false => rfl
        | true =>
          rcases mask_iff.1 hh with h1 | ⟨j, hj, hlj, hmk⟩
          · have := T.grows hn 0 i (by omega) (by omega); omega
          · have hmi : makes rs i (H i).length = true := by
              unfold makes
              rw [hr]
              simp only [hk, beq_iff_eq]
              exact hnn
            have := T.makes_one hn hj hin hmk hmi
            subst this
            rw [hun'] at hlj
            cases hlj
      have hfoot : Foot (mask n0 n rs (fun j => listed.getD j false)) (H i).length r.eff := by
        cases he : r.eff with
        | none => trivial
        | full x => exact absurd he (hfull x)
        | rd r' off m' =>
          rw [he] at hwith
          obtain ⟨k, hk⟩ := hwith
          rcases inmask r' (List.getElem?_eq_some_iff.1 hk).1 with h3 | ⟨j, oj, rj, hj, _, _, _, hrn, hfree, k', hk'⟩
          · exact h3
          · obtain ⟨o1, _⟩ := free_off rj k' hk' hfree
            rw [he, hrn] at o1
            simp [Eff.off] at o1
        | wr r' off cs =>
          rw [he] at hwith hew
          obtain ⟨k, hk, _⟩ := hwith
          refine ⟨?_, cellsmask cs hew fun x hx => ?_⟩
          · rcases inmask r' (List.getElem?_eq_some_iff.1 hk).1 with h3 | ⟨j, oj, rj, hj, _, _, _, hrn, hfree, k', hk'⟩
            · exact h3
            · obtain ⟨o1, _⟩ := free_off rj k' hk' hfree
              rw [he, hrn] at o1
              simp [Eff.off] at o1
          · rw [he] at hx
            simp only [Eff.off, Bool.and_eq_true] at hx
            exact hx.2
        | new k =>
          rw [he] at hew
          refine ⟨hnotyet k he, cellsmask k.cells hew fun x hx => ?_⟩
          rw [he] at hx
          exact hx
      obtain ⟨shi, celli⟩ := T.heap hn i (by omega)
      obtain ⟨roomnext, roomwith⟩ := T.room_step hn hin hr
      have hagree : Agree (H i) h' r.eff := by
        cases he : r.eff with
        | none => trivial
        | full x => exact absurd he (hfull x)
        | wr q0 off cs =>
          intro k hk
          have hk := Text.room_get (rs := rs) hk
          obtain ⟨k0, hk0, _, l0, p0⟩ := shi.symm.get hk
          obtain ⟨k1, hk1, _, l1, p1⟩ := sh.get hk0
          exact ⟨k1, hk1, p1.trans p0, by omega⟩
        | rd q0 off n' =>
          intro k hk
          have hk := Text.room_get (rs := rs) hk
          obtain ⟨k0, hk0, t0, l0, p0⟩ := shi.symm.get hk
          obtain ⟨k1, hk1, t1, l1, p1⟩ := sh.get hk0
          refine ⟨k1, hk1, ⟨p1.trans p0, l1.trans l0, t1.trans t0⟩, fun q hq => ?_⟩
          cases hc0 : k0.cells[off + q]? with
          | none =>
            have hl : k0.cells.length ≤ off + q := List.getElem?_eq_none_iff.1 hc0
            rw [List.getElem?_eq_none (by omega), List.getElem?_eq_none (by omega)]
          | some c =>
            rw [hcell q0 k0 k1 hk0 hk1 _ c hc0, celli q0 k0 k hk0 hk _ c hc0]
            congr 1
            refine place _ _ fun j hj hji hwj oj rj hoj hrj => ?_
            simp only [wC, hrj] at hwj
            refine ⟨fun hlt => ?_, fun hgt => ?_⟩
            · have hp := pair j i oj o rj r hlt hin hoj ho hrj hr
              simp only [pairOk, Bool.or_eq_true, Bool.and_eq_true] at hp
              rcases hp with hp | hp
              · exact hp
              · have h1 := hp.1.1.1
                rw [he] at h1
                exact (hits_rd (.inl (by simpa using h1)) hwj ⟨by omega, by omega⟩).elim
            · have hp := pair i j o oj r rj hgt hj ho hoj hr hrj
              simp only [pairOk, Bool.or_eq_true, Bool.and_eq_true] at hp
              rcases hp with hp | hp
              · exact hp
              · have h1 := hp.1.1.1
                rw [he] at h1
                exact (hits_rd (.inr (by simpa using h1)) hwj ⟨by omega, by omega⟩).elim
        | new k =>
          -- its place holds what it will hold
          have hd : rs.drop i = r :: rs.drop (i + 1) := by
            have hl := (List.getElem?_eq_some_iff.1 hr)
            rw [List.drop_eq_getElem_cons hl.1, hl.2]
          have hk : (Text.room H rs i)[(H i).length]? = some k := by
            unfold Text.room
            rw [hd]
            simp only [news, he]
            rw [List.getElem?_append_right (Nat.le_refl _)]
            simp
          obtain ⟨k0, hk0, t0, l0, p0⟩ := shi.symm.get hk
          obtain ⟨k1, hk1, t1, l1, p1⟩ := sh.get hk0
          -- nobody ahead of it writes there, and nobody behind it that is listed
          have quiet : ∀ q j, j < n → (j < i ∨ listed.getD j false = true) → wC rs (H i).length q j = none := by
            intro q j hj hor
            cases hw : wC rs (H i).length q j with
            | none => rfl
            | some v =>
              exfalso
              obtain ⟨oj, rj, hoj, hrj, _, _, _, _, _, ⟨_, hwj⟩, _⟩ := T.facts hn hj
              simp only [wC, hrj] at hw
              obtain ⟨off, cs, ee, _⟩ := wE_cov hw
              rw [ee] at hwj
              obtain ⟨kk, hkk, _⟩ := hwj
              have hltj := (List.getElem?_eq_some_iff.1 hkk).1
              rcases Nat.lt_trichotomy j i with h1 | h1 | h1
              · have := T.grows hn j i (by omega) (by omega); omega
              · subst h1; omega
              · have hp := pair i j o oj r rj h1 hj ho hoj hr hrj
                simp only [pairOk, Bool.or_eq_true, Bool.and_eq_true] at hp
                rcases hp with hp | hp
                · rcases hor with h2 | h2
                  · omega
                  · rw [behind j oj hoj hp] at h2; cases h2
                · have h3 := hp.1.1.2
                  unfold Rec.free at h3
                  rw [he] at h3
                  simp only [Bool.and_eq_true, ee, Eff.off, hnn] at h3
                  simp at h3
          have ec : k1.cells = k.cells := by
            apply List.ext_getElem?
            intro q
            cases hq : k0.cells[q]? with
            | none =>
              have hl : k0.cells.length ≤ q := List.getElem?_eq_none_iff.1 hq
              rw [List.getElem?_eq_none (by omega), List.getElem?_eq_none (by omega)]
            | some c =>
              rw [hcell _ k0 k1 hk0 hk1 q c hq, celli _ k0 k hk0 hk q c hq]
              rw [st_off _ _ _ _ fun j hj hlj => quiet q j hj (.inr hlj), st_off _ _ _ _ fun j hj _ => quiet q j (by omega) (.inl hj)]
          show h'[(H i).length]? = some k
          rw [hk1]
          cases k1; cases k
          simp only at ec t1 t0 ⊢
          rw [ec, t1, ← t0]
      have hwithW : WithinW h' r.eff := by
        cases he : r.eff with
        | wr q0 off cs =>
          rw [he] at hwith
          obtain ⟨k, hk, hpl, hle⟩ := hwith
          have hk := Text.room_get (rs := rs) hk
          obtain ⟨k0, hk0, _, l0, p0⟩ := shi.symm.get hk
          obtain ⟨k1, hk1, _, l1, p1⟩ := sh.get hk0
          exact ⟨k1, hk1, ⟨by rw [p1, p0]; exact hpl.1, hpl.2⟩, by omega⟩
        | _ => trivial
      -- behind it
      have next : ∀ b' w', Near b b' (H i).length r.eff → Rep (r.eff.more (mask n0 n rs (fun j => listed.getD j false)) (H i).length) w0 b' (r.eff.appW h') w' → Inv n n0 F ops rs w0 a0 (Text.room H rs 0) (fun j => (listed.setIfInBounds i true).getD j false) (a.put o.dst (r.v.γ b')) w' := by
        intro b' w' hnear R'
        rw [hgetD]
        have hFb : F b' := by
          cases he : r.eff with
          | new k =>
            rw [he] at hnear
            obtain ⟨x, rfl⟩ := hnear
            exact hF b _ x hb (by have := T.grows hn 0 i (by omega) (by omega); omega)
          | _ => rw [he] at hnear; have e : b' = b := hnear; rw [e]; exact hb
        -- who is listed does not name the new block
        have same : ∀ j rj, j < n → listed.getD j false = true → rs[j]? = some rj → rj.v.γ b' = rj.v.γ b := by
          intro j rj hj hlj hrj
          cases he : r.eff with
          | new k =>
            rw [he] at hnear
            obtain ⟨x, rfl⟩ := hnear
            obtain ⟨oj, rj', hoj, hrj', _, _, _, hvj, _⟩ := T.facts hn hj
            rw [hrj] at hrj'
            cases hrj'
            have hji : j ≠ i := by rintro rfl; rw [hun'] at hlj; cases hlj
            have hwf : rj.v.wf (fun y => !(y == (H i).length)) = true := by
              rcases Nat.lt_or_gt_of_ne hji with h1 | h1
              · refine AV.wf_mono (fun y hy => ?_) hvj
                have := T.grows hn (j + 1) i (by omega) (by omega)
                rw [lt_iff] at hy
                simp only [Bool.not_eq_true', beq_eq_false_iff_ne]
                omega
              · have hp := pair i j o oj r rj h1 hj ho hoj hr hrj
                simp only [pairOk, Bool.or_eq_true, Bool.and_eq_true] at hp
                rcases hp with hp | hp
                · rw [behind j oj hoj hp] at hlj; cases hlj
                · have h3 := hp.1.1.2
                  unfold Rec.free at h3
                  rw [he] at h3
                  simp only [Bool.and_eq_true, hnn] at h3
                  exact h3.2
            exact AV.γ_like (set_like (m := fun y => !(y == (H i).length)) (by simp)) hwf
          | _ => rw [he] at hnear; have e : b' = b := hnear; rw [e]
        refine ⟨by rw [put_size, inv.size], by rw [put_defers, inv.defers], b', _, hFb, R'.congr fun r' => ?_, sh.trans (app_shape hwithW), fun q0 k k' g g' q c hq => ?_, fun t ht => ?_⟩
        · rw [Bool.eq_iff_iff, mask_iff]
          have hmk : makes rs i r' = true ↔ (∃ k, r.eff = .new k) ∧ r' = (H i).length := by
            unfold makes
            rw [hr]
            constructor
            · intro h
              simp only at h
              split at h
              · rename_i k he
                simp only [beq_iff_eq] at h
                exact ⟨⟨k, he⟩, by omega⟩
              · cases h
            · rintro ⟨⟨k, he⟩, h⟩
              simp only [he, beq_iff_eq]
              omega
          cases he : r.eff with
          | new k =>
            simp only [Eff.more, also, Bool.or_eq_true, beq_iff_eq, mask_iff]
            constructor
            · rintro ((h1 | ⟨j, hj, hlj, h1⟩) | h1)
              · exact .inl h1
              · exact .inr ⟨j, hj, by simp [hlj], h1⟩
              · exact .inr ⟨i, hin, by simp, hmk.2 ⟨⟨k, he⟩, h1⟩⟩
            · rintro (h1 | ⟨j, hj, hlj, h1⟩)
              · exact .inl (.inl h1)
              · by_cases e : j = i
                · subst e; exact .inr (hmk.1 h1).2
                · exact .inl (.inr ⟨j, hj, by simpa [e] using hlj, h1⟩)
          | _ =>
            simp only [Eff.more, mask_iff]
            constructor
            · rintro (h1 | ⟨j, hj, hlj, h1⟩)
              · exact .inl h1
              · exact .inr ⟨j, hj, by simp [hlj], h1⟩
            · rintro (h1 | ⟨j, hj, hlj, h1⟩)
              · exact .inl h1
              · by_cases e : j = i
                · subst e
                  obtain ⟨⟨k, hk⟩, _⟩ := hmk.1 h1
                  rw [he] at hk
                  cases hk
                · exact .inr ⟨j, hj, by simpa [e] using hlj, h1⟩
        · obtain ⟨k1, hk1, _⟩ := sh.get g
          rw [app_get hwithW hk1 g' q, hcell q0 k k1 g hk1 q c hq]
          cases hwe : wE r.eff q0 q with
          | none => rw [st_none _ _ _ _ _ (by simp [wC, hr, hwe])]; rfl
          | some c' =>
            rw [st_some (wC rs q0 q) _ _ i c' (by simp [wC, hr, hwe]) _ hin]
            · rfl
            · intro j hij hj hf
              cases hw : wC rs q0 q j with
              | none => rfl
              | some v =>
                exfalso
                obtain ⟨oj, rj, hoj, hrj, _⟩ := T.facts hn hj
                simp only [wC, hrj] at hw
                obtain ⟨off, cs, ee, hcov⟩ := wE_cov hwe
                have hp := pair i j o oj r rj hij hj ho hoj hr hrj
                simp only [pairOk, Bool.or_eq_true, Bool.and_eq_true] at hp
                rcases hp with hp | hp
                · rw [behind j oj hoj hp] at hf; cases hf
                · have h1 := hp.1.1.1
                  rw [ee] at h1
                  exact hits_wr (by simpa using h1) (by rw [hw]; simp) hcov
        · rw [putγ_get _ _ _ _ (by rw [inv.size]; exact ht)]
          congr 1
          by_cases e : o.dst = some t
          · rw [if_pos e, st_some (wT b' ops rs t) _ _ i (r.v.γ b') (by simp [wT, ho, hr, e]) _ hin]
            intro j hij hj hf
            cases hw : wT b' ops rs t j with
            | none => rfl
            | some v =>
              exfalso
              obtain ⟨oj, rj, hoj, hrj, _⟩ := T.facts hn hj
              have hdst : oj.dst = some t := by
                simp only [wT, hoj, hrj] at hw
                by_cases e : oj.dst = some t
                · exact e
                · rw [if_neg e] at hw; cases hw
              have hp := pair i j o oj r rj hij hj ho hoj hr hrj
              simp only [pairOk, e, hdst, Bool.or_eq_true, Bool.and_eq_true] at hp
              rcases hp with hp | hp
              · rw [behind j oj hoj hp] at hf; cases hf
              · have := hp.1.2.2
                simp at this
          · rw [if_neg e, st_none _ _ _ _ _ (by simp [wT, ho, hr, e])]
            have := htmp t ht
            rw [Array.getD_eq_getD_getElem?, this]
            refine st_val _ _ _ _ _ fun j hj hlj => ?_
            obtain ⟨oj, rj, hoj, hrj, _⟩ := T.facts hn hj
            simp only [wT, hoj, hrj, same j rj hj hlj hrj]
      unfold wpOp
      simp only [ho]
      rw [wsame]
      cases hw : r.want with
      | false =>
        obtain ⟨h1, h2, h3⟩ := hnot hw
        rw [if_neg (by simp [h1 b hb])]
        have := next b w (by rw [h3]; rfl) (by rw [h3]; exact R)
        rw [h2] at this
        exact ih _ _ _ hset hcount hrestu hclosed this
      | true =>
        obtain ⟨h1, hloc⟩ := hwant hw
        rw [if_pos (h1 b hb)]
        left
        have hops : ∀ y ∈ o.op.operands, (opd ts' y).Is b (a.eval y) := fun y hy => by rw [evsame y hy]; exact (hts b hb).opd y
        refine (hloc.2 b a.eval hops _ h' w hagree hfoot R).wp fun u w' ⟨b', hnear, hu', R'⟩ => ?_
        subst hu'
        exact ih _ _ _ hset hcount hrestu hclosed (next b' w' hnear R')
end
end Go.Proofs.Ytmbahohmiecfiaa.sym
