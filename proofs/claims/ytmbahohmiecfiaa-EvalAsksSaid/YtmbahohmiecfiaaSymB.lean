/-
  The walk by computing: contracts of functions that are handed rows, or hand back rows. Conditions stand in each theorem.
-/
import Derived.Test.YtmbahohmiecfiaaSymA
namespace Go.Proofs.Ytmbahohmiecfiaa.sym
open Go.RowKit
set_option linter.unusedVariables false
set_option linter.unusedSimpArgs false

/-- An argument, as a contract sees it: a value, or what a slice holds. -/
inductive CA where
  | av (x : AV)
  | row (ks : List IntKind) (len : Nat) (xs : List Int)
  | ptr (ks : List IntKind) (xs : List Int)
/-- A result: a value, a piece of an argument, a row of its own. -/
inductive CR where
  | av (x : V)
  | cut (j sz l h : Nat)
  | row (pre : Option (List Sc)) (nl : Bool) (e : TypeId) (ks : List IntKind) (xs : List Int) (len cap : Nat)
/-- A slice, or a struct that ends with one. -/
def wrapV (pre : Option (List Sc)) (s : Sc) : V := match pre with
  | none => .one s
  | some l => .agg (l ++ [s])
def wrapU (pre : Option (List Sc)) (u : Value) : Value := match pre with
  | none => u
  | some l => .agg (l.map (Sc.γ []) ++ [u]).toArray
def preOk (pre : Option (List Sc)) : Bool := match pre with
  | none => true
  | some l => l.all (Sc.wf (lt 0))
theorem wrap_γ {pre : Option (List Sc)} (h : preOk pre = true) (bs : List Nat) (s : Sc) : (wrapV pre s).γ bs = wrapU pre (s.γ bs) := by
  cases pre with
  | none => rfl
  | some l =>
    simp only [wrapV, wrapU, V.γ, List.map_append, List.map_cons, List.map_nil]
    rw [map_γ_like (like_none [] bs) (fun c hc => List.all_eq_true.1 h c hc)]
structure RCtr where
  f : FuncId
  sig : List (Option (List IntKind))
  ask : List CA → Option (T (List CR))
def CA.Is (w : World) : CA → Value → Prop
  | .av x, u => x.own = true ∧ u = x.γ []
  | .row ks len xs, u => 0 < ks.length ∧ SrcIs w ks len xs u
  | .ptr ks xs, u => 0 < ks.length ∧ ∃ b off, u = .pointer (some ⟨b, off, none⟩) ∧ ∀ j, j < xs.length → w.cell? ⟨b, off + j, none⟩ = some (.int (ks.getD (j % ks.length) .u8) (xs.getD j 0))
def CR.Is (w w' : World) (us : List Value) : CR → Value → Prop
  | .av x, v => x.wf (lt 0) = true ∧ v = x.γ []
  | .cut j sz l h, v => ∃ a m c, us[j]? = some (.slice a m c) ∧ l ≤ h ∧ h ≤ m ∧ m ≤ c ∧ v = .slice (cutA a c l sz) (h - l) (c - l)
  | .row pre nl e ks xs len cap, v => (nl = true → xs = [] ∧ len = 0 ∧ cap = 0 ∧ v = wrapU pre (.slice none 0 0)) ∧ (nl = false → ∃ b cur, v = wrapU pre (.slice (some ⟨b, 0, none⟩) len cap) ∧ w.heap.size ≤ b ∧ w'.heap[b]? = some (.cells cur e (0, 0)) ∧ RowIs cur ks xs cap)
def packV : List Value → Value
  | [v] => v
  | vs => .tuple vs.toArray
def packA : List V → AV
  | [x] => .v x
  | xs => .tuple xs
def isRow : CR → Bool
  | .row _ _ _ _ _ _ _ => true
  | _ => false
structure RCtr.Ok (P : Program) (w0 : World) (c : RCtr) : Prop where
  there : ∃ fn, P.funcs[c.f]? = some fn ∧ fn.body.isSome = true
  it : ∀ (w : World) (_ : Below w0.heap.size w0 w) (cas : List CA) (us : List Value) (t : T (List CR)), c.ask cas = some t → All2 (CA.Is w) cas us → ∀ K, t.holds K → Calls P c.f us.toArray w fun e w' => ∃ rs vs, K rs ∧ All2 (CR.Is w w' us) rs vs ∧ e = .returned (packV vs) ∧ Below w.heap.size w w'

/-! ### As a call is walked -/
def casT (w0 : World) (h : List Blk) : List (Option (List IntKind)) → List AV → Option (Prop × List CA)
  | [], [] => some (True, [])
  | some ks :: sg, x :: xs => match srcT w0 h ks x, casT w0 h sg xs with
    | some (p, m, ys), some (q, l) => if 0 < ks.length then some (p ∧ q, .row ks m ys :: l) else none
    | _, _ => none
  | none :: sg, x :: xs => match x.own, casT w0 h sg xs with
    | true, some (q, l) => some (q, .av x :: l)
    | _, _ => none
  | _, _ => none
def crT (args : List AV) (h : List Blk) : CR → Option (V × List Blk)
  | .av x => match x.wf (lt 0) with
    | true => some (x, h)
    | false => none
  | .cut j sz l hh => match args[j]? with
    | some (.v (.one (.xr a ks xs _ cap))) => if sz = ks.length then some (.one (.xr (cutA a cap l sz) ks (cutL xs l hh sz) (hh - l) (cap - l)), h) else none
    | some (.v (.one (.gs r nl sz' off _ cap))) => if sz = sz' then some (.one (.gs r nl sz (cutO off cap l) (hh - l) (cap - l)), h) else none
    | some (.v (.one (.os r off _ cap))) => some (.one (.os r (if cap = l then off else off + l * sz) (hh - l) (cap - l)), h)
    | some (.v (.one .nos)) => some (.one .nos, h)
    | _ => none
  | .row pre nl e ks xs len cap => match preOk pre with
    | true => some (wrapV pre (.gs h.length nl ks.length 0 len cap), h ++ [⟨[.row nl ks xs cap], e⟩])
    | false => none
def crsT (args : List AV) : List Blk → List CR → Option (List V × List Blk)
  | h, [] => some ([], h)
  | h, r :: rs => match crT args h r with
    | some (x, h') => match crsT args h' rs with
      | some (xs, h'') => some (x :: xs, h'')
      | none => none
    | none => none
def ctrFind : List RCtr → FuncId → Option RCtr
  | [], _ => none
  | c :: l, f => match Nat.beq c.f f with
    | true => some c
    | false => ctrFind l f
def preOf (w0 : World) (tab : List RCtr) (f : FuncId) (args : List AV) (h : List Blk) : Option (T (AV × List Blk)) := match ctrFind tab f with
  | none => none
  | some c => match casT w0 h c.sig args with
    | none => none
    | some (p, cas) => match c.ask cas with
      | none => none
      | some t => some (.chk p (t.bind fun rs => match Nat.ble (rs.filter isRow).length 1 with
        | true => match crsT args h rs with
          | some (vs, h') => .leaf (packA vs, h')
          | none => .fail "results"
        | false => .fail "rows"))

theorem casT_ok {w0 w : World} {bs : List Nat} {h : List Blk} (R : Rep (lt h.length) w0 bs h w) : ∀ {sg : List (Option (List IntKind))} {args : List AV} {us : List Value} {p : Prop} {cas : List CA}, casT w0 h sg args = some (p, cas) → p → us.length = args.length →
    (∀ (j : Nat) (y : AV), args[j]? = some y → y.Is bs (us.getD j undef) ∧ y.wf (lt h.length) = true) → All2 (CA.Is w) cas us
  | [], [], us, p, cas, e, hp, hl, hu => by
    cases e
    have : us = [] := List.eq_nil_of_length_eq_zero (by simpa using hl)
    subst this
    exact .nil
  | some ks :: sg, x :: xs, us, p, cas, e, hp, hl, hu => by
    unfold casT at e
    match us, hl with
    | u :: us, hl =>
      split at e
      · rename_i p' m ys q l h1 h2
        split at e
        · rename_i hk
          cases e
          have hx := hu 0 x rfl
          exact .cons ⟨hk, srcT_ok hk h1 hp.1 hx.1 hx.2 R⟩ (casT_ok R h2 hp.2 (by simpa using hl) fun j y hj => hu (j + 1) y (by simpa using hj))
        · cases e
      · cases e
  | none :: sg, x :: xs, us, p, cas, e, hp, hl, hu => by
    unfold casT at e
    match us, hl with
    | u :: us, hl =>
      split at e
      · rename_i q l h1 h2
        cases e
        have hx := hu 0 x rfl
        refine .cons ⟨h1, ?_⟩ (casT_ok R h2 hp (by simpa using hl) fun j y hj => hu (j + 1) y (by simpa using hj))
        have := hx.1.eq (AV.own_ne h1)
        simp only [List.getD_cons_zero] at this
        rw [this, AV.γ_any (bs' := []) (AV.own_wf h1)]
      · cases e
  | [], _ :: _, _, _, _, e, _, _, _ => by simp [casT] at e
  | some _ :: _, [], _, _, _, e, _, _, _ => by simp [casT] at e
  | none :: _, [], _, _, _, e, _, _, _ => by simp [casT] at e

/-- Behind a call, in memory as it is then. -/
theorem Rep.fresh {w0 w w' : World} {bs : List Nat} {h : List Blk} (R : Rep (lt h.length) w0 bs h w) (hb : Below w.heap.size w w') (k : Blk) (b : Nat) (hk : ∀ c ∈ k.cells, c.wf (lt 0) = true) (hbb : w.heap.size ≤ b) (hbk : ∀ bs', BlkIs w0.heap.size w' bs' b k) (hnf : frsIn k = []) (hnk : keepIn k = none) :
    Rep (lt (h ++ [k]).length) w0 (bs ++ [b]) (h ++ [k]) w' := by
  have R1 := R.room k
  have hm : lt h.length h.length = false := by
    cases hh : lt h.length h.length with
    | false => rfl
    | true => rw [lt_iff] at hh; omega
  have R2 := R1.new (i := h.length) hm (k := k) (by simp) (fun c hc => Sc.wf_mono (fun r hr => by rw [lt_iff] at *; omega) (hk c hc)) b hbb hb (hbk _) hnf hnk
  have e : (bs ++ [0]).set h.length b = bs ++ [b] := by rw [← R.len]; simp
  rw [e] at R2
  rw [List.length_append, List.length_singleton]
  exact R2.congr (also_lt _)
theorem crT_ok {w0 w w' : World} {bs0 : List Nat} {args : List AV} {us : List Value} {n0 : Nat} (hlen : us.length = args.length) (hu : ∀ (j : Nat) (y : AV), args[j]? = some y → y.Is bs0 (us.getD j undef) ∧ y.wf (lt n0) = true) (hb0 : bs0.length = n0)
    {r : CR} {v : Value} (hr : CR.Is w w' us r v) (hnr : isRow r = false) {h h' : List Blk} {x : V} (e : crT args h r = some (x, h')) : h' = h ∧ x.wf (lt n0) = true ∧ v = x.γ bs0 := by
  cases r with
  | av y =>
    simp only [crT] at e
    split at e
    · rename_i hy
      cases e
      obtain ⟨_, rfl⟩ := hr
      exact ⟨rfl, V.wf_mono (fun r hr => by rw [lt_iff] at *; omega) hy, (V.γ_like (like_none _ _) hy).symm⟩
    · cases e
  | row => simp [isRow] at hnr
  | cut j sz l hh =>
    simp only [crT] at e
    obtain ⟨a, m, c, hj, h1, h2, h3, rfl⟩ := hr
    have hus : us.getD j undef = .slice a m c := by rw [List.getD_eq_getElem?_getD, hj]; rfl
    split at e
    · rename_i a' ks xs len cap ha
      obtain ⟨g1, g2⟩ := hu j _ ha
      rw [hus] at g1
      have g1' : Value.slice a m c = .slice a' len cap := g1
      cases g1'
      split at e
      · cases e; exact ⟨rfl, rfl, rfl⟩
      · cases e
    · rename_i r nl sz' off len cap ha
      obtain ⟨g1, g2⟩ := hu j _ ha
      rw [hus] at g1
      have g1' : Value.slice a m c = Sc.γ bs0 (.gs r nl sz' off len cap) := g1
      split at e
      · rename_i hs
        subst hs
        cases e
        refine ⟨rfl, g2, ?_⟩
        cases nl with
        | true =>
          simp only [Sc.γ] at g1'
          cases g1'
          simp only [V.γ, Sc.γ, cutA]
          split <;> rfl
        | false =>
          simp only [Sc.γ] at g1'
          cases g1'
          simp only [V.γ, Sc.γ, cutA, cutO_eq]
          split <;> simp [add_plain, Nat.add_mul]
      · cases e
    · rename_i r off len cap ha
      obtain ⟨g1, g2⟩ := hu j _ ha
      rw [hus] at g1
      have g1' : Value.slice a m c = .slice (some ⟨bs0.getD r 0, off, none⟩) len cap := g1
      cases g1'
      cases e
      refine ⟨rfl, g2, ?_⟩
      simp only [V.γ, Sc.γ, cutA]
      split <;> simp [add_plain]
    · rename_i ha
      obtain ⟨g1, g2⟩ := hu j _ ha
      rw [hus] at g1
      have g1' : Value.slice a m c = .slice none 0 0 := g1
      cases g1'
      cases e
      have : l = 0 := by omega
      have : hh = 0 := by omega
      subst_vars
      exact ⟨rfl, rfl, rfl⟩
    · cases e
theorem crsT_ok {w0 w w' : World} {bs0 : List Nat} {args : List AV} {us : List Value} {n0 : Nat} (hlen : us.length = args.length) (hu : ∀ (j : Nat) (y : AV), args[j]? = some y → y.Is bs0 (us.getD j undef) ∧ y.wf (lt n0) = true) (hb0 : bs0.length = n0) (hbel : Below w.heap.size w w') :
    ∀ (rs : List CR) (vs : List Value) (h : List Blk) (more0 : List Nat) (xs : List V) (h' : List Blk), All2 (CR.Is w w' us) rs vs → crsT args h rs = some (xs, h') →
    ((rs.filter isRow).length = 0 ∧ Rep (lt h.length) w0 (bs0 ++ more0) h w' ∨ (rs.filter isRow).length ≤ 1 ∧ Rep (lt h.length) w0 (bs0 ++ more0) h w) →
    ∃ more, vs = xs.map (V.γ (bs0 ++ more0 ++ more)) ∧ Rep (lt h'.length) w0 (bs0 ++ more0 ++ more) h' w'
  | [], vs, h, more0, xs, h', ha, e, hR => by
    cases e
    cases ha
    refine ⟨[], rfl, ?_⟩
    rw [List.append_nil]
    rcases hR with ⟨_, R⟩ | ⟨_, R⟩
    · exact R
    · exact R.call hbel
  | r :: rs, _, h, more0, xs, h', ha, e, hR => by
    cases ha with
    | cons h1 h2 =>
      rename_i v vs
      unfold crsT at e
      split at e
      · rename_i x hx he
        split at e
        · rename_i ys hy hes
          cases e
          cases hir : isRow r with
          | false =>
            obtain ⟨rfl, hxw, hv⟩ := crT_ok (w0 := w0) hlen hu hb0 h1 hir he
            simp only [List.filter_cons, hir, Bool.false_eq_true, if_false] at hR
            obtain ⟨more, hvs, R⟩ := crsT_ok hlen hu hb0 hbel rs vs _ more0 ys h' h2 hes hR
            refine ⟨more, ?_, R⟩
            rw [List.map_cons, hvs, hv]
            congr 1
            have := V.γ_like (like_more bs0 (more0 ++ more)) (v := x) (by rw [hb0]; exact hxw)
            rw [List.append_assoc]
            exact this.symm
          | true =>
            cases r with
            | av => simp [isRow] at hir
            | cut => simp [isRow] at hir
            | row pre nl e ks zs len cap =>
              simp only [crT] at he
              split at he
              case h_2 => cases he
              rename_i hpre
              cases he
              simp only [List.filter_cons, hir, if_true, List.length_cons] at hR
              have hR : (rs.filter isRow).length = 0 ∧ Rep (lt h.length) w0 (bs0 ++ more0) h w := by
                rcases hR with ⟨c, _⟩ | ⟨c, R⟩
                · omega
                · exact ⟨by omega, R⟩
              obtain ⟨hr1, hr2⟩ := h1
              have hlenb : (bs0 ++ more0).length = h.length := hR.2.len
              cases nl with
              | true =>
                obtain ⟨rfl, rfl, rfl, hv⟩ := hr1 rfl
                have R2 := hR.2.fresh hbel ⟨[.row true ks [] 0], e⟩ w.heap.size (fun c hc => by simp at hc; subst hc; rfl) (Nat.le_refl _) (fun bs' => ⟨fun h => (by cases h), fun ks' xs' cap' h => (by cases h), fun ks' xs' cap' h => (by cases h; rfl), fun nl fs cap h => (by cases h), fun L O h => (by cases h)⟩) rfl rfl
                rw [List.append_assoc] at R2
                obtain ⟨more, hvs, R⟩ := crsT_ok hlen hu hb0 hbel rs vs _ (more0 ++ [w.heap.size]) ys h' h2 hes (.inl ⟨hR.1, R2⟩)
                refine ⟨[w.heap.size] ++ more, ?_, ?_⟩
                · rw [List.map_cons, hv]
                  simp only [List.append_assoc] at hvs ⊢
                  rw [← hvs, wrap_γ hpre]
                  rfl
                · simp only [List.append_assoc] at R ⊢
                  exact R
              | false =>
                obtain ⟨b, cur, hv, hbb, hcur, hI⟩ := hr2 rfl
                have R2 := hR.2.fresh hbel ⟨[.row false ks zs cap], e⟩ b (fun c hc => by simp at hc; subst hc; rfl) hbb (fun bs' => ⟨fun h => (by cases h), fun ks' xs' cap' h => (by cases h; exact ⟨Nat.le_trans hR.2.below.size hbb, cur, hcur, hI⟩), fun ks' xs' cap' h => (by cases h), fun nl fs cap h => (by cases h), fun L O h => (by cases h)⟩) rfl rfl
                rw [List.append_assoc] at R2
                obtain ⟨more, hvs, R⟩ := crsT_ok hlen hu hb0 hbel rs vs _ (more0 ++ [b]) ys h' h2 hes (.inl ⟨hR.1, R2⟩)
                refine ⟨[b] ++ more, ?_, ?_⟩
                · rw [List.map_cons, hv]
                  simp only [List.append_assoc] at hvs ⊢
                  rw [← hvs]
                  congr 1
                  have hself : (bs0 ++ (more0 ++ ([b] ++ more))).getD h.length 0 = b := by
                    rw [← List.append_assoc, List.getD_eq_getElem?_getD, ← hlenb, List.getElem?_append_right (Nat.le_refl _)]; simp
                  rw [wrap_γ hpre]
                  simp only [Sc.γ, hself, Nat.zero_mul]
                · simp only [List.append_assoc] at R ⊢
                  exact R
        · cases e
      · cases e
theorem ctrFind_mem : ∀ {tab : List RCtr} {f : FuncId} {c : RCtr}, ctrFind tab f = some c → c ∈ tab ∧ c.f = f
  | c0 :: l, f, c, h => by
    unfold ctrFind at h
    split at h
    · rename_i hb
      cases h
      exact ⟨List.mem_cons_self .., Nat.eq_of_beq_eq_true hb⟩
    · obtain ⟨h1, h2⟩ := ctrFind_mem h
      exact ⟨List.mem_cons_of_mem _ h1, h2⟩
theorem preOf_ok {P : Program} {tab : List RCtr} {w0 : World} (hok : ∀ c ∈ tab, c.Ok P w0) : PreOk P w0 (preOf w0 tab) := by
  intro f args h t ht K hK
  unfold preOf at ht
  split at ht
  · cases ht
  · rename_i c hc
    obtain ⟨hm, rfl⟩ := ctrFind_mem hc
    have ok := hok c hm
    split at ht
    · cases ht
    · rename_i p cas hcas
      split at ht
      · cases ht
      · rename_i t' hask
        cases ht
        obtain ⟨hp, hK⟩ := hK
        rw [T.holds_bind] at hK
        refine ⟨ok.there, fun bs us hlen hus w R => ?_⟩
        have hm2 := casT_ok R hcas hp hlen hus
        refine (ok.it w R.below cas us t' hask hm2 _ hK).mono fun e w' ⟨rs, vs, hk, ha, he, hb⟩ => ?_
        split at hk
        · rename_i hone
          split at hk
          · rename_i xs h' hcr
            obtain ⟨more, hvs, R'⟩ := crsT_ok (w0 := w0) (more0 := []) hlen hus R.len hb rs vs h xs h' ha hcr (.inr ⟨Nat.le_of_ble_eq_true hone, by rw [List.append_nil]; exact R⟩)
            rw [List.append_nil] at hvs R'
            refine ⟨packV vs, packA xs, h', more, he, hk, ?_, R'⟩
            subst hvs
            match xs with
            | [] => rfl
            | [x] => rfl
            | x :: y :: r => rfl
          · exact hk.elim
        · exact hk.elim

/-! ### As a contract is proved -/
/-- As if nothing were known of it. -/
def Sc.norm : Sc → Sc
  | .int _ k n => .int false k n
  | .bool _ b => .bool false b
  | s => s
def AV.norm : AV → AV
  | .v (.one s) => .v (.one s.norm)
  | .v (.agg cs) => .v (.agg (cs.map Sc.norm))
  | x => x
theorem Sc.norm_γ (bs : List Nat) (s : Sc) : s.norm.γ bs = s.γ bs := by cases s <;> rfl
theorem Sc.norm_wf (m : Nat → Bool) (s : Sc) : s.norm.wf m = s.wf m := by cases s <;> rfl
theorem AV.norm_γ (bs : List Nat) (x : AV) : x.norm.γ bs = x.γ bs := by
  match x with
  | .v (.one s) => simp only [AV.norm, AV.γ, V.γ, Sc.norm_γ]
  | .v (.agg cs) =>
    simp only [AV.norm, AV.γ, V.γ, List.map_map]
    congr 2
    apply List.map_congr_left
    intro c _
    exact Sc.norm_γ bs c
  | .tuple _ => rfl
  | .undef => rfl
  | .any => rfl
theorem AV.norm_own {x : AV} (h : x.own = true) : x.norm.own = true := by
  match x with
  | .v (.one s) => simpa [AV.norm, AV.own, AV.wf, V.wf, Sc.norm_wf] using h
  | .v (.agg cs) =>
    simp only [AV.norm, AV.own, AV.wf, V.wf, Bool.and_true, List.all_eq_true, List.mem_map] at h ⊢
    rintro c ⟨d, hd, rfl⟩
    rw [Sc.norm_wf]
    exact h d hd
  | .tuple _ => exact h
  | .undef => exact h
  | .any => exact h
/-- An argument of a walk that proves a contract. -/
inductive ArgIs (w : World) : CA → AV → Prop
  | av {x : AV} (h : x.own = true) : ArgIs w (.av x) x.norm
  | row {ks : List IntKind} {len : Nat} {xs : List Int} (a : Option Addr) (cap : Nat) (h : XR w a ks xs len) (hc : len ≤ cap) : ArgIs w (.row ks len xs) (.v (.one (.xr a ks xs len cap)))
  | ptr {ks : List IntKind} {xs : List Int} (a : Option Addr) (h : XC w a ks xs) : ArgIs w (.ptr ks xs) (.v (.one (.xq a ks xs 0 0)))
/-- The same, as it is told. -/
inductive ArgRaw (w : World) : CA → AV → Prop
  | av {x : AV} (h : x.own = true) : ArgRaw w (.av x) x
  | row {ks : List IntKind} {len : Nat} {xs : List Int} (a : Option Addr) (cap : Nat) (h : XR w a ks xs len) (hc : len ≤ cap) : ArgRaw w (.row ks len xs) (.v (.one (.xr a ks xs len cap)))
  | ptr {ks : List IntKind} {xs : List Int} (a : Option Addr) (h : XC w a ks xs) : ArgRaw w (.ptr ks xs) (.v (.one (.xq a ks xs 0 0)))
/-- A result of a walk that proves a contract. -/
inductive OutIs (args : List AV) (h' : List Blk) : CR → V → Prop
  | av {x y : V} (h : x.wf (lt 0) = true) (e : ∀ bs, y.γ bs = x.γ bs) : OutIs args h' (.av x) y
  | cut {j sz l hh : Nat} {a a' : Option Addr} {ks ks' : List IntKind} {xs xs' : List Int} {m cap len' cap' : Nat} (ha : args[j]? = some (.v (.one (.xr a ks xs m cap)))) (h1 : l ≤ hh) (h2 : hh ≤ m) (h3 : m ≤ cap) (e1 : a' = cutA a cap l sz) (e2 : len' = hh - l) (e3 : cap' = cap - l) : OutIs args h' (.cut j sz l hh) (.one (.xr a' ks' xs' len' cap'))
  | row {r sz : Nat} {nl : Bool} {e : TypeId} {ks : List IntKind} {xs : List Int} {len cap : Nat} (hr : h'[r]? = some ⟨[.row nl ks xs cap], e⟩) (h0 : nl = true → len = 0 ∧ cap = 0) : OutIs args h' (.row none nl e ks xs len cap) (.one (.gs r nl sz 0 len cap))
  | agg {l l' : List Sc} {r sz : Nat} {nl : Bool} {e : TypeId} {ks : List IntKind} {xs : List Int} {len cap : Nat} (hp : ∀ bs, l'.map (Sc.γ bs) = l.map (Sc.γ [])) (hr : h'[r]? = some ⟨[.row nl ks xs cap], e⟩) (h0 : nl = true → len = 0 ∧ cap = 0) : OutIs args h' (.row (some l) nl e ks xs len cap) (.agg (l' ++ [.gs r nl sz 0 len cap]))
  | aggNil {l l' : List Sc} {e : TypeId} {ks : List IntKind} (hp : ∀ bs, l'.map (Sc.γ bs) = l.map (Sc.γ [])) : OutIs args h' (.row (some l) true e ks [] 0 0) (.agg (l' ++ [.nos]))
  | nil {e : TypeId} {ks : List IntKind} : OutIs args h' (.row none true e ks [] 0 0) (.one .nos)
  | os {r len cap : Nat} {k : Blk} {e : TypeId} {ks : List IntKind} {xs : List Int} (hr : h'[r]? = some k) (hp : k.plain = true) (ht : k.t = e) (hi : intsAs ks 0 k.cells = some xs) (hl : k.cells.length = cap * ks.length) : OutIs args h' (.row none false e ks xs len cap) (.one (.os r 0 len cap))
theorem argsIs {w : World} : ∀ {cas : List CA} {us : List Value}, All2 (CA.Is w) cas us → ∃ args, All2 (ArgIs w) cas args ∧ us = args.map (AV.γ []) ∧ args.all AV.own = true
  | _, _, .nil => ⟨[], .nil, rfl, rfl⟩
  | _, _, .cons h1 h2 => by
    rename_i ca u cas us
    obtain ⟨args, g1, g2, g3⟩ := argsIs h2
    cases ca with
    | ptr ks xs =>
      obtain ⟨hk, b, off, rfl, hc⟩ := h1
      refine ⟨.v (.one (.xq (some ⟨b, off, none⟩) ks xs 0 0)) :: args, .cons (.ptr _ fun j hj => ⟨b, off, rfl, World.block_lt_of_cell? w _ (hc j hj), hc j hj⟩) g1, ?_, by simp [g3, AV.own, AV.wf, V.wf, Sc.wf]⟩
      rw [g2, List.map_cons]
      congr 1
      simp [AV.γ, V.γ, Sc.γ, Addr.add]
    | av x =>
      obtain ⟨h3, rfl⟩ := h1
      exact ⟨x.norm :: args, .cons (.av h3) g1, by rw [g2, List.map_cons, AV.norm_γ], by simp [AV.norm_own h3, g3]⟩
    | row ks len xs =>
      obtain ⟨hk, S⟩ := h1
      obtain ⟨a, c, ⟨rfl, hc⟩, hcase⟩ := S.it
      refine ⟨.v (.one (.xr a ks xs len c)) :: args, .cons (.row a c ⟨S.len, fun j hj => ?_⟩ hc) g1, by rw [g2]; rfl, by simp [g3, AV.own, AV.wf, V.wf, Sc.wf]⟩
      rcases hcase with ⟨_, rfl⟩ | ⟨ad, rfl, hcell⟩
      · rw [S.len] at hj; simp at hj
      · have := hcell j _ (rowVals_get hj)
        have h0 := hcell 0 _ (rowVals_get (by omega))
        obtain ⟨b, off, sp⟩ := ad
        cases sp with
        | some sp =>
          exfalso
          unfold Addr.add at h0
          rw [if_pos rfl] at h0
          unfold World.cell? at h0
          split at h0
          · simp at h0
          · cases h0
        | none =>
          rw [add_plain] at this
          exact ⟨b, off, rfl, World.block_lt_of_cell? w _ this, this⟩
theorem argsRaw {w : World} : ∀ {cas : List CA} {us : List Value}, All2 (CA.Is w) cas us → ∃ args, All2 (ArgRaw w) cas args ∧ us = args.map (AV.γ []) ∧ args.all AV.own = true
  | _, _, .nil => ⟨[], .nil, rfl, rfl⟩
  | _, _, .cons h1 h2 => by
    rename_i ca u cas us
    obtain ⟨args, g1, g2, g3⟩ := argsRaw h2
    cases ca with
    | ptr ks xs =>
      obtain ⟨hk, b, off, rfl, hc⟩ := h1
      refine ⟨.v (.one (.xq (some ⟨b, off, none⟩) ks xs 0 0)) :: args, .cons (.ptr _ fun j hj => ⟨b, off, rfl, World.block_lt_of_cell? w _ (hc j hj), hc j hj⟩) g1, ?_, by simp [g3, AV.own, AV.wf, V.wf, Sc.wf]⟩
      rw [g2, List.map_cons]
      congr 1
      simp [AV.γ, V.γ, Sc.γ, Addr.add]
    | av x =>
      obtain ⟨h3, rfl⟩ := h1
      exact ⟨x :: args, .cons (.av h3) g1, by rw [g2, List.map_cons], by simp [h3, g3]⟩
    | row ks len xs =>
      obtain ⟨hk, S⟩ := h1
      obtain ⟨a, c, ⟨rfl, hc⟩, hcase⟩ := S.it
      refine ⟨.v (.one (.xr a ks xs len c)) :: args, .cons (.row a c ⟨S.len, fun j hj => ?_⟩ hc) g1, by rw [g2]; rfl, by simp [g3, AV.own, AV.wf, V.wf, Sc.wf]⟩
      rcases hcase with ⟨_, rfl⟩ | ⟨ad, rfl, hcell⟩
      · rw [S.len] at hj; simp at hj
      · have := hcell j _ (rowVals_get hj)
        have h0 := hcell 0 _ (rowVals_get (by omega))
        obtain ⟨b, off, sp⟩ := ad
        cases sp with
        | some sp =>
          exfalso
          unfold Addr.add at h0
          rw [if_pos rfl] at h0
          unfold World.cell? at h0
          split at h0
          · simp at h0
          · cases h0
        | none =>
          rw [add_plain] at this
          exact ⟨b, off, rfl, World.block_lt_of_cell? w _ this, this⟩
theorem outIs {w w' : World} {bs : List Nat} {args : List AV} {us : List Value} (hus : us = args.map (AV.γ [])) {h' : List Blk} (R : Rep (lt h'.length) w bs h' w') {r : CR} {x : V} (h : OutIs args h' r x) : CR.Is w w' us r (x.γ bs) := by
  cases h with
  | av hx e => exact ⟨hx, (e bs).trans (V.γ_like (like_none _ _) hx)⟩
  | cut ha h1 h2 h3 e1 e2 e3 =>
    subst e1 e2 e3
    refine ⟨_, _, _, ?_, h1, h2, h3, rfl⟩
    rw [hus, List.getElem?_map, ha]
    rfl
  | row hr h0 =>
    rename_i rr sz nl e ks xs len cap
    have hb := R.blk rr _ (lt_iff.2 (List.getElem?_eq_some_iff.1 hr).1) hr
    refine ⟨fun e => ?_, fun e => ?_⟩
    · subst e
      obtain ⟨rfl, rfl⟩ := h0 rfl
      exact ⟨hb.nil _ _ _ rfl, rfl, rfl, rfl⟩
    · subst e
      obtain ⟨b1, cur, b2, I⟩ := hb.row _ _ _ rfl
      exact ⟨bs.getD rr 0, cur, by simp [V.γ, Sc.γ, wrapU], b1, b2, I⟩
  | agg hp hr h0 =>
    rename_i l l' rr sz nl e ks xs len cap
    have hb := R.blk rr _ (lt_iff.2 (List.getElem?_eq_some_iff.1 hr).1) hr
    have hv : (V.agg (l' ++ [.gs rr nl sz 0 len cap])).γ bs = wrapU (some l) ((Sc.gs rr nl sz 0 len cap).γ bs) := by
      simp only [V.γ, wrapU, List.map_append, List.map_cons, List.map_nil, hp]
    rw [hv]
    refine ⟨fun e => ?_, fun e => ?_⟩
    · subst e
      obtain ⟨rfl, rfl⟩ := h0 rfl
      exact ⟨hb.nil _ _ _ rfl, rfl, rfl, rfl⟩
    · subst e
      obtain ⟨b1, cur, b2, I⟩ := hb.row _ _ _ rfl
      exact ⟨bs.getD rr 0, cur, by simp [Sc.γ], b1, b2, I⟩
  | aggNil hp =>
    rename_i l l' e ks
    have hv : (V.agg (l' ++ [.nos])).γ bs = wrapU (some l) (.slice none 0 0) := by
      simp only [V.γ, wrapU, List.map_append, List.map_cons, List.map_nil, hp]
      rfl
    exact ⟨fun _ => ⟨rfl, rfl, rfl, hv⟩, fun e => by cases e⟩
  | nil => exact ⟨fun _ => ⟨rfl, rfl, rfl, rfl⟩, fun e => by cases e⟩
  | os hr hp ht hi hl =>
    rename_i rr len cap k e ks xs
    obtain ⟨b1, b2⟩ := (R.blk rr k (lt_iff.2 (List.getElem?_eq_some_iff.1 hr).1) hr).plain hp
    refine ⟨fun e => (by cases e), fun _ => ⟨bs.getD rr 0, _, rfl, b1, by rw [← ht]; exact b2, ?_⟩⟩
    obtain ⟨g1, g2⟩ := intsAs_ok (bs := bs) _ _ _ hi
    refine ⟨by simp [hl], by simp [g1], fun j hj => ?_⟩
    have := g2 j (by omega)
    rw [Nat.zero_add] at this
    simpa using this
theorem outsIs {w w' : World} {bs : List Nat} {args : List AV} {us : List Value} (hus : us = args.map (AV.γ [])) {h' : List Blk} (R : Rep (lt h'.length) w bs h' w') : ∀ {rs : List CR} {xs : List V}, All2 (OutIs args h') rs xs → All2 (CR.Is w w' us) rs (xs.map (V.γ bs))
  | _, _, .nil => .nil
  | _, _, .cons h1 h2 => .cons (outIs hus R h1) (outsIs hus R h2)
/-- A walk that proves a contract: in any world, of any slices that hold what is told. -/
theorem rctr_ok {P : Program} {eqT : TypeId → Bool} (B : Base P eqT) {c : RCtr} (there : ∃ fn, P.funcs[c.f]? = some fn ∧ fn.body.isSome = true) {ctr : World → FuncId → List AV → List Blk → Option (T AV × Option Nat)} (w0 : World) (C : ∀ w, Below w0.heap.size w0 w → Ctrs P w (ctr w))
    {pre : World → FuncId → List AV → List Blk → Option (T (AV × List Blk))} (hP : ∀ w, Below w0.heap.size w0 w → PreOk P w (pre w)) {n : Nat}
    (walk : ∀ w, Below w0.heap.size w0 w → ∀ cas args t, c.ask cas = some t → All2 (ArgIs w) cas args → ∀ K, t.holds K → ∃ lc, LcsOk P w lc ∧ (callT P w eqT (ctr w) (pre w) lc n c.f args []).holds fun r => ∃ rs xs, K rs ∧ r.1 = packA xs ∧ All2 (OutIs args r.2) rs xs) : c.Ok P w0 := by
  refine ⟨there, fun w hw0 cas us t hask ha K hK => ?_⟩
  obtain ⟨args, g1, rfl, g3⟩ := argsIs ha
  obtain ⟨lc, L, hw⟩ := walk w hw0 cas args t hask g1 K hK
  refine ((callT_ok B.mixed B.names B.eqs (C w hw0).ok (C w hw0).there (hP w hw0) L n c.f args [] _ hw).2 [] (args.map (AV.γ [])) (by simp) (args_wf g3) w (Rep.start w)).mono fun e w' ⟨u, x, h', more, he, ⟨rs, xs, hk, hx, ho⟩, hu, R⟩ => ?_
  rw [List.nil_append] at hu R
  refine ⟨rs, xs.map (V.γ more), hk, outsIs rfl R ho, ?_, R.below⟩
  rw [he]
  simp only at hx
  subst hx
  match xs, hu with
  | [], hu => have hu' : u = _ := hu; rw [hu']; rfl
  | [x], hu => have hu' : u = _ := hu; rw [hu']; rfl
  | x :: y :: r, hu => have hu' : u = _ := hu; rw [hu']; rfl
/-- The same, for a function that calls itself. -/
theorem rctr_rec {P : Program} {eqT : TypeId → Bool} (B : Base P eqT) {c : RCtr} (there : ∃ fn, P.funcs[c.f]? = some fn ∧ fn.body.isSome = true) {ctr : World → FuncId → List AV → List Blk → Option (T AV × Option Nat)} (w0 : World) (C : ∀ w, Below w0.heap.size w0 w → Ctrs P w (ctr w))
    {pre : World → FuncId → List AV → List Blk → Option (T (AV × List Blk))} (hP : ∀ w, Below w0.heap.size w0 w → PreOk P w (pre w)) {n : Nat}
    (walk : ∀ w, Below w0.heap.size w0 w → ∀ cas args t, c.ask cas = some t → All2 (ArgIs w) cas args → ∀ K, t.holds K → ∃ lc, LcsOk P w lc ∧ (bodyT P w eqT (ctr w) (callT P w eqT (ctr w) (pre w) lc n) lc c.f args []).holds fun r => ∃ rs xs, K rs ∧ r.1 = packA xs ∧ All2 (OutIs args r.2) rs xs) : c.Ok P w0 := by
  refine ⟨there, fun w hw0 cas us t hask ha K hK => ?_⟩
  obtain ⟨args, g1, rfl, g3⟩ := argsIs ha
  obtain ⟨lc, L, hw⟩ := walk w hw0 cas args t hask g1 K hK
  refine ((bodyT_ok B.mixed B.names B.eqs (C w hw0).ok (C w hw0).there (callT_ok B.mixed B.names B.eqs (C w hw0).ok (C w hw0).there (hP w hw0) L n) L c.f args [] _ hw).2 [] (args.map (AV.γ [])) (by simp) (args_wf g3) w (Rep.start w)).mono fun e w' ⟨u, x, h', more, he, ⟨rs, xs, hk, hx, ho⟩, hu, R⟩ => ?_
  rw [List.nil_append] at hu R
  refine ⟨rs, xs.map (V.γ more), hk, outsIs rfl R ho, ?_, R.below⟩
  rw [he]
  simp only at hx
  subst hx
  match xs, hu with
  | [], hu => have hu' : u = _ := hu; rw [hu']; rfl
  | [x], hu => have hu' : u = _ := hu; rw [hu']; rfl
  | x :: y :: r, hu => have hu' : u = _ := hu; rw [hu']; rfl
/-- Arguments as they are told. -/
theorem rctr_raw {P : Program} {eqT : TypeId → Bool} (B : Base P eqT) {c : RCtr} (there : ∃ fn, P.funcs[c.f]? = some fn ∧ fn.body.isSome = true) {ctr : World → FuncId → List AV → List Blk → Option (T AV × Option Nat)} (w0 : World) (C : ∀ w, Below w0.heap.size w0 w → Ctrs P w (ctr w))
    {pre : World → FuncId → List AV → List Blk → Option (T (AV × List Blk))} (hP : ∀ w, Below w0.heap.size w0 w → PreOk P w (pre w)) {n : Nat}
    (walk : ∀ w, Below w0.heap.size w0 w → ∀ cas args t, c.ask cas = some t → All2 (ArgRaw w) cas args → ∀ K, t.holds K → ∃ lc, LcsOk P w lc ∧ (callT P w eqT (ctr w) (pre w) lc n c.f args []).holds fun r => ∃ rs xs, K rs ∧ r.1 = packA xs ∧ All2 (OutIs args r.2) rs xs) : c.Ok P w0 := by
  refine ⟨there, fun w hw0 cas us t hask ha K hK => ?_⟩
  obtain ⟨args, g1, rfl, g3⟩ := argsRaw ha
  obtain ⟨lc, L, hw⟩ := walk w hw0 cas args t hask g1 K hK
  refine ((callT_ok B.mixed B.names B.eqs (C w hw0).ok (C w hw0).there (hP w hw0) L n c.f args [] _ hw).2 [] (args.map (AV.γ [])) (by simp) (args_wf g3) w (Rep.start w)).mono fun e w' ⟨u, x, h', more, he, ⟨rs, xs, hk, hx, ho⟩, hu, R⟩ => ?_
  rw [List.nil_append] at hu R
  refine ⟨rs, xs.map (V.γ more), hk, outsIs rfl R ho, ?_, R.below⟩
  rw [he]
  simp only at hx
  subst hx
  match xs, hu with
  | [], hu => have hu' : u = _ := hu; rw [hu']; rfl
  | [x], hu => have hu' : u = _ := hu; rw [hu']; rfl
  | x :: y :: r, hu => have hu' : u = _ := hu; rw [hu']; rfl
theorem all2_0 {α β : Type} {R : α → β → Prop} {l : List β} (h : All2 R [] l) : l = [] := by cases h; rfl
theorem all2_1 {α β : Type} {R : α → β → Prop} {a : α} {l : List β} (h : All2 R [a] l) : ∃ x, l = [x] ∧ R a x := by
  cases h with
  | cons h1 h2 => cases h2; exact ⟨_, rfl, h1⟩
theorem all2_2 {α β : Type} {R : α → β → Prop} {a b : α} {l : List β} (h : All2 R [a, b] l) : ∃ x y, l = [x, y] ∧ R a x ∧ R b y := by
  cases h with
  | cons h1 h2 => obtain ⟨y, rfl, h3⟩ := all2_1 h2; exact ⟨_, _, rfl, h1, h3⟩
theorem all2_3 {α β : Type} {R : α → β → Prop} {a b c : α} {l : List β} (h : All2 R [a, b, c] l) : ∃ x y z, l = [x, y, z] ∧ R a x ∧ R b y ∧ R c z := by
  cases h with
  | cons h1 h2 => obtain ⟨y, z, rfl, h3, h4⟩ := all2_2 h2; exact ⟨_, _, _, rfl, h1, h3, h4⟩
theorem argRow {w : World} {ks : List IntKind} {n : Nat} {xs : List Int} {x : AV} (h : ArgIs w (.row ks n xs) x) : ∃ a cap, x = .v (.one (.xr a ks xs n cap)) ∧ XR w a ks xs n ∧ n ≤ cap := by
  cases h with
  | row a cap h hc => exact ⟨a, cap, rfl, h, hc⟩
theorem argAv {w : World} {y x : AV} (h : ArgIs w (.av y) x) : x = y.norm ∧ y.own = true := by
  cases h with
  | av h => exact ⟨rfl, h⟩
theorem rawAv {w : World} {y x : AV} (h : ArgRaw w (.av y) x) : x = y ∧ y.own = true := by
  cases h with
  | av h => exact ⟨rfl, h⟩
theorem rawPtr {w : World} {ks : List IntKind} {xs : List Int} {x : AV} (h : ArgRaw w (.ptr ks xs) x) : ∃ a, x = .v (.one (.xq a ks xs 0 0)) ∧ XC w a ks xs := by
  cases h with
  | ptr a h => exact ⟨a, rfl, h⟩
end Go.Proofs.Ytmbahohmiecfiaa.sym
