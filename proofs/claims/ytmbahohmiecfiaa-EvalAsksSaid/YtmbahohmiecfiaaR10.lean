/-
  The reader of texts: its memory as a contract sees it, and what its functions come to. Texts have at most 1000 bytes.
-/
import Derived.Test.YtmbahohmiecfiaaR0
import Derived.Test.YtmbahohmiecfiaaSymF
namespace Go.Proofs.Ytmbahohmiecfiaa
open Go.RowKit sym
set_option linter.unusedVariables false
set_option linter.unusedSimpArgs false
set_option maxRecDepth 100000
/-- What holds of a state that says less holds of one that says more. -/
theorem CallOne.weak {P : Program} {w0 : World} {f : FuncId} {args args' : List AV} {h h' : List Blk} {t : T (AV × List Blk)} (ro : List (Option Nat)) (hl : (leqT h.length ro ⟨args, h⟩ ⟨args', h'⟩ (.leaf ())).holds (fun _ => True)) (hf : ASt.fine ⟨args', h'⟩ h'.length = true) (ok : CallOne P w0 f args' h' t) : CallOne P w0 f args h t := by
  intro K hK
  obtain ⟨Lq, _⟩ := leqT_ok hl
  obtain ⟨th, H⟩ := ok K hK
  refine ⟨th, fun bs us hlen hus w R => ?_⟩
  have ht : TOk (bs ++ []) args ⟨us.toArray, []⟩ := ⟨rfl, by simpa using hlen, fun t z hz => by
    have := (hus t z hz).1
    rw [List.append_nil]
    show z.Is bs (us.toArray.getD t undef)
    rw [Array.getD_eq_getD_getElem?, List.getElem?_toArray, ← List.getD_eq_getElem?_getD]
    exact this⟩
  obtain ⟨more', t1, tw, R1⟩ := Lq.use (s := ⟨args, h⟩) (s' := ⟨args', h'⟩) hf R.len ht (by rw [List.append_nil]; exact R)
  have hl2 : us.length = args'.length := by rw [hlen]; exact Lq.ts.length
  refine (H (bs ++ more') us hl2 (fun j y hj => ⟨?_, tw y (List.mem_of_getElem? hj)⟩) w R1).mono fun e w' ⟨u, x, h2, more, he, hk, hx, R2⟩ => ⟨u, x, h2, more' ++ more, he, hk, by rwa [← List.append_assoc], by rwa [← List.append_assoc]⟩
  have := t1.at_ j y hj
  simp only [Array.getD_eq_getD_getElem?, List.getElem?_toArray, ← List.getD_eq_getElem?_getD] at this
  exact this
/-! ### Orders of one value -/
abbrev J6 (x : Int) : Prop := -9223372036854775808 ≤ x ∧ x ≤ 9223372036854775807
/-- Orders that put just one number there. -/
inductive One : List Int → Prop
  | num (n : Int) : J6 n → One [1, n]
  | name (n : Int) : 0 ≤ n → n < 18 → One [2, n]
  | un (op : Int) (z : List Int) : 3 ≤ op → op ≤ 6 → One z → One (z ++ [op, 0])
  | bin (op : Int) (z y : List Int) : 7 ≤ op → op ≤ 24 → One z → One y → One (z ++ y ++ [op, 0])
/-! ### A reader's memory -/
structure Rd where
  s : ByteArray
  a : Int
  nl : Bool
  xs : List Int
  m : Nat
  cap : Nat
  d : Int
  e : Int
  so : Prop
def rdOf : List Blk → Option Rd
  | [⟨[.val (.string s), .int _ .i64 a, .nos, .int _ .i64 d, .int _ .i64 e], 72⟩] => some ⟨s, a, true, [], 0, 0, d, e, True⟩
  | [⟨[.val (.string s), .int _ .i64 a, .gs 2 nl 2 0 m cap, .int _ .i64 d, .int _ .i64 e], 72⟩, ⟨[.row nl' [.i64, .i64] xs cap'], 60⟩] => some ⟨s, a, nl, xs, m, cap, d, e, nl' = nl ∧ cap' = cap⟩
  | _ => none
structure RdOk (tx : ByteArray) (a : Int) (nl : Bool) (xs : List Int) (m cap : Nat) (d : Int) : Prop where
  at_ : 0 ≤ a ∧ a ≤ tx.size
  sz : tx.size ≤ 1000
  dp : 0 ≤ d ∧ d ≤ 20
  l : xs.length = m * 2
  c : m ≤ cap ∧ cap ≤ maxLen
  nil : nl = true → m = 0 ∧ cap = 0
  le : (m : Int) + 2 * (tx.size - a) ≤ 5000
  i6 : ∀ j, J6 (xs.getD j 0)
def Rd.Ok (r : Rd) : Prop := r.so ∧ RdOk r.s r.a r.nl r.xs r.m r.cap r.d
def rdB (s : ByteArray) (a : Int) (i : Nat) (nl : Bool) (m cap : Nat) (d : Int) (e : Sc) : Blk := ⟨[.val (.string s), .int false .i64 a, .gs i nl 2 0 m cap, .int false .i64 d, e], 72⟩
def rdR (nl : Bool) (xs : List Int) (cap : Nat) : Blk := ⟨[.row nl [.i64, .i64] xs cap], 60⟩
def rdH (s : ByteArray) (a : Int) (nl : Bool) (xs : List Int) (m cap : Nat) (d : Int) (e : Sc) : List Blk := [rdB s a 2 nl m cap d e, rdR nl xs cap]
/-- What a contract sees says no less than the memory as it is told. -/
theorem rd_weak {P : Program} {w0 : World} {f : FuncId} {args args' : List AV} {h : List Blk} {r : Rd} {t : T (AV × List Blk)} (hr : rdOf h = some r) (so : r.so) (L : Nat → Option Obj) (O : Nat → Bool) (el : Bool)
    (ha : ∀ (n : Nat) (ro : List (Option Nat)) (h' : List Blk) (t : T Unit) , 2 ≤ n → (leqH n ro (keepH L O h) 0 h' t).holds (fun _ => True) → (leqTs n ro args args' (leqH n ro (keepH L O h) 0 h' t)).holds (fun _ => True)) (hw : args'.all (AV.wf (lt 3)) = true)
    (ok : CallOne P w0 f args' (keepH L O (rdH r.s r.a r.nl r.xs r.m r.cap r.d (.int el .i64 r.e))) t) : CallOne P w0 f args (keepH L O h) t := by
  have fine : ∀ (s : ByteArray) (a : Int) (nl : Bool) (xs : List Int) (m cap : Nat) (d e : Int), ASt.fine ⟨args', keepH L O (rdH s a nl xs m cap d (.int el .i64 e))⟩ 3 = true := fun s a nl xs m cap d e => by
    show (true && (args'.all (AV.wf (lt 3)) && true)) = true
    rw [hw]; rfl
  unfold rdOf at hr
  split at hr
  · cases hr
    refine CallOne.weak [none] ?_ (fine ..) ok
    refine ha 2 _ _ _ (Nat.le_refl _) ?_
    refine ⟨⟨rfl, rfl⟩, rfl, ⟨rfl, rfl⟩, ⟨rfl, rfl, rfl⟩, ⟨rfl, rfl⟩, ⟨rfl, rfl⟩, ⟨rfl, rfl⟩, trivial⟩
  · cases hr
    obtain ⟨rfl, rfl⟩ := so
    refine CallOne.weak [] ?_ (fine ..) ok
    refine ha 3 _ _ _ (by omega) ?_
    refine ⟨⟨rfl, rfl⟩, rfl, ⟨rfl, rfl⟩, ⟨rfl, rfl, rfl, rfl, rfl⟩, ⟨rfl, rfl⟩, ⟨rfl, rfl⟩, ⟨rfl, rfl, rfl, rfl⟩, trivial⟩
  · cases hr
theorem CallOne.asks {P : Program} {w0 : World} {f : FuncId} {args : List AV} {h : List Blk} {p : Prop} {t : T (AV × List Blk)} {g : AV × List Blk → AV × List Blk} (H : p → CallOne P w0 f args h ((T.chk p t).map g)) : CallOne P w0 f args h ((T.chk p t).map g) := fun K hK => H (by rw [T.holds_map] at hK; exact hK.1) K hK
theorem T.of_chk {α : Type} {p : Prop} {t : T α} {K : α → Prop} (h : (T.chk p t).holds K) : t.holds K := h.2
theorem T.of_all {α X : Type} {f : X → T α} {K : α → Prop} (h : (T.all f).holds K) (x : X) : (f x).holds K := h x
theorem ptr_le {n : Nat} {ro : List (Option Nat)} {α : Type} {t : T α} {K : α → Prop} (h : 2 ≤ n) (ht : t.holds K) : (leqAV n ro (.v (.one (.ptr 1 0))) (.v (.one (.ptr 1 0))) t).holds K := by
  have : matchR n ro 1 1 = true := by
    unfold matchR
    rw [show Nat.blt 1 n = true by simp [Nat.blt_eq]; omega]
    rfl
  show T.holds (match matchR n ro 1 1 && Nat.beq 0 0 with | true => t | false => .fail "place") K
  rw [this]
  exact ht
theorem as_end {n : Nat} {x y : AV} {h h2 : List Blk} (ro : List (Option Nat)) (hl : (leqT n ro ⟨[x], h⟩ ⟨[y], h2⟩ (.leaf ())).holds (fun _ => True)) (hf : ASt.fine ⟨[y], h2⟩ h2.length = true) (hy : y ≠ .any) : AsF n x h y h2 := ⟨ro, hl, hf, hy⟩
theorem one_ok {P : Program} {eqT : TypeId → Bool} (B : Base P eqT) {w0 : World} {ctr : FuncId → List AV → List Blk → Option (T AV × Option Nat)} (C : Ctrs P w0 ctr)
    {pre : FuncId → List AV → List Blk → Option (T (AV × List Blk))} (hP : PreOk P w0 pre) {n : Nat} {f : FuncId} {args : List AV} {h : List Blk} {L : Nat → Option Obj} {O : Nat → Bool} {t : T (AV × List Blk)}
    (walk : ∀ K, t.holds K → ∃ lc, LcsOk P w0 lc ∧ (callT P w0 eqT ctr pre lc n f args (keepH L O h)).holds fun r => ∃ y h2, K (y, h2) ∧ AsF (keepH L O h).length r.1 r.2 y (keepH L O h2)) : CallOne P w0 f args (keepH L O h) (t.map fun r => (r.1, keepH L O r.2)) := by
  intro K hK
  rw [T.holds_map] at hK
  obtain ⟨lc, hL, hw⟩ := walk _ hK
  obtain ⟨there, H⟩ := callT_ok B.mixed B.names B.eqs C.ok C.there hP hL n f args (keepH L O h) _ hw
  refine ⟨there, fun bs us hlen hus w R => (H bs us hlen hus w R).mono fun e w' ⟨u, x, h', more, he, ⟨y, h2, hk, ha⟩, hu, R'⟩ => ?_⟩
  obtain ⟨more', g1, g2⟩ := ha.use R.len hu R'
  exact ⟨u, y, keepH L O h2, more', he, hk, g1, g2⟩
/-- The same, for a function that calls itself. -/
theorem one_rec {P : Program} {eqT : TypeId → Bool} (B : Base P eqT) {w0 : World} {ctr : FuncId → List AV → List Blk → Option (T AV × Option Nat)} (C : Ctrs P w0 ctr)
    {pre : FuncId → List AV → List Blk → Option (T (AV × List Blk))} (hP : PreOk P w0 pre) {n : Nat} {f : FuncId} {args : List AV} {h : List Blk} {L : Nat → Option Obj} {O : Nat → Bool} {t : T (AV × List Blk)}
    (walk : ∀ K, t.holds K → ∃ lc, LcsOk P w0 lc ∧ (bodyT P w0 eqT ctr (callT P w0 eqT ctr pre lc n) lc f args (keepH L O h)).holds fun r => ∃ y h2, K (y, h2) ∧ AsF (keepH L O h).length r.1 r.2 y (keepH L O h2)) : CallOne P w0 f args (keepH L O h) (t.map fun r => (r.1, keepH L O r.2)) := by
  intro K hK
  rw [T.holds_map] at hK
  obtain ⟨lc, hL, hw⟩ := walk _ hK
  obtain ⟨there, H⟩ := bodyT_ok B.mixed B.names B.eqs C.ok C.there (callT_ok B.mixed B.names B.eqs C.ok C.there hP hL n) hL f args (keepH L O h) _ hw
  refine ⟨there, fun bs us hlen hus w R => (H bs us hlen hus w R).mono fun e w' ⟨u, x, h', more, he, ⟨y, h2, hk, ha⟩, hu, R'⟩ => ?_⟩
  obtain ⟨more', g1, g2⟩ := ha.use R.len hu R'
  exact ⟨u, y, keepH L O h2, more', he, hk, g1, g2⟩
end Go.Proofs.Ytmbahohmiecfiaa
