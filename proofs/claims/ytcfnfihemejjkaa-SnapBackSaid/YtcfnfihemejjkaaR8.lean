/-
  Contracts of packs in one path, of bytes of which some are others, and of the waking check. Bytes are below 256, at most 16000 of them; no other condition.
-/
import Derived.Test.YtcfnfihemejjkaaR7
namespace Go.Proofs.Ytcfnfihemejjkaa
open Go.RowKit sym
set_option linter.unusedVariables false
set_option linter.unusedSimpArgs false
set_option maxRecDepth 100000
theorem RCtr.weak {P : Program} {c c' : RCtr} (h : c.Ok P) (hf : c'.f = c.f) (ha : ∀ (w : World) (cas : List CA) (us : List Value) (t' : T (List CR)), c'.ask cas = some t' → All2 (CA.Is w) cas us → ∀ K, t'.holds K → ∃ t, c.ask cas = some t ∧ t.holds K) : c'.Ok P := by
  refine ⟨by rw [hf]; exact h.there, fun w cas us t' ht' hc K hK => ?_⟩
  obtain ⟨t, h1, h2⟩ := ha w cas us t' ht' hc K hK
  rw [hf]
  exact h.it w cas us t h1 hc K h2
theorem all2_two {w : World} {n m : Nat} {xs ys : List Int} {us : List Value} (h : All2 (CA.Is w) [.row [.u8] n xs, .row [.u8] m ys] us) : xs.length = n ∧ ys.length = m := by
  cases h with
  | cons h1 h2 => cases h2 with
    | cons h2 h3 => exact ⟨by simpa using h1.2.len, by simpa using h2.2.len⟩
def pk (n m : Nat) (xs ys : List Int) : List Int := if n = m then pack xs ys else []
def pe (n m : Nat) : Int := if n = m then 0 else 6
def packM : RCtr := ⟨11, [some [.u8], some [.u8]], fun | [.row [.u8] n xs, .row [.u8] m ys] => some (.chk (n ≤ 16000) (.all fun g : RowR (pk n m xs ys).length => .leaf [.row g.nl 5 [.u8] (pk n m xs ys) (pk n m xs ys).length g.cap, .av (.one (.int false .i64 (pe n m)))])) | _ => none⟩
def rpackM : RCtr := ⟨12, [some [.u8], some [.u8]], fun | [.row [.u8] n xs, .row [.u8] m ys] => some (.chk (n ≤ 16000) (.all fun g : RowR (pk n m xs ys).length => .leaf [.row g.nl 5 [.u8] (pk n m xs ys) (pk n m xs ys).length g.cap, .av (.one (.int false .i64 (pe n m)))])) | _ => none⟩
def unpackM : RCtr := ⟨13, [some [.u8], some [.u8]], fun | [.row [.u8] n xs, .row [.u8] m ys] => some (.chk (n ≤ 16000 ∧ m ≤ 1000000 ∧ Bs xs ∧ Bs ys) (.all fun g : RowR (unp xs ys).2.length => .leaf [.row g.nl 5 [.u8] (unp xs ys).2 (unp xs ys).2.length g.cap, .av (.one (.int false .i64 (unp xs ys).1))])) | _ => none⟩
def runpackM : RCtr := ⟨14, [some [.u8], some [.u8]], fun | [.row [.u8] n xs, .row [.u8] m ys] => some (.chk (n ≤ 16000 ∧ m ≤ 1000000 ∧ Bs xs ∧ Bs ys) (.all fun g : RowR (unp xs ys).2.length => .leaf [.row g.nl 5 [.u8] (unp xs ys).2 (unp xs ys).2.length g.cap, .av (.one (.int false .i64 (unp xs ys).1))])) | _ => none⟩
theorem packM_ok : packM.Ok Try.prog := by
  refine RCtr.weak packC_ok rfl fun w cas us t' ht' hc K hK => ?_
  unfold packM at ht'
  simp only at ht'
  split at ht'
  · rename_i n xs m ys
    cases ht'
    refine ⟨_, rfl, hK.1, fun he => ?_, fun he => ?_⟩
    · have he := of_decide_eq_true he
      have hK := hK.2
      have e1 : pk n m xs ys = pack xs ys := by unfold pk; rw [if_pos he]
      have e2 : pe n m = 0 := by unfold pe; rw [if_pos he]
      rw [e1, e2] at hK
      exact hK
    · have he := of_decide_eq_false he
      have hK := hK.2
      have e1 : pk n m xs ys = [] := by unfold pk; rw [if_neg he]
      have e2 : pe n m = 6 := by unfold pe; rw [if_neg he]
      rw [e1, e2] at hK
      exact hK ⟨true, 0, fun _ => ⟨rfl, rfl⟩, Nat.le_refl _, Nat.zero_le _⟩
  · cases ht'
theorem rpackM_ok : rpackM.Ok Try.prog := by
  refine RCtr.weak rpackC_ok rfl fun w cas us t' ht' hc K hK => ?_
  unfold rpackM at ht'
  simp only at ht'
  split at ht'
  · rename_i n xs m ys
    cases ht'
    refine ⟨_, rfl, hK.1, fun he => ?_, fun he => ?_⟩
    · have he := of_decide_eq_true he
      have hK := hK.2
      have e1 : pk n m xs ys = pack xs ys := by unfold pk; rw [if_pos he]
      have e2 : pe n m = 0 := by unfold pe; rw [if_pos he]
      rw [e1, e2] at hK
      exact hK
    · have he := of_decide_eq_false he
      have hK := hK.2
      have e1 : pk n m xs ys = [] := by unfold pk; rw [if_neg he]
      have e2 : pe n m = 6 := by unfold pe; rw [if_neg he]
      rw [e1, e2] at hK
      exact hK ⟨true, 0, fun _ => ⟨rfl, rfl⟩, Nat.le_refl _, Nat.zero_le _⟩
  · cases ht'
theorem unpackM_ok : unpackM.Ok Try.prog := by
  refine RCtr.weak unpackC_ok rfl fun w cas us t' ht' hc K hK => ?_
  unfold unpackM at ht'
  simp only at ht'
  split at ht'
  · rename_i n xs m ys
    cases ht'
    obtain ⟨hn, _⟩ := all2_two hc
    refine ⟨_, rfl, hK.1, fun he => ?_, fun he => ?_⟩
    · have he := of_decide_eq_true he
      have hK := hK.2
      have hl : (unp xs ys).2.length = n := by rw [(unp_zero he).2, hn]
      rw [hl, he] at hK
      exact hK
    · have he := of_decide_eq_false he
      have hK := hK.2
      rw [unp_none he] at hK
      exact hK ⟨true, 0, fun _ => ⟨rfl, rfl⟩, Nat.le_refl _, Nat.zero_le _⟩
  · cases ht'
theorem runpackM_ok : runpackM.Ok Try.prog := by
  refine RCtr.weak runpackC_ok rfl fun w cas us t' ht' hc K hK => ?_
  unfold runpackM at ht'
  simp only at ht'
  split at ht'
  · rename_i n xs m ys
    cases ht'
    obtain ⟨hn, _⟩ := all2_two hc
    refine ⟨_, rfl, hK.1, fun he => ?_, fun he => ?_⟩
    · have he := of_decide_eq_true he
      have hK := hK.2
      have hl : (unp xs ys).2.length = n := by rw [(unp_zero he).2, hn]
      rw [hl, he] at hK
      exact hK
    · have he := of_decide_eq_false he
      have hK := hK.2
      rw [unp_none he] at hK
      exact hK ⟨true, 0, fun _ => ⟨rfl, rfl⟩, Nat.le_refl _, Nat.zero_le _⟩
  · cases ht'
/-- Bytes of which some are others. -/
def chg : List Int → List Int → List Int
  | X, a :: b :: r => chg (X.set (a % X.length).toNat (b % 256)) r
  | X, _ => X
theorem chg_length : ∀ (m : Nat) (L X : List Int), L.length ≤ m → (chg X L).length = X.length
  | 0, L, X, h => by
    have : L = [] := List.eq_nil_of_length_eq_zero (by omega)
    subst this
    rfl
  | m + 1, [], X, _ => rfl
  | m + 1, [a], X, _ => rfl
  | m + 1, a :: b :: r, X, h => by
    show (chg (X.set (a % X.length).toNat (b % 256)) r).length = _
    rw [chg_length m r _ (by simp at h; omega), List.length_set]
theorem chg_len (X L : List Int) : (chg X L).length = X.length := chg_length _ L X (Nat.le_refl _)
theorem chg_B : ∀ (m : Nat) (L X : List Int), L.length ≤ m → Bs X → Bs (chg X L)
  | 0, L, X, h, hb => by
    have : L = [] := List.eq_nil_of_length_eq_zero (by omega)
    subst this
    exact hb
  | m + 1, [], X, _, hb => hb
  | m + 1, [a], X, _, hb => hb
  | m + 1, a :: b :: r, X, h, hb => chg_B m r _ (by simp at h; omega) (hb.set _ ⟨by omega, by omega⟩)
theorem chg_Bs {X : List Int} (h : Bs X) (L : List Int) : Bs (chg X L) := chg_B _ L X (Nat.le_refl _) h
theorem drop2 {L : List Int} {i : Nat} (h : 2 * i + 1 < L.length) : L.drop (2 * i) = L.getD (2 * i) 0 :: L.getD (2 * i + 1) 0 :: L.drop (2 * (i + 1)) := by
  rw [List.drop_eq_getElem_cons (by omega : 2 * i < L.length), List.drop_eq_getElem_cons h, List.getD_eq_getElem?_getD, List.getD_eq_getElem?_getD, List.getElem?_eq_getElem (by omega : 2 * i < L.length), List.getElem?_eq_getElem h]
  rfl
theorem getD_W {L : List Int} (hW : ∀ j, W (L.getD j 0)) (j : Nat) : IntKind.i64.wrap (L.getD j 0) = L.getD j 0 := by
  have := hW j
  exact wi64 _ (by omega) (by omega)
structure chP where
  nl : Bool
  r : Nat
  d : Nat
structure chX where
  R : List Int
  i : Nat
structure chY where
  R : List Int
def chSt (A2 : Option Addr) (L : List Int) (k cap2 : Nat) (X : List Int) (n : Nat) : chP → chX → ASt := fun ⟨nl, r, d⟩ ⟨R, i⟩ => ⟨slots (List.replicate 37 .any) [(1, .v (.one (.xr A2 [.u16, .u16] L k cap2))), (5, .v (.one (.gs 1 nl 1 0 r d))), (11, .v (.one (.int false .i64 (k : Int)))), (12, .v (.one (.int false .i64 (i : Int))))], [⟨[.dead], 5⟩, ⟨[.row nl [.u8] R d], 5⟩]⟩
def chFin (A2 : Option Addr) (L : List Int) (k cap2 : Nat) (X : List Int) (n : Nat) : chP → chY → ASt := fun ⟨nl, r, d⟩ ⟨R⟩ => ⟨slots (List.replicate 37 .any) [(5, .v (.one (.gs 1 nl 1 0 r d)))], [⟨[.dead], 5⟩, ⟨[.row nl [.u8] R d], 5⟩]⟩
def chBck (A2 : Option Addr) (L : List Int) (k cap2 : Nat) (X : List Int) (n : Nat) : chP → Empty → ASt := fun _ z => nomatch z
def chNxP : ASt → Option chP := fun s => match sym.gN s 5 with | none => none | some nl => match sym.gL s 5 with | none => none | some r => match sym.gC s 5 with | none => none | some d => some ⟨nl, r, d⟩
def chNxX : ASt → Option chX := fun s => match sym.gX s 5 with | none => none | some R => match (sym.gI s 12).map Int.toNat with | none => none | some i => some ⟨R, i⟩
def chNxY : ASt → Option chY := fun s => match sym.gX s 5 with | none => none | some R => some ⟨R⟩
def chNxZ : ASt → Option Empty := fun _ => none
def chRo : ASt → List (Option Nat) := (fun _ => [])
def chRf : ASt → List (Option Nat) := (fun _ => [])
def chRb : ASt → List (Option Nat) := (fun _ => [])
structure chInv (A2 : Option Addr) (L : List Int) (k cap2 : Nat) (X : List Int) (n : Nat) (p : chP) (x : chX) : Prop where
  rn : p.r = n
  rl : x.R.length = p.r
  nil : p.nl = true → p.r = 0
  i1 : x.i ≤ k
  big : n ≤ 16000 ∧ k ≤ 1000
  eq : chg x.R (L.drop (2 * x.i)) = chg X L
structure chPost (A2 : Option Addr) (L : List Int) (k cap2 : Nat) (X : List Int) (n : Nat) (p : chP) (x : chY) : Prop where
  rl : x.R.length = p.r
  eq : x.R = chg X L
def chBack (A2 : Option Addr) (L : List Int) (k cap2 : Nat) (X : List Int) (n : Nat) (p : chP) (x : Empty) : Prop := False
def chLp (A2 : Option Addr) (L : List Int) (k cap2 : Nat) (X : List Int) (n : Nat) : Lp := ⟨10, 0, fun s => match chNxP s with
  | some p => match chNxX s with
    | some x => some (loopT 0 2 false chRo (chSt A2 L k cap2 X n p) (chFin A2 L k cap2 X n p) (chBck A2 L k cap2 X n p) (chInv A2 L k cap2 X n p) (chPost A2 L k cap2 X n p) (chBack A2 L k cap2 X n p) s x)
    | none => none
  | none => none⟩
theorem chstep_tree (w : World) (A2 : Option Addr) (L : List Int) (k cap2 : Nat) (X : List Int) (n : Nat) (nl : Bool) (r : Nat) (d : Nat) (R : List Int) (i : Nat) :
    roundT Try.prog w (flatT Try.prog) (noCtr) (callT Try.prog w (flatT Try.prog) (noCtr) (noPre) (noLoop) 20) ((noLoop) 10) (roundOf (bodyAt Try.prog 10 0)) 0 2 chRo chRf chRb (chSt A2 L k cap2 X n ⟨nl, r, d⟩) (chFin A2 L k cap2 X n ⟨nl, r, d⟩) (chBck A2 L k cap2 X n ⟨nl, r, d⟩) chNxX chNxY chNxZ ⟨R, i⟩ =
(.br (decide ((↑i : Int) < (↑k : Int)))
 (.br (decide ((↑r : Int) > (0 : Int)))
  (.chk (sym.XR w A2 [IntKind.u16, IntKind.u16] L k ∧
  (0 : Int) ≤ (↑i : Int) ∧ (↑i : Int) < (↑k : Int) ∧ (0 : Nat) < [IntKind.u16, IntKind.u16].length)
  (.chk (sym.XC w A2 [IntKind.u16, IntKind.u16] L ∧ (0 : Nat) < L.length)
  (.chk (sym.XC w A2 [IntKind.u16, IntKind.u16] L ∧
  (0 : Nat) < (1 : Nat) ∧ (↑i : Int).toNat * [IntKind.u16, IntKind.u16].length + (1 : Nat) ≤ L.length)
  (.chk ((↑r : Int) ≠ (0 : Int))
  (.chk (sym.XR w A2 [IntKind.u16, IntKind.u16] L k ∧
  (0 : Int) ≤ (↑i : Int) ∧ (↑i : Int) < (↑k : Int) ∧ (0 : Nat) < [IntKind.u16, IntKind.u16].length)
  (.chk (sym.XC w A2 [IntKind.u16, IntKind.u16] L ∧ (0 : Nat) < L.length)
  (.chk (sym.XC w A2 [IntKind.u16, IntKind.u16] L ∧
  (0 : Nat) < (1 : Nat) ∧ (↑i : Int).toNat * [IntKind.u16, IntKind.u16].length + (2 : Nat) ≤ L.length)
  (.chk (nl = false ∧
  (0 : Int) ≤
      (IntKind.i64.wrap
            (L.getD ((↑i : Int).toNat * [IntKind.u16, IntKind.u16].length + (0 : Nat)) (0 : Int))).tmod
        (↑r : Int) ∧
    (IntKind.i64.wrap
            (L.getD ((↑i : Int).toNat * [IntKind.u16, IntKind.u16].length + (0 : Nat)) (0 : Int))).tmod
        (↑r : Int) <
      (↑r : Int))
  (.chk (nl = false ∧
  ((0 : Nat) +
          ((IntKind.i64.wrap
                  (L.getD ((↑i : Int).toNat * [IntKind.u16, IntKind.u16].length + (0 : Nat)) (0 : Int))).tmod
              (↑r : Int)).toNat) *
        (1 : Nat) +
      (0 : Nat) <
    R.length)
  (.chk (A2 = A2 ∧ [IntKind.u16, IntKind.u16] = [IntKind.u16, IntKind.u16] ∧ L = L ∧ k = k ∧ cap2 = cap2)
  (.chk (nl = nl ∧ (1 : Nat) = (1 : Nat) ∧ (0 : Nat) = (0 : Nat) ∧ r = r ∧ d = d)
  (.chk (IntKind.i64 = IntKind.i64 ∧ (↑k : Int) = (↑k : Int))
  (.chk (IntKind.i64 = IntKind.i64 ∧
  IntKind.i64.wrap ((↑i : Int) + (1 : Int)) = (↑(IntKind.i64.wrap ((↑i : Int) + (1 : Int))).toNat : Int))
  (.chk (nl = nl ∧
  [IntKind.u8] = [IntKind.u8] ∧
    R.set
          (((0 : Nat) +
                ((IntKind.i64.wrap
                        (L.getD ((↑i : Int).toNat * [IntKind.u16, IntKind.u16].length + (0 : Nat))
                          (0 : Int))).tmod
                    (↑r : Int)).toNat) *
              (1 : Nat) +
            (0 : Nat))
          (IntKind.u8.wrap
            (L.getD ((↑i : Int).toNat * [IntKind.u16, IntKind.u16].length + (1 : Nat)) (0 : Int))) =
        R.set
          (((0 : Nat) +
                ((IntKind.i64.wrap
                        (L.getD ((↑i : Int).toNat * [IntKind.u16, IntKind.u16].length + (0 : Nat))
                          (0 : Int))).tmod
                    (↑r : Int)).toNat) *
              (1 : Nat) +
            (0 : Nat))
          (IntKind.u8.wrap
            (L.getD ((↑i : Int).toNat * [IntKind.u16, IntKind.u16].length + (1 : Nat)) (0 : Int))) ∧
      d = d)
  (.leaf (.inl ⟨R.set
  (((0 : Nat) +
        ((IntKind.i64.wrap
                (L.getD ((↑i : Int).toNat * [IntKind.u16, IntKind.u16].length + (0 : Nat)) (0 : Int))).tmod
            (↑r : Int)).toNat) *
      (1 : Nat) +
    (0 : Nat))
  (IntKind.u8.wrap (L.getD ((↑i : Int).toNat * [IntKind.u16, IntKind.u16].length + (1 : Nat)) (0 : Int))), (IntKind.i64.wrap ((↑i : Int) + (1 : Int))).toNat⟩))))))))))))))))
  (.chk (A2 = A2 ∧ [IntKind.u16, IntKind.u16] = [IntKind.u16, IntKind.u16] ∧ L = L ∧ k = k ∧ cap2 = cap2)
  (.chk (nl = nl ∧ (1 : Nat) = (1 : Nat) ∧ (0 : Nat) = (0 : Nat) ∧ r = r ∧ d = d)
  (.chk (IntKind.i64 = IntKind.i64 ∧ (↑k : Int) = (↑k : Int))
  (.chk (IntKind.i64 = IntKind.i64 ∧
  IntKind.i64.wrap ((↑i : Int) + (1 : Int)) = (↑(IntKind.i64.wrap ((↑i : Int) + (1 : Int))).toNat : Int))
  (.chk (nl = nl ∧ [IntKind.u8] = [IntKind.u8] ∧ R = R ∧ d = d)
  (.leaf (.inl ⟨R, (IntKind.i64.wrap ((↑i : Int) + (1 : Int))).toNat⟩))))))))
 (.chk (nl = nl ∧ (1 : Nat) = (1 : Nat) ∧ (0 : Nat) = (0 : Nat) ∧ r = r ∧ d = d)
 (.chk (nl = nl ∧ [IntKind.u8] = [IntKind.u8] ∧ R = R ∧ d = d)
 (.leaf (.inr (.inl ⟨R⟩)))))) := by kernel_rfl
def chMu (A2 : Option Addr) (L : List Int) (k cap2 : Nat) (X : List Int) (n : Nat) (p : chP) (x : chX) : Nat := k - x.i
theorem ch_step (w : World) (A2 : Option Addr) (L : List Int) (k cap2 : Nat) (X : List Int) (n : Nat) (p : chP) (x : chX) (hL : XR w A2 [.u16, .u16] L k) (hW : ∀ j, W (L.getD j 0)) (h : chInv A2 L k cap2 X n p x) : Hid (roundT Try.prog w (flatT Try.prog) (noCtr) (callT Try.prog w (flatT Try.prog) (noCtr) (noPre) (noLoop) 20) ((noLoop) 10) (roundOf (bodyAt Try.prog 10 0)) 0 2 chRo chRf chRb (chSt A2 L k cap2 X n p) (chFin A2 L k cap2 X n p) (chBck A2 L k cap2 X n p) chNxX chNxY chNxZ x) (Kept (chInv A2 L k cap2 X n p) (chPost A2 L k cap2 X n p) (chBack A2 L k cap2 X n p) (chMu A2 L k cap2 X n p) x) := by
  obtain ⟨nl, r, d⟩ := p
  obtain ⟨R, i⟩ := x
  constructor
  rw [chstep_tree]
  simp only [T.holds, Kept, chMu, and_self, true_and, and_true]
  obtain ⟨rn, rl, nil, i1, big, eq⟩ := h
  simp only at rn rl nil i1 big eq
  have hl : L.length = k * 2 := by simpa using hL.1
  simp only [T.holds, List.length_singleton, show [IntKind.u16, IntKind.u16].length = 2 from rfl, Int.toNat_natCast, Nat.mul_one, Nat.sub_zero, Nat.zero_add, Nat.add_zero, Nat.zero_mul, List.drop_zero, true_and, and_true, and_self, decide_eq_true_eq, decide_eq_false_iff_not, bne_iff_ne, ne_eq, Bool.not_eq_true, bne_eq_false_iff_eq, not_true_eq_false, false_implies, true_implies, beq_iff_eq, beq_eq_false_iff_ne, getD_W hW, wu8]
  refine ⟨fun hlt => ?_, fun hge => ⟨rl, ?_⟩⟩
  · have hlt : i < k := by omega
    have w0 := winc (show i < 1000000000 by omega)
    have hd := drop2 (L := L) (i := i) (by omega)
    have ha := hW (i * 2)
    rw [hd] at eq
    rw [w0]
    simp only [Int.toNat_natCast]
    refine ⟨fun hr => ?_, fun hr => ?_⟩
    · have hr : 0 < r := by omega
      have hnl : nl = false := by
        cases nl with
        | false => rfl
        | true => have := nil rfl; omega
      have ht : (L.getD (i * 2) 0).tmod (r : Int) = L.getD (i * 2) 0 % (r : Int) := Int.tmod_eq_emod_of_nonneg ha.1
      have h1 := Int.emod_nonneg (L.getD (i * 2) 0) (show (r : Int) ≠ 0 by omega)
      have h2 := Int.emod_lt_of_pos (L.getD (i * 2) 0) (show (0 : Int) < r by omega)
      rw [ht]
      generalize hq : L.getD (i * 2) 0 % (r : Int) = q at *
      refine ⟨⟨hL, by omega, by omega, by decide⟩, ⟨hL.2, by omega⟩, ⟨hL.2, by decide, by omega⟩, by omega, ⟨hL, by omega, by omega, by decide⟩, ⟨hL.2, by omega⟩, ⟨hL.2, by decide, by omega⟩, ⟨hnl, h1, h2⟩, ⟨hnl, by omega⟩, trivial, ⟨rn, ?_, nil, by show i + 1 ≤ k; omega, big, ?_⟩, by omega⟩
      · show (R.set q.toNat _).length = r
        rw [List.length_set, rl]
      · show chg (R.set q.toNat (L.getD (i * 2 + 1) 0 % 256)) (L.drop (2 * (i + 1))) = chg X L
        rw [← eq]
        show _ = chg (R.set (L.getD (2 * i) 0 % (R.length : Int)).toNat (L.getD (2 * i + 1) 0 % 256)) _
        rw [rl, show 2 * i = i * 2 by omega, hq]
    · have hr : r = 0 := by omega
      refine ⟨trivial, ⟨rn, rl, nil, by show i + 1 ≤ k; omega, big, ?_⟩, by omega⟩
      have hR : R = [] := List.eq_nil_of_length_eq_zero (by omega)
      show chg R (L.drop (2 * (i + 1))) = _
      rw [← eq, hR]
      rfl
  · show R = chg X L
    have : L.drop (2 * i) = [] := List.drop_of_length_le (by omega)
    rw [this] at eq
    rw [← eq]
    cases R <;> rfl
theorem chLp_ok (w : World) (A2 : Option Addr) (L : List Int) (k cap2 : Nat) (X : List Int) (n : Nat) (hL : XR w A2 [.u16, .u16] L k) (hW : ∀ j, W (L.getD j 0)) : (chLp A2 L k cap2 X n).ok Try.prog w := by
  intro s t h
  unfold chLp at h
  simp only at h
  split at h
  · rename_i p _
    split at h
    · rename_i x _
      cases h
      exact loop_ok base2 (ctrs_none _ w) (callT_ok base2.mixed base2.names base2.eqs (ctrs_none _ w).ok (ctrs_none _ w).there (pre_none _ _) (loops_none _ _) 20) ((loops_none _ _) 10) (c := roundOf (bodyAt Try.prog 10 0)) (by kernel_rfl) (id := 0) (n := 2) (hr := false) (ro := chRo) (rf := chRf) (rr := chRb) (st := chSt A2 L k cap2 X n p) (fin := chFin A2 L k cap2 X n p) (bck := chBck A2 L k cap2 X n p) (inv := chInv A2 L k cap2 X n p) (post := chPost A2 L k cap2 X n p) (back := chBack A2 L k cap2 X n p) (nx := chNxX) (fx := chNxY) (bx := chNxZ) (chMu A2 L k cap2 X n p) (nf := 2) (nf' := 2) (nf'' := 2) (fun x => by kernel_rfl) (fun y => by kernel_rfl) (fun z => nomatch z) (.inr fun z => nomatch z) (fun x hx => ch_step w A2 L k cap2 X n p x hL hW hx) s x
    · cases h
  · cases h
theorem changed_tree (w : World) (A : Option Addr) (X : List Int) (n cap : Nat) (A2 : Option Addr) (L : List Int) (k cap2 : Nat) :
    callT Try.prog w (flatT Try.prog) (noCtr) (noPre) (lpOf Try.prog [chLp A2 L k cap2 X n]) 20 10 [.v (.one (.xr A [.u8] X n cap)), .v (.one (.xr A2 [.u16, .u16] L k cap2))] [] =
(.chk ((sym.XR w A [IntKind.u8] X n ∧ n ≤ cap) ∧
  True ∧ ((0 : Nat) + n) * (1 : Nat) ≤ (140737488355328 : Nat))
(.all fun x : sym.Grown false n ((0 : Nat) + n) =>
 (.chk (sym.textAt Go.Proofs.Try.prog (10 : Go.FuncId) (0 : Nat) = sym.textAt Go.Proofs.Try.prog (10 : Go.FuncId) (0 : Nat))
 (.chk (A2 = A2 ∧ [IntKind.u16, IntKind.u16] = [IntKind.u16, IntKind.u16] ∧ L = L ∧ k = k ∧ cap2 = cap2)
 (.chk (x.nl' = x.nl' ∧
  [IntKind.u8].length = (1 : Nat) ∧ (0 : Nat) = (0 : Nat) ∧ (0 : Nat) + n = (0 : Nat) + n ∧ x.cap = x.cap)
 (.chk (IntKind.i64 = IntKind.i64 ∧ (↑k : Int) = (↑k : Int))
 (.chk (IntKind.i64 = IntKind.i64 ∧ (0 : Int) = (↑(0 : Nat) : Int))
 (.chk (x.nl' = x.nl' ∧ [IntKind.u8] = [IntKind.u8] ∧ [] ++ X = [] ++ X ∧ x.cap = x.cap)
 (.chk (chInv A2 L k cap2 X n { nl := x.nl', r := (0 : Nat) + n, d := x.cap }
  { R := [] ++ X, i := (0 : Nat) })
 (.all fun x_1 : sym.Got chY
  (chPost A2 L k cap2 X n { nl := x.nl', r := (0 : Nat) + n, d := x.cap }) =>
  (.leaf ((.v (.one (.gs 1 (x.nl') 1 0 ((0 : Nat) + n) (x.cap)))), [⟨[.dead], 5⟩, ⟨[(.row (x.nl') ([IntKind.u8]) (x_1.1.1) (x.cap))], 5⟩])))))))))))) := by kernel_rfl
def changedC : RCtr := ⟨10, [some [.u8], some [.u16, .u16]], fun | [.row [.u8] n xs, .row [.u16, .u16] k ls] => some (.chk (n ≤ 16000 ∧ k ≤ 1000 ∧ ∀ j, W (ls.getD j 0)) (.all fun g : RowR n => .leaf [.row g.nl 5 [.u8] (chg xs ls) n g.cap])) | _ => none⟩
theorem changedC_ok : changedC.Ok Try.prog := by
  refine rctr_ok base2 ⟨_, Try.func10, rfl⟩ (ctr := fun w => noCtr) (fun w => ctrs_none _ w) (pre := fun w => noPre) (fun w => pre_none _ w) (n := 20) fun w cas args t h ha K hK => ?_
  unfold changedC at h
  simp only at h
  split at h
  · cases h
    obtain ⟨y0, y1, rfl, q0, q1⟩ := all2_2 ha
    obtain ⟨A, c, rfl, hX, hc⟩ := argRow q0
    obtain ⟨A2, c2, rfl, hL, hc2⟩ := argRow q1
    rename_i n X k L
    obtain ⟨⟨big, big2, hW⟩, hK⟩ := hK
    refine ⟨lpOf Try.prog [chLp A2 L k c2 X n], lps_ok fun l hl => ?_, ?_⟩
    · simp only [List.mem_cons, List.not_mem_nil, or_false] at hl
      subst hl
      exact chLp_ok w _ _ _ _ _ _ hL hW
    have hn : X.length = n := by simpa using hX.1
    rw [show changedC.f = 10 from rfl, changed_tree, Nat.zero_add]
    simp only [T.holds, List.length_singleton, List.nil_append, Nat.mul_one, true_and, and_true, and_self]
    refine ⟨⟨⟨hX, hc⟩, by omega⟩, fun g => ⟨rfl, ⟨rfl, hn, fun e => ((rowR g).nil e).1, Nat.zero_le _, ⟨big, big2⟩, rfl⟩, fun y => ?_⟩⟩
    have hK := hK (rowR g)
    rw [← y.so.eq] at hK
    exact ⟨_, [_], hK, rfl, .cons (.row (r := 1) rfl (rowR g).nil) .nil⟩
  · cases h
def tab8 : List RCtr := [packM, unpackM, sameC]
theorem tab8_ok : ∀ c ∈ tab8, c.Ok Try.prog := fun c hc => by
  simp only [tab8, List.mem_cons, List.not_mem_nil, or_false] at hc
  rcases hc with rfl | rfl | rfl
  · exact packM_ok
  · exact unpackM_ok
  · exact sameC_ok
def tab9 : List RCtr := [packM, rpackM, unpackM, runpackM, sameC, changedC, hashC, rhashC]
theorem tab9_ok : ∀ c ∈ tab9, c.Ok Try.prog := fun c hc => by
  simp only [tab9, List.mem_cons, List.not_mem_nil, or_false] at hc
  rcases hc with rfl | rfl | rfl | rfl | rfl | rfl | rfl | rfl
  · exact packM_ok
  · exact rpackM_ok
  · exact unpackM_ok
  · exact runpackM_ok
  · exact sameC_ok
  · exact changedC_ok
  · exact hashC_ok
  · exact rhashC_ok
theorem awake_tree (w : World) :
    callV Try.prog w (flatT Try.prog) (noCtr) (preOf w tab8) (noLoop) 20 9 [] =
(.chk (True ∧ True ∧ True)
(.chk ((3 : Nat) ≤ (16000 : Nat))
(.all fun x : RowR
  (pk (3 : Nat) (3 : Nat) [(1 : Int), (2 : Int), (3 : Int)]
      [(1 : Int), (9 : Int), (3 : Int)]).length =>
 (.chk (True ∧
  (x.nl = x.nl ∧
      (4 : Nat) ≤
          (pk (3 : Nat) (3 : Nat) [(1 : Int), (2 : Int), (3 : Int)]
              [(1 : Int), (9 : Int), (3 : Int)]).length ∧
        (pk (3 : Nat) (3 : Nat) [(1 : Int), (2 : Int), (3 : Int)]
              [(1 : Int), (9 : Int), (3 : Int)]).length ≤
          x.cap) ∧
    True)
 (.chk ((3 : Nat) ≤ (16000 : Nat) ∧
  (pk (3 : Nat) (3 : Nat) [(1 : Int), (2 : Int), (3 : Int)]
          [(1 : Int), (9 : Int), (3 : Int)]).length ≤
      (1000000 : Nat) ∧
    Bs [(1 : Int), (2 : Int), (3 : Int)] ∧
      Bs
        (sym.cutL
          (pk (3 : Nat) (3 : Nat) [(1 : Int), (2 : Int), (3 : Int)]
            [(1 : Int), (9 : Int), (3 : Int)])
          (0 : Nat) (4 : Nat) [IntKind.u8].length))
 (.all fun x_1 : RowR
  (splice [(1 : Int), (2 : Int), (3 : Int)] (1 : Nat)
      (List.take
        (gN
          (List.drop
            (gK
              (sym.cutL
                (pk (3 : Nat) (3 : Nat) [(1 : Int), (2 : Int), (3 : Int)]
                  [(1 : Int), (9 : Int), (3 : Int)])
                (0 : Nat) (4 : Nat) [IntKind.u8].length))
            (sym.cutL
              (pk (3 : Nat) (3 : Nat) [(1 : Int), (2 : Int), (3 : Int)]
                [(1 : Int), (9 : Int), (3 : Int)])
              (0 : Nat) (4 : Nat) [IntKind.u8].length)))
        (List.drop
          (gK
            (List.drop
              (gK
                (sym.cutL
                  (pk (3 : Nat) (3 : Nat) [(1 : Int), (2 : Int), (3 : Int)]
                    [(1 : Int), (9 : Int), (3 : Int)])
                  (0 : Nat) (4 : Nat) [IntKind.u8].length))
              (sym.cutL
                (pk (3 : Nat) (3 : Nat) [(1 : Int), (2 : Int), (3 : Int)]
                  [(1 : Int), (9 : Int), (3 : Int)])
                (0 : Nat) (4 : Nat) [IntKind.u8].length)))
          (List.drop
            (gK
              (sym.cutL
                (pk (3 : Nat) (3 : Nat) [(1 : Int), (2 : Int), (3 : Int)]
                  [(1 : Int), (9 : Int), (3 : Int)])
                (0 : Nat) (4 : Nat) [IntKind.u8].length))
            (sym.cutL
              (pk (3 : Nat) (3 : Nat) [(1 : Int), (2 : Int), (3 : Int)]
                [(1 : Int), (9 : Int), (3 : Int)])
              (0 : Nat) (4 : Nat) [IntKind.u8].length))))).length =>
  (.chk ((x.nl = x.nl ∧
    (4 : Nat) ≤
        (pk (3 : Nat) (3 : Nat) [(1 : Int), (2 : Int), (3 : Int)]
            [(1 : Int), (9 : Int), (3 : Int)]).length ∧
      (pk (3 : Nat) (3 : Nat) [(1 : Int), (2 : Int), (3 : Int)]
            [(1 : Int), (9 : Int), (3 : Int)]).length ≤
        x.cap) ∧
  True ∧ True)
  (.chk ((pk (3 : Nat) (3 : Nat) [(1 : Int), (2 : Int), (3 : Int)]
      [(1 : Int), (9 : Int), (3 : Int)]).length ≤
  (1000000000 : Nat))
  (.br (decide
  (sym.cutL
      (pk (3 : Nat) (3 : Nat) [(1 : Int), (2 : Int), (3 : Int)]
        [(1 : Int), (9 : Int), (3 : Int)])
      (0 : Nat) (4 : Nat) [IntKind.u8].length =
    [(1 : Int), (1 : Int), (9 : Int), (1 : Int)]))
   (.br (pe (3 : Nat) (3 : Nat) == (0 : Int))
    (.chk ((x_1.nl = x_1.nl ∧
    (3 : Nat) ≤
        (splice [(1 : Int), (2 : Int), (3 : Int)] (1 : Nat)
            (List.take
              (gN
                (List.drop
                  (gK
                    (sym.cutL
                      (pk (3 : Nat) (3 : Nat) [(1 : Int), (2 : Int), (3 : Int)]
                        [(1 : Int), (9 : Int), (3 : Int)])
                      (0 : Nat) (4 : Nat) [IntKind.u8].length))
                  (sym.cutL
                    (pk (3 : Nat) (3 : Nat) [(1 : Int), (2 : Int), (3 : Int)]
                      [(1 : Int), (9 : Int), (3 : Int)])
                    (0 : Nat) (4 : Nat) [IntKind.u8].length)))
              (List.drop
                (gK
                  (List.drop
                    (gK
                      (sym.cutL
                        (pk (3 : Nat) (3 : Nat) [(1 : Int), (2 : Int), (3 : Int)]
                          [(1 : Int), (9 : Int), (3 : Int)])
                        (0 : Nat) (4 : Nat) [IntKind.u8].length))
                    (sym.cutL
                      (pk (3 : Nat) (3 : Nat) [(1 : Int), (2 : Int), (3 : Int)]
                        [(1 : Int), (9 : Int), (3 : Int)])
                      (0 : Nat) (4 : Nat) [IntKind.u8].length)))
                (List.drop
                  (gK
                    (sym.cutL
                      (pk (3 : Nat) (3 : Nat) [(1 : Int), (2 : Int), (3 : Int)]
                        [(1 : Int), (9 : Int), (3 : Int)])
                      (0 : Nat) (4 : Nat) [IntKind.u8].length))
                  (sym.cutL
                    (pk (3 : Nat) (3 : Nat) [(1 : Int), (2 : Int), (3 : Int)]
                      [(1 : Int), (9 : Int), (3 : Int)])
                    (0 : Nat) (4 : Nat) [IntKind.u8].length))))).length ∧
      (splice [(1 : Int), (2 : Int), (3 : Int)] (1 : Nat)
            (List.take
              (gN
                (List.drop
                  (gK
                    (sym.cutL
                      (pk (3 : Nat) (3 : Nat) [(1 : Int), (2 : Int), (3 : Int)]
                        [(1 : Int), (9 : Int), (3 : Int)])
                      (0 : Nat) (4 : Nat) [IntKind.u8].length))
                  (sym.cutL
                    (pk (3 : Nat) (3 : Nat) [(1 : Int), (2 : Int), (3 : Int)]
                      [(1 : Int), (9 : Int), (3 : Int)])
                    (0 : Nat) (4 : Nat) [IntKind.u8].length)))
              (List.drop
                (gK
                  (List.drop
                    (gK
                      (sym.cutL
                        (pk (3 : Nat) (3 : Nat) [(1 : Int), (2 : Int), (3 : Int)]
                          [(1 : Int), (9 : Int), (3 : Int)])
                        (0 : Nat) (4 : Nat) [IntKind.u8].length))
                    (sym.cutL
                      (pk (3 : Nat) (3 : Nat) [(1 : Int), (2 : Int), (3 : Int)]
                        [(1 : Int), (9 : Int), (3 : Int)])
                      (0 : Nat) (4 : Nat) [IntKind.u8].length)))
                (List.drop
                  (gK
                    (sym.cutL
                      (pk (3 : Nat) (3 : Nat) [(1 : Int), (2 : Int), (3 : Int)]
                        [(1 : Int), (9 : Int), (3 : Int)])
                      (0 : Nat) (4 : Nat) [IntKind.u8].length))
                  (sym.cutL
                    (pk (3 : Nat) (3 : Nat) [(1 : Int), (2 : Int), (3 : Int)]
                      [(1 : Int), (9 : Int), (3 : Int)])
                    (0 : Nat) (4 : Nat) [IntKind.u8].length))))).length ≤
        x_1.cap) ∧
  True ∧ True)
    (.chk ((splice [(1 : Int), (2 : Int), (3 : Int)] (1 : Nat)
      (List.take
        (gN
          (List.drop
            (gK
              (sym.cutL
                (pk (3 : Nat) (3 : Nat) [(1 : Int), (2 : Int), (3 : Int)]
                  [(1 : Int), (9 : Int), (3 : Int)])
                (0 : Nat) (4 : Nat) [IntKind.u8].length))
            (sym.cutL
              (pk (3 : Nat) (3 : Nat) [(1 : Int), (2 : Int), (3 : Int)]
                [(1 : Int), (9 : Int), (3 : Int)])
              (0 : Nat) (4 : Nat) [IntKind.u8].length)))
        (List.drop
          (gK
            (List.drop
              (gK
                (sym.cutL
                  (pk (3 : Nat) (3 : Nat) [(1 : Int), (2 : Int), (3 : Int)]
                    [(1 : Int), (9 : Int), (3 : Int)])
                  (0 : Nat) (4 : Nat) [IntKind.u8].length))
              (sym.cutL
                (pk (3 : Nat) (3 : Nat) [(1 : Int), (2 : Int), (3 : Int)]
                  [(1 : Int), (9 : Int), (3 : Int)])
                (0 : Nat) (4 : Nat) [IntKind.u8].length)))
          (List.drop
            (gK
              (sym.cutL
                (pk (3 : Nat) (3 : Nat) [(1 : Int), (2 : Int), (3 : Int)]
                  [(1 : Int), (9 : Int), (3 : Int)])
                (0 : Nat) (4 : Nat) [IntKind.u8].length))
            (sym.cutL
              (pk (3 : Nat) (3 : Nat) [(1 : Int), (2 : Int), (3 : Int)]
                [(1 : Int), (9 : Int), (3 : Int)])
              (0 : Nat) (4 : Nat) [IntKind.u8].length))))).length ≤
  (1000000000 : Nat))
    (.br (decide
  (sym.cutL
      (splice [(1 : Int), (2 : Int), (3 : Int)] (1 : Nat)
        (List.take
          (gN
            (List.drop
              (gK
                (sym.cutL
                  (pk (3 : Nat) (3 : Nat) [(1 : Int), (2 : Int), (3 : Int)]
                    [(1 : Int), (9 : Int), (3 : Int)])
                  (0 : Nat) (4 : Nat) [IntKind.u8].length))
              (sym.cutL
                (pk (3 : Nat) (3 : Nat) [(1 : Int), (2 : Int), (3 : Int)]
                  [(1 : Int), (9 : Int), (3 : Int)])
                (0 : Nat) (4 : Nat) [IntKind.u8].length)))
          (List.drop
            (gK
              (List.drop
                (gK
                  (sym.cutL
                    (pk (3 : Nat) (3 : Nat) [(1 : Int), (2 : Int), (3 : Int)]
                      [(1 : Int), (9 : Int), (3 : Int)])
                    (0 : Nat) (4 : Nat) [IntKind.u8].length))
                (sym.cutL
                  (pk (3 : Nat) (3 : Nat) [(1 : Int), (2 : Int), (3 : Int)]
                    [(1 : Int), (9 : Int), (3 : Int)])
                  (0 : Nat) (4 : Nat) [IntKind.u8].length)))
            (List.drop
              (gK
                (sym.cutL
                  (pk (3 : Nat) (3 : Nat) [(1 : Int), (2 : Int), (3 : Int)]
                    [(1 : Int), (9 : Int), (3 : Int)])
                  (0 : Nat) (4 : Nat) [IntKind.u8].length))
              (sym.cutL
                (pk (3 : Nat) (3 : Nat) [(1 : Int), (2 : Int), (3 : Int)]
                  [(1 : Int), (9 : Int), (3 : Int)])
                (0 : Nat) (4 : Nat) [IntKind.u8].length)))))
      (0 : Nat) (3 : Nat) [IntKind.u8].length =
    [(1 : Int), (9 : Int), (3 : Int)]))
     (.leaf (.v (.one (.bool false true))))
     (.leaf (.v (.one (.bool true false)))))))
    (.leaf (.v (.one (.bool true false)))))
   (.leaf (.v (.one (.bool true false))))))))))))) := by kernel_rfl
def awC : Ctr := ⟨9, fun | [] => some (.leaf (.v (.one (.bool true true)))) | _ => none⟩
def awT : List Ctr := [awC]
theorem aw1 : pk 3 3 [1, 2, 3] [1, 9, 3] = [1, 1, 9, 1] := by decide +kernel
theorem awC_ok (w : World) : awC.ok Try.prog w := by
  refine ⟨⟨_, Try.func9, rfl⟩, fun args t ht => ?_⟩
  unfold awC at ht
  simp only at ht
  split at ht
  · cases ht
    refine ⟨rfl, fun K hK => ⟨_, hK, rfl, fun w' hb => ?_⟩⟩
    refine val_eq base2 (ctrs_none _ _) (preOf_ok tab8_ok w') (loops_none _ _) (awake_tree w') rfl ?_
    rw [aw1]
    have b1 : B 1 := by decide
    have b2 : B 2 := by decide
    have b3 : B 3 := by decide
    have b9 : B 9 := by decide
    refine ⟨⟨trivial, trivial, trivial⟩, by decide, fun x => ⟨⟨trivial, ⟨rfl, by decide, x.le⟩, trivial⟩, ⟨by decide, by decide, .cons b1 (.cons b2 (.one b3)), .cons b1 (.cons b1 (.cons b9 (.one b1)))⟩, fun y => ⟨⟨⟨rfl, by decide, x.le⟩, trivial, trivial⟩, by decide, fun _ => ⟨fun _ => ⟨⟨⟨rfl, by decide +kernel, y.le⟩, trivial, trivial⟩, by decide +kernel, fun _ => ⟨rfl, rfl⟩, fun h => absurd h (by decide +kernel)⟩, fun h => absurd h (by decide +kernel)⟩, fun h => absurd h (by decide +kernel)⟩⟩⟩
  · cases ht
theorem awT_ok (w : World) : Ctrs Try.prog w (ctrOf awT) := ctrs_of fun c hc => by
  simp only [awT, List.mem_cons, List.not_mem_nil, or_false] at hc
  subst hc
  exact awC_ok w
end Go.Proofs.Ytcfnfihemejjkaa
