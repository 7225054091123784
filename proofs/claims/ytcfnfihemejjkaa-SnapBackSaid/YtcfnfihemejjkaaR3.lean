/-
  Contracts of packs: how many are other ones. Bytes are below 256, rows have at most 1000000000; no other condition.
-/
import Derived.Test.YtcfnfihemejjkaaR2
namespace Go.Proofs.Ytcfnfihemejjkaa
open Go.RowKit sym
set_option linter.unusedVariables false
set_option linter.unusedSimpArgs false
set_option maxRecDepth 100000
theorem oth_stop {a b : List Int} {k : Nat} (h : k < b.length → 4 ≤ lcp (a.drop k) (b.drop k) ∨ k + lcp (a.drop k) (b.drop k) = b.length) : oth a b k = k := by
  rw [oth]
  split
  · rename_i h1
    rw [if_pos (h h1)]
  · rfl
theorem oth_next {a b : List Int} {k : Nat} (h : k < b.length) (h2 : ¬ (4 ≤ lcp (a.drop k) (b.drop k) ∨ k + lcp (a.drop k) (b.drop k) = b.length)) : oth a b k = oth a b (k + lcp (a.drop k) (b.drop k) + 1) := by
  rw [oth, if_pos h, if_neg h2]
theorem cut_n {X : List Int} {n : Nat} (h : X.length = n) (k : Nat) : cutL X k n 1 = X.drop k := by subst h; exact cut_all X k
def tab1 : List RCtr := [alikeC]
theorem tab1_ok : ∀ c ∈ tab1, c.Ok Try.prog := fun c hc => by
  simp only [tab1, List.mem_cons, List.not_mem_nil, or_false] at hc
  subst hc
  exact alikeC_ok
structure otP where
structure otX where
  k : Nat
def otSt (A : Option Addr) (X : List Int) (n cap : Nat) (A2 : Option Addr) (Y : List Int) (m cap2 : Nat) : otP → otX → ASt := fun ⟨⟩ ⟨k⟩ => ⟨slots (List.replicate 33 .any) [(0, .v (.one (.xr A [.u8] X n cap))), (1, .v (.one (.xr A2 [.u8] Y m cap2))), (5, .v (.one (.int false .i64 (k : Int))))], []⟩
def otFin (A : Option Addr) (X : List Int) (n cap : Nat) (A2 : Option Addr) (Y : List Int) (m cap2 : Nat) : otP → otX → ASt := fun ⟨⟩ ⟨k⟩ => ⟨slots (List.replicate 33 .any) [(0, .v (.one (.xr A [.u8] X n cap))), (1, .v (.one (.xr A2 [.u8] Y m cap2))), (5, .v (.one (.int false .i64 (k : Int))))], []⟩
def otBck (A : Option Addr) (X : List Int) (n cap : Nat) (A2 : Option Addr) (Y : List Int) (m cap2 : Nat) : otP → Empty → ASt := fun _ z => nomatch z
def otNxP : ASt → Option otP := fun s => some ⟨⟩
def otNxX : ASt → Option otX := fun s => match (gI s 5).map Int.toNat with | none => none | some k => some ⟨k⟩
def otNxZ : ASt → Option Empty := fun _ => none
def otRo : ASt → List (Option Nat) := (fun _ => [])
def otRf : ASt → List (Option Nat) := (fun _ => [])
def otRb : ASt → List (Option Nat) := (fun _ => [])
structure otInv (A : Option Addr) (X : List Int) (n cap : Nat) (A2 : Option Addr) (Y : List Int) (m cap2 : Nat) (p : otP) (x : otX) : Prop where
  k1 : x.k ≤ m
  mn : m = n
  big : n ≤ 1000000000
  eq : oth X Y x.k = oth X Y 0
structure otPost (A : Option Addr) (X : List Int) (n cap : Nat) (A2 : Option Addr) (Y : List Int) (m cap2 : Nat) (p : otP) (x : otX) : Prop where
  eq : x.k = oth X Y 0
def otBack (A : Option Addr) (X : List Int) (n cap : Nat) (A2 : Option Addr) (Y : List Int) (m cap2 : Nat) (p : otP) (x : Empty) : Prop := False
def otLp (A : Option Addr) (X : List Int) (n cap : Nat) (A2 : Option Addr) (Y : List Int) (m cap2 : Nat) : Lp := ⟨20, 0, fun s => match otNxP s with
  | some p => match otNxX s with
    | some x => some (loopT 0 0 false otRo (otSt A X n cap A2 Y m cap2 p) (otFin A X n cap A2 Y m cap2 p) (otBck A X n cap A2 Y m cap2 p) (otInv A X n cap A2 Y m cap2 p) (otPost A X n cap A2 Y m cap2 p) (otBack A X n cap A2 Y m cap2 p) s x)
    | none => none
  | none => none⟩
theorem otstep_tree (w : World) (A : Option Addr) (X : List Int) (n cap : Nat) (A2 : Option Addr) (Y : List Int) (m cap2 : Nat) (k : Nat) :
    roundT Try.prog w (flatT Try.prog) (noCtr) (callT Try.prog w (flatT Try.prog) (noCtr) (preOf w tab1) (lpOf Try.prog [mixLp 20 3]) 20) ((lpOf Try.prog [mixLp 20 3]) 20) (roundOf (bodyAt Try.prog 20 0)) 0 0 otRo otRf otRb (otSt A X n cap A2 Y m cap2 ⟨⟩) (otFin A X n cap A2 Y m cap2 ⟨⟩) (otBck A X n cap A2 Y m cap2 ⟨⟩) otNxX otNxX otNxZ ⟨k⟩ =
(.br (decide ((↑k : Int) < (↑m : Int)))
 (.chk ((0 : Int) ≤ (↑k : Int) ∧ (↑k : Int) ≤ (↑n : Int) ∧ (↑n : Int) ≤ (↑n : Int) ∧ n ≤ cap)
 (.chk ((0 : Int) ≤ (↑k : Int) ∧ (↑k : Int) ≤ (↑m : Int) ∧ (↑m : Int) ≤ (↑m : Int) ∧ m ≤ cap2)
 (.chk ((sym.XR w (sym.cutA A cap ((↑k : Int)).toNat [IntKind.u8].length)
      [IntKind.u8] (sym.cutL X ((↑k : Int)).toNat n [IntKind.u8].length) (n - ((↑k : Int)).toNat) ∧
    n - ((↑k : Int)).toNat ≤ cap - ((↑k : Int)).toNat) ∧
  (sym.XR w (sym.cutA A2 cap2 ((↑k : Int)).toNat [IntKind.u8].length)
        [IntKind.u8] (sym.cutL Y ((↑k : Int)).toNat m [IntKind.u8].length) (m - ((↑k : Int)).toNat) ∧
      m - ((↑k : Int)).toNat ≤ cap2 - ((↑k : Int)).toNat) ∧
    True)
 (.chk (n - ((↑k : Int)).toNat ≤ (1000000000 : Nat) ∧ m - ((↑k : Int)).toNat ≤ n - ((↑k : Int)).toNat)
 (.br (decide
  (↑(lcp (sym.cutL X ((↑k : Int)).toNat n [IntKind.u8].length)
        (sym.cutL Y ((↑k : Int)).toNat m [IntKind.u8].length)) ≥
    (4 : Int)))
  (.chk (A = A ∧ [IntKind.u8] = [IntKind.u8] ∧ X = X ∧ n = n ∧ cap = cap)
  (.chk (A2 = A2 ∧ [IntKind.u8] = [IntKind.u8] ∧ Y = Y ∧ m = m ∧ cap2 = cap2)
  (.chk (IntKind.i64 = IntKind.i64 ∧ (↑k : Int) = ↑((↑k : Int)).toNat)
  (.leaf (.inr (.inl ⟨((↑k : Int)).toNat⟩))))))
  (.br (IntKind.i64.wrap
    ((↑k : Int) +
      ↑(lcp (sym.cutL X ((↑k : Int)).toNat n [IntKind.u8].length)
          (sym.cutL Y ((↑k : Int)).toNat m [IntKind.u8].length))) ==
  (↑m : Int))
   (.chk (A = A ∧ [IntKind.u8] = [IntKind.u8] ∧ X = X ∧ n = n ∧ cap = cap)
   (.chk (A2 = A2 ∧ [IntKind.u8] = [IntKind.u8] ∧ Y = Y ∧ m = m ∧ cap2 = cap2)
   (.chk (IntKind.i64 = IntKind.i64 ∧ (↑k : Int) = ↑((↑k : Int)).toNat)
   (.leaf (.inr (.inl ⟨((↑k : Int)).toNat⟩))))))
   (.chk (A = A ∧ [IntKind.u8] = [IntKind.u8] ∧ X = X ∧ n = n ∧ cap = cap)
   (.chk (A2 = A2 ∧ [IntKind.u8] = [IntKind.u8] ∧ Y = Y ∧ m = m ∧ cap2 = cap2)
   (.chk (IntKind.i64 = IntKind.i64 ∧
  IntKind.i64.wrap
      ((↑k : Int) +
        IntKind.i64.wrap
          (↑(lcp (sym.cutL X ((↑k : Int)).toNat n [IntKind.u8].length)
                (sym.cutL Y ((↑k : Int)).toNat m [IntKind.u8].length)) +
            (1 : Int))) =
    ↑(IntKind.i64.wrap
          ((↑k : Int) +
            IntKind.i64.wrap
              (↑(lcp
                    (sym.cutL X ((↑k : Int)).toNat n [IntKind.u8].length)
                    (sym.cutL Y ((↑k : Int)).toNat m [IntKind.u8].length)) +
                (1 : Int)))).toNat)
   (.leaf (.inl ⟨(IntKind.i64.wrap
    ((↑k : Int) +
      IntKind.i64.wrap
        (↑(lcp (sym.cutL X ((↑k : Int)).toNat n [IntKind.u8].length)
              (sym.cutL Y ((↑k : Int)).toNat m [IntKind.u8].length)) +
          (1 : Int)))).toNat⟩)))))))))))
 (.chk (A = A ∧ [IntKind.u8] = [IntKind.u8] ∧ X = X ∧ n = n ∧ cap = cap)
 (.chk (A2 = A2 ∧ [IntKind.u8] = [IntKind.u8] ∧ Y = Y ∧ m = m ∧ cap2 = cap2)
 (.chk (IntKind.i64 = IntKind.i64 ∧ (↑k : Int) = ↑((↑k : Int)).toNat)
 (.leaf (.inr (.inl ⟨((↑k : Int)).toNat⟩))))))) := by kernel_rfl
theorem other_tree (w : World) (A : Option Addr) (X : List Int) (n cap : Nat) (A2 : Option Addr) (Y : List Int) (m cap2 : Nat) :
    callT Try.prog w (flatT Try.prog) (noCtr) (preOf w tab1) (lpOf Try.prog [otLp A X n cap A2 Y m cap2]) 20 20 [.v (.one (.xr A [.u8] X n cap)), .v (.one (.xr A2 [.u8] Y m cap2))] [] =
(.chk (sym.textAt Go.Proofs.Try.prog (20 : Go.FuncId) (0 : Nat) = sym.textAt Go.Proofs.Try.prog (20 : Go.FuncId) (0 : Nat))
(.chk (A = A ∧ [IntKind.u8] = [IntKind.u8] ∧ X = X ∧ n = n ∧ cap = cap)
(.chk (A2 = A2 ∧ [IntKind.u8] = [IntKind.u8] ∧ Y = Y ∧ m = m ∧ cap2 = cap2)
(.chk (IntKind.i64 = IntKind.i64 ∧ (0 : Int) = ↑(0 : Nat))
(.chk (otInv A X n cap A2 Y m cap2 { } { k := (0 : Nat) })
(.all fun x : sym.Got otX
  (otPost A X n cap A2 Y m cap2 { }) =>
 (.leaf ((.v (.one (.int false .i64 ((↑x.1.1 : Int))))), [])))))))) := by kernel_rfl
def otMu (A : Option Addr) (X : List Int) (n cap : Nat) (A2 : Option Addr) (Y : List Int) (m cap2 : Nat) (p : otP) (x : otX) : Nat := m - x.k
theorem ot_step (w : World) (A : Option Addr) (X : List Int) (n cap : Nat) (A2 : Option Addr) (Y : List Int) (m cap2 : Nat) (p : otP) (x : otX) (hX : XR w A [.u8] X n) (hY : XR w A2 [.u8] Y m) (hcX : n ≤ cap) (hcY : m ≤ cap2) (h : otInv A X n cap A2 Y m cap2 p x) : Hid (roundT Try.prog w (flatT Try.prog) (noCtr) (callT Try.prog w (flatT Try.prog) (noCtr) (preOf w tab1) (lpOf Try.prog [mixLp 20 3]) 20) ((lpOf Try.prog [mixLp 20 3]) 20) (roundOf (bodyAt Try.prog 20 0)) 0 0 otRo otRf otRb (otSt A X n cap A2 Y m cap2 p) (otFin A X n cap A2 Y m cap2 p) (otBck A X n cap A2 Y m cap2 p) otNxX otNxX otNxZ x) (Kept (otInv A X n cap A2 Y m cap2 p) (otPost A X n cap A2 Y m cap2 p) (otBack A X n cap A2 Y m cap2 p) (otMu A X n cap A2 Y m cap2 p) x) := by
  obtain ⟨⟩ := p
  obtain ⟨k⟩ := x
  constructor
  rw [otstep_tree]
  simp only [T.holds, Kept, otMu, and_self, true_and, and_true]
  obtain ⟨k1, mn, big, eq⟩ := h
  simp only at k1 mn big eq
  have hn : X.length = n := by simpa using hX.1
  have hm : Y.length = m := by simpa using hY.1
  simp only [List.length_singleton, Int.toNat_natCast, cut_n hn, cut_n hm, true_and, and_true, T.holds]
  have hL := (lcp_le (X.drop k) (Y.drop k)).2
  simp only [List.length_drop] at hL
  refine ⟨fun hlt => ?_, fun hge => ?_⟩
  · have hlt : k < m := by have := of_decide_eq_true hlt; omega
    have x1 := xr_cut (l := k) hX hcX (by omega) (Nat.le_refl n)
    have x2 := xr_cut (l := k) hY hcY (by omega) (Nat.le_refl m)
    simp only [List.length_singleton, cut_n hn, cut_n hm] at x1 x2
    have w1 : IntKind.i64.wrap ((k : Int) + (lcp (X.drop k) (Y.drop k) : Nat)) = ((k + lcp (X.drop k) (Y.drop k) : Nat) : Int) := by rw [wi64 _ (by omega) (by omega)]; omega
    have w2 : IntKind.i64.wrap (((lcp (X.drop k) (Y.drop k) : Nat) : Int) + 1) = ((lcp (X.drop k) (Y.drop k) + 1 : Nat) : Int) := by rw [wi64 _ (by omega) (by omega)]; omega
    have w3 : IntKind.i64.wrap ((k : Int) + ((lcp (X.drop k) (Y.drop k) + 1 : Nat) : Int)) = ((k + lcp (X.drop k) (Y.drop k) + 1 : Nat) : Int) := by rw [wi64 _ (by omega) (by omega)]; omega
    rw [w1, w2, w3, Int.toNat_natCast]
    refine ⟨⟨by omega, by omega, by omega, hcX⟩, ⟨by omega, by omega, by omega, hcY⟩, ⟨⟨x1, by omega⟩, x2, by omega⟩, ⟨by omega, by omega⟩, fun h4 => ⟨?_⟩, fun h4 => ⟨fun h5 => ⟨?_⟩, fun h5 => ⟨rfl, ⟨?_, mn, big, ?_⟩, ?_⟩⟩⟩
    · have h4 := of_decide_eq_true h4
      show k = _
      rw [← eq, oth_stop fun _ => .inl (by omega)]
    · have h5 : ((k + lcp (X.drop k) (Y.drop k) : Nat) : Int) = m := by simpa using h5
      show k = _
      rw [← eq, oth_stop fun _ => .inr (by omega)]
    all_goals
      have h4 := of_decide_eq_false h4
      have h5 : ¬ ((k + lcp (X.drop k) (Y.drop k) : Nat) : Int) = m := by simpa using h5
    · show k + _ + 1 ≤ m
      omega
    · show oth X Y (k + _ + 1) = _
      rw [← oth_next (by omega) (by omega), eq]
    · omega
  · have hge := of_decide_eq_false hge
    refine ⟨?_⟩
    show k = _
    rw [← eq, oth_stop fun h => by omega]
theorem otLp_ok (w : World) (A : Option Addr) (X : List Int) (n cap : Nat) (A2 : Option Addr) (Y : List Int) (m cap2 : Nat) (hX : XR w A [.u8] X n) (hY : XR w A2 [.u8] Y m) (hcX : n ≤ cap) (hcY : m ≤ cap2) : (otLp A X n cap A2 Y m cap2).ok Try.prog w := by
  intro s t h
  unfold otLp at h
  simp only at h
  split at h
  · rename_i p _
    split at h
    · rename_i x _
      cases h
      exact loop_ok base2 (ctrs_none _ w) (callT_ok base2.mixed base2.names base2.eqs (ctrs_none _ w).ok (ctrs_none _ w).there (preOf_ok tab1_ok w) ((lps_ok (ls := [mixLp 20 3]) fun l hl => by (simp only [List.mem_cons, List.not_mem_nil, or_false] at hl; rcases hl with rfl <;> exact mixLp_ok _ _ _ _))) 20) (((lps_ok (ls := [mixLp 20 3]) fun l hl => by (simp only [List.mem_cons, List.not_mem_nil, or_false] at hl; rcases hl with rfl <;> exact mixLp_ok _ _ _ _))) 20) (c := roundOf (bodyAt Try.prog 20 0)) (by kernel_rfl) (id := 0) (n := 0) (hr := false) (ro := otRo) (rf := otRf) (rr := otRb) (st := otSt A X n cap A2 Y m cap2 p) (fin := otFin A X n cap A2 Y m cap2 p) (bck := otBck A X n cap A2 Y m cap2 p) (inv := otInv A X n cap A2 Y m cap2 p) (post := otPost A X n cap A2 Y m cap2 p) (back := otBack A X n cap A2 Y m cap2 p) (nx := otNxX) (fx := otNxX) (bx := otNxZ) (otMu A X n cap A2 Y m cap2 p) (nf := 0) (nf' := 0) (nf'' := 0) (fun x => by kernel_rfl) (fun y => by kernel_rfl) (fun z => nomatch z) (.inr fun z => nomatch z) (fun x hx => ot_step w A X n cap A2 Y m cap2 p x hX hY hcX hcY hx) s x
    · cases h
  · cases h
def otherC : RCtr := ⟨20, [some [.u8], some [.u8]], fun | [.row [.u8] n xs, .row [.u8] m ys] => some (.chk (n ≤ 1000000000 ∧ m = n) (.leaf [.av (.one (.int false .i64 (oth xs ys 0 : Nat)))])) | _ => none⟩
theorem otherC_ok : otherC.Ok Try.prog := by
  refine rctr_ok base2 ⟨_, Try.func20, rfl⟩ (ctr := fun w => noCtr) (fun w => ctrs_none _ w) (pre := fun w => preOf w tab1) (fun w => preOf_ok tab1_ok w) (n := 20) fun w cas args t h ha K hK => ?_
  unfold otherC at h
  simp only at h
  split at h
  · cases h
    obtain ⟨y0, y1, rfl, q0, q1⟩ := all2_2 ha
    obtain ⟨a, c, rfl, hX, hc⟩ := argRow q0
    obtain ⟨a2, c2, rfl, hY, hc2⟩ := argRow q1
    rename_i n xs m ys
    obtain ⟨⟨big, hmn⟩, hK⟩ := hK
    refine ⟨lpOf Try.prog [otLp a xs n c a2 ys m c2], lps_ok fun l hl => ?_, ?_⟩
    · simp only [List.mem_cons, List.not_mem_nil, or_false] at hl
      subst hl
      exact otLp_ok w _ _ _ _ _ _ _ _ hX hY hc hc2
    rw [show otherC.f = 20 from rfl, other_tree]
    simp only [T.holds, and_self, true_and, and_true]
    refine ⟨rfl, ⟨by show 0 ≤ m; omega, hmn, big, rfl⟩, fun y => ⟨_, [_], hK, rfl, .cons (.av rfl fun _ => ?_) .nil⟩⟩
    rw [y.so.eq]
  · cases h
end Go.Proofs.Ytcfnfihemejjkaa
