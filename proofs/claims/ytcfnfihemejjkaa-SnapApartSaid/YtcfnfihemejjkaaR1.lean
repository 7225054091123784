/-
  Contracts of the calls that only read rows: alike, and numbers that stand for bytes. Bytes are below 256, rows have at most 1000000000; no other condition.
-/
import Derived.Test.YtcfnfihemejjkaaR0
namespace Go.Proofs.Ytcfnfihemejjkaa
open Go.RowKit sym
set_option linter.unusedVariables false
set_option linter.unusedSimpArgs false
set_option maxRecDepth 100000
/-- How long two rows are alike. -/
def lcp : List Int → List Int → Nat
  | x :: xs, y :: ys => if x = y then lcp xs ys + 1 else 0
  | _, _ => 0
def hstep (h x : Int) : Int := IntKind.u64.wrap (bits .xor .u64 h (IntKind.u64.wrap x) * 1099511628211)
def hashL (xs : List Int) : Int := xs.foldl hstep 14695981039346656037
theorem lcp_is : ∀ (i : Nat) (X Y : List Int), i ≤ X.length → i ≤ Y.length → (∀ j, j < i → X.getD j 0 = Y.getD j 0) → (i = Y.length ∨ i = X.length ∨ X.getD i 0 ≠ Y.getD i 0) → lcp X Y = i
  | 0, X, Y, _, _, _, stop => by
    cases X with
    | nil => simp [lcp]
    | cons x xs =>
      cases Y with
      | nil => simp [lcp]
      | cons y ys =>
        rcases stop with h | h | h
        · simp at h
        · simp at h
        · simp at h; simp [lcp, h]
  | i + 1, X, Y, hx, hy, eq, stop => by
    cases X with
    | nil => simp at hx
    | cons x xs =>
      cases Y with
      | nil => simp at hy
      | cons y ys =>
        have h0 : x = y := by simpa using eq 0 (by omega)
        have ih := lcp_is i xs ys (by simpa using hx) (by simpa using hy) (fun j hj => by simpa using eq (j + 1) (by omega)) (by simpa using stop)
        simp [lcp, h0, ih]
theorem lcp_le (X Y : List Int) : lcp X Y ≤ X.length ∧ lcp X Y ≤ Y.length := by
  induction X generalizing Y with
  | nil => simp [lcp]
  | cons x xs ih =>
    cases Y with
    | nil => simp [lcp]
    | cons y ys =>
      have := ih ys
      simp only [lcp]
      split <;> simp <;> omega
theorem ext_getD {X Y : List Int} (hl : X.length = Y.length) (h : ∀ j, j < X.length → X.getD j 0 = Y.getD j 0) : X = Y := by
  apply List.ext_getElem hl
  intro j h1 h2
  have := h j h1
  rw [List.getD_eq_getElem?_getD, List.getD_eq_getElem?_getD, List.getElem?_eq_getElem h1, List.getElem?_eq_getElem h2] at this
  exact this
theorem getD_drop (X : List Int) (k j : Nat) : (X.drop k).getD j 0 = X.getD (k + j) 0 := by
  rw [List.getD_eq_getElem?_getD, List.getD_eq_getElem?_getD, List.getElem?_drop]
theorem wu64 (x : Int) : IntKind.wrap .u64 x = x % 18446744073709551616 := by simp [IntKind.wrap, IntKind.bits, IntKind.signed]
theorem hashL_in (xs : List Int) : 0 ≤ hashL xs ∧ hashL xs < 18446744073709551616 := by
  unfold hashL
  have step : ∀ (l : List Int) (h : Int), 0 ≤ h ∧ h < 18446744073709551616 → 0 ≤ l.foldl hstep h ∧ l.foldl hstep h < 18446744073709551616 := by
    intro l
    induction l with
    | nil => exact fun h hh => hh
    | cons x l ih => exact fun h hh => ih _ (by unfold hstep; rw [wu64]; omega)
  exact step xs _ (by decide)
theorem hash_take (X : List Int) {i : Nat} (h : i < X.length) : hashL (X.take (i + 1)) = hstep (hashL (X.take i)) (X.getD i 0) := by
  unfold hashL
  rw [List.take_succ_eq_append_getElem h, List.foldl_append]
  simp [h]
theorem xor_low (q r x : Nat) (hr : r < 256) (hx : x < 256) : (256 * q + r) ^^^ x = 256 * q + (r ^^^ x) := by
  have h1 : r ^^^ x < 2 ^ 8 := Nat.xor_lt_two_pow (n := 8) hr hx
  apply Nat.eq_of_testBit_eq
  intro j
  rw [Nat.testBit_xor]
  rw [show 256 * q + r = 2 ^ 8 * q + r from rfl, show 256 * q + (r ^^^ x) = 2 ^ 8 * q + (r ^^^ x) from rfl, Nat.testBit_two_pow_mul_add _ hr, Nat.testBit_two_pow_mul_add _ h1]
  split
  · rw [Nat.testBit_xor]
  · rename_i h
    have : x.testBit j = false := Nat.testBit_lt_two_pow (Nat.lt_of_lt_of_le hx (show 2 ^ 8 ≤ 2 ^ j from Nat.pow_le_pow_right (n := 2) (by decide) (by omega)))
    simp [this]
theorem rstep {h x : Int} (hh : 0 ≤ h ∧ h < 18446744073709551616) (hx : B x) : IntKind.u64.wrap (IntKind.u64.wrap (IntKind.u64.wrap (h - h.tmod 256) + bits .xor .u64 (h.tmod 256) (IntKind.u64.wrap x)) * 1099511628211) = hstep h x := by
  unfold hstep
  congr 2
  obtain ⟨n, rfl⟩ := Int.eq_ofNat_of_zero_le hh.1
  obtain ⟨m, rfl⟩ := Int.eq_ofNat_of_zero_le hx.1
  have hm := hx.2
  have e0 : ((n : Int).tmod 256) = ((n % 256 : Nat) : Int) := by rw [Int.tmod_eq_emod_of_nonneg (by omega)]; omega
  have e1 : IntKind.u64.wrap (m : Int) = (m : Int) := by rw [wu64]; omega
  rw [e0, e1, u64_xor_nat (n % 256) m (by omega) (by omega), u64_xor_nat n m (by omega) (by omega)]
  have := xor_low (n / 256) (n % 256) m (by omega) (by omega)
  rw [show 256 * (n / 256) + n % 256 = n by omega] at this
  rw [this, wu64, wu64]
  have hlt : n % 256 ^^^ m < 2 ^ 8 := Nat.xor_lt_two_pow (n := 8) (by omega) (by omega)
  generalize n % 256 ^^^ m = z at *
  omega
structure smP where
structure smX where
  i : Int
structure smZ where
def smSt (A : Option Addr) (X : List Int) (n cap : Nat) (A2 : Option Addr) (Y : List Int) (m cap2 : Nat) : smP → smX → ASt := fun ⟨⟩ ⟨i⟩ => ⟨slots (List.replicate 26 .any) [(0, .v (.one (.xr A [.u8] X n cap))), (1, .v (.one (.xr A2 [.u8] Y m cap2))), (4, .v (.one (.bool true false))), (12, .v (.one (.int false .i64 (n : Int)))), (13, .v (.one (.int false .i64 i)))], []⟩
def smFin (A : Option Addr) (X : List Int) (n cap : Nat) (A2 : Option Addr) (Y : List Int) (m cap2 : Nat) : smP → smX → ASt := fun ⟨⟩ ⟨i⟩ => ⟨slots (List.replicate 26 .any) [(0, .v (.one (.xr A [.u8] X n cap))), (1, .v (.one (.xr A2 [.u8] Y m cap2))), (4, .v (.one (.bool true false))), (12, .v (.one (.int false .i64 (n : Int)))), (13, .v (.one (.int false .i64 i)))], []⟩
def smBck (A : Option Addr) (X : List Int) (n cap : Nat) (A2 : Option Addr) (Y : List Int) (m cap2 : Nat) : smP → smZ → ASt := fun ⟨⟩ ⟨⟩ => ⟨slots (List.replicate 26 .any) [(4, .v (.one (.bool true false)))], []⟩
def smNxP : ASt → Option smP := fun s => some ⟨⟩
def smNxX : ASt → Option smX := fun s => match gI s 13 with | none => none | some i => some ⟨i⟩
def smNxZ : ASt → Option smZ := fun s => some ⟨⟩
def smRo : ASt → List (Option Nat) := (fun _ => [])
def smRf : ASt → List (Option Nat) := (fun _ => [])
def smRb : ASt → List (Option Nat) := (fun _ => [])
structure smInv (A : Option Addr) (X : List Int) (n cap : Nat) (A2 : Option Addr) (Y : List Int) (m cap2 : Nat) (p : smP) (x : smX) : Prop where
  i0 : 0 ≤ x.i
  i1 : x.i ≤ n
  mn : m = n
  big : n ≤ 1000000000
  eq : ∀ j : Nat, (j : Int) < x.i → X.getD j 0 = Y.getD j 0
structure smPost (A : Option Addr) (X : List Int) (n cap : Nat) (A2 : Option Addr) (Y : List Int) (m cap2 : Nat) (p : smP) (x : smX) : Prop where
  eq : X = Y
structure smBack (A : Option Addr) (X : List Int) (n cap : Nat) (A2 : Option Addr) (Y : List Int) (m cap2 : Nat) (p : smP) (x : smZ) : Prop where
  ne : X ≠ Y
def smLp (A : Option Addr) (X : List Int) (n cap : Nat) (A2 : Option Addr) (Y : List Int) (m cap2 : Nat) : Lp := ⟨15, 0, fun s => match smNxP s with
  | some p => match smNxX s with
    | some x => some (loopT 0 0 true smRo (smSt A X n cap A2 Y m cap2 p) (smFin A X n cap A2 Y m cap2 p) (smBck A X n cap A2 Y m cap2 p) (smInv A X n cap A2 Y m cap2 p) (smPost A X n cap A2 Y m cap2 p) (smBack A X n cap A2 Y m cap2 p) s x)
    | none => none
  | none => none⟩
theorem smstep_tree (w : World) (A : Option Addr) (X : List Int) (n cap : Nat) (A2 : Option Addr) (Y : List Int) (m cap2 : Nat) (i : Int) :
    roundT Try.prog w (flatT Try.prog) (noCtr) (callT Try.prog w (flatT Try.prog) (noCtr) (noPre) (noLoop) 20) ((noLoop) 15) (roundOf (bodyAt Try.prog 15 0)) 0 0 smRo smRf smRb (smSt A X n cap A2 Y m cap2 ⟨⟩) (smFin A X n cap A2 Y m cap2 ⟨⟩) (smBck A X n cap A2 Y m cap2 ⟨⟩) smNxX smNxX smNxZ ⟨i⟩ =
(.br (decide (i < (↑n : Int)))
 (.chk (sym.XR w A [IntKind.u8] X n ∧ (0 : Int) ≤ i ∧ i < (↑n : Int) ∧ (0 : Nat) < [IntKind.u8].length)
 (.chk (sym.XC w A [IntKind.u8] X ∧
  (0 : Nat) < (1 : Nat) ∧ i.toNat * [IntKind.u8].length + (1 : Nat) ≤ X.length)
 (.chk (sym.XR w A2 [IntKind.u8] Y m ∧ (0 : Int) ≤ i ∧ i < (↑m : Int) ∧ (0 : Nat) < [IntKind.u8].length)
 (.chk (sym.XC w A2 [IntKind.u8] Y ∧
  (0 : Nat) < (1 : Nat) ∧ i.toNat * [IntKind.u8].length + (1 : Nat) ≤ Y.length)
 (.br (X.getD (i.toNat * [IntKind.u8].length + (0 : Nat)) (0 : Int) !=
  Y.getD (i.toNat * [IntKind.u8].length + (0 : Nat)) (0 : Int))
  (.chk (false = false)
  (.leaf (.inr (.inr ⟨⟩))))
  (.chk (A = A ∧ [IntKind.u8] = [IntKind.u8] ∧ X = X ∧ n = n ∧ cap = cap)
  (.chk (A2 = A2 ∧ [IntKind.u8] = [IntKind.u8] ∧ Y = Y ∧ m = m ∧ cap2 = cap2)
  (.chk (false = false)
  (.chk (IntKind.i64 = IntKind.i64 ∧ (↑n : Int) = (↑n : Int))
  (.chk (IntKind.i64 = IntKind.i64 ∧ IntKind.i64.wrap (i + (1 : Int)) = IntKind.i64.wrap (i + (1 : Int)))
  (.leaf (.inl ⟨IntKind.i64.wrap (i + (1 : Int))⟩))))))))))))
 (.chk (A = A ∧ [IntKind.u8] = [IntKind.u8] ∧ X = X ∧ n = n ∧ cap = cap)
 (.chk (A2 = A2 ∧ [IntKind.u8] = [IntKind.u8] ∧ Y = Y ∧ m = m ∧ cap2 = cap2)
 (.chk (false = false)
 (.chk (IntKind.i64 = IntKind.i64 ∧ (↑n : Int) = (↑n : Int))
 (.chk (IntKind.i64 = IntKind.i64 ∧ i = i)
 (.leaf (.inr (.inl ⟨i⟩))))))))) := by kernel_rfl
theorem same_tree (w : World) (A : Option Addr) (X : List Int) (n cap : Nat) (A2 : Option Addr) (Y : List Int) (m cap2 : Nat) :
    callT Try.prog w (flatT Try.prog) (noCtr) (noPre) (lpOf Try.prog [smLp A X n cap A2 Y m cap2]) 20 15 [.v (.one (.xr A [.u8] X n cap)), .v (.one (.xr A2 [.u8] Y m cap2))] [] =
(.br ((↑n : Int) != (↑m : Int))
 (.leaf ((.v (.one (.bool true false))), []))
 (.chk (sym.textAt Go.Proofs.Try.prog (15 : Go.FuncId) (0 : Nat) = sym.textAt Go.Proofs.Try.prog (15 : Go.FuncId) (0 : Nat))
 (.chk (A = A ∧ [IntKind.u8] = [IntKind.u8] ∧ X = X ∧ n = n ∧ cap = cap)
 (.chk (A2 = A2 ∧ [IntKind.u8] = [IntKind.u8] ∧ Y = Y ∧ m = m ∧ cap2 = cap2)
 (.chk (false = false)
 (.chk (IntKind.i64 = IntKind.i64 ∧ (↑n : Int) = (↑n : Int))
 (.chk (IntKind.i64 = IntKind.i64 ∧ (0 : Int) = (0 : Int))
 (.chk (smInv A X n cap A2 Y m cap2 { } { i := (0 : Int) })
 (.all fun x : Bool =>
  (.br (x)
   (.all fun x_1 : sym.Got smX
  (smPost A X n cap A2 Y m cap2 { }) =>
    (.leaf ((.v (.one (.bool true true))), [])))
   (.all fun x_1 : sym.Got smZ
  (smBack A X n cap A2 Y m cap2 { }) =>
    (.leaf ((.v (.one (.bool true false))), []))))))))))))) := by kernel_rfl
def smMu (A : Option Addr) (X : List Int) (n cap : Nat) (A2 : Option Addr) (Y : List Int) (m cap2 : Nat) (p : smP) (x : smX) : Nat := (n - x.i).toNat
theorem sm_step (w : World) (A : Option Addr) (X : List Int) (n cap : Nat) (A2 : Option Addr) (Y : List Int) (m cap2 : Nat) (p : smP) (x : smX) (hX : XR w A [.u8] X n) (hY : XR w A2 [.u8] Y m) (h : smInv A X n cap A2 Y m cap2 p x) : Hid (roundT Try.prog w (flatT Try.prog) (noCtr) (callT Try.prog w (flatT Try.prog) (noCtr) (noPre) (noLoop) 20) ((noLoop) 15) (roundOf (bodyAt Try.prog 15 0)) 0 0 smRo smRf smRb (smSt A X n cap A2 Y m cap2 p) (smFin A X n cap A2 Y m cap2 p) (smBck A X n cap A2 Y m cap2 p) smNxX smNxX smNxZ x) (Kept (smInv A X n cap A2 Y m cap2 p) (smPost A X n cap A2 Y m cap2 p) (smBack A X n cap A2 Y m cap2 p) (smMu A X n cap A2 Y m cap2 p) x) := by
  obtain ⟨⟩ := p
  obtain ⟨i⟩ := x
  constructor
  rw [smstep_tree]
  simp only [T.holds, Kept, smMu, and_self, true_and, and_true]
  obtain ⟨i0, i1, mn, big, eq⟩ := h
  simp only at i0 i1 mn big eq
  simp only [List.length_singleton, Nat.mul_one, Nat.add_zero, Nat.zero_lt_one, true_and, and_true]
  have hn : X.length = n := by simpa using hX.1
  have hm : Y.length = m := by simpa using hY.1
  refine ⟨fun hlt => ?_, fun hge => ?_⟩
  · have hi : i < (n : Int) := by simpa using hlt
    have hw : IntKind.i64.wrap (i + 1) = i + 1 := wi64 _ (by omega) (by omega)
    refine ⟨⟨hX, i0, hi⟩, ⟨hX.2, by omega⟩, ⟨hY, i0, by omega⟩, ⟨hY.2, by omega⟩, fun hne => ⟨?_⟩, fun he => ?_⟩
    · rintro rfl
      simp at hne
    · rw [hw]
      refine ⟨⟨by show 0 ≤ i + 1; omega, by show i + 1 ≤ n; omega, mn, big, fun j hj => ?_⟩, by omega⟩
      have hj : (j : Int) < i + 1 := hj
      by_cases e : (j : Int) = i
      · have : i.toNat = j := by omega
        rw [this] at he
        simpa using he
      · exact eq j (by omega)
  · have hi : ¬ i < (n : Int) := by simpa using hge
    exact ⟨ext_getD (by omega) fun j hj => eq j (by omega)⟩
theorem smLp_ok (w : World) (A : Option Addr) (X : List Int) (n cap : Nat) (A2 : Option Addr) (Y : List Int) (m cap2 : Nat) (hX : XR w A [.u8] X n) (hY : XR w A2 [.u8] Y m) : (smLp A X n cap A2 Y m cap2).ok Try.prog w := by
  intro s t h
  unfold smLp at h
  simp only at h
  split at h
  · rename_i p _
    split at h
    · rename_i x _
      cases h
      exact loop_ok base2 (ctrs_none _ w) (callT_ok base2.mixed base2.names base2.eqs (ctrs_none _ w).ok (ctrs_none _ w).there (pre_none _ _) (loops_none _ _) 20) ((loops_none _ _) 15) (c := roundOf (bodyAt Try.prog 15 0)) (by kernel_rfl) (id := 0) (n := 0) (hr := true) (ro := smRo) (rf := smRf) (rr := smRb) (st := smSt A X n cap A2 Y m cap2 p) (fin := smFin A X n cap A2 Y m cap2 p) (bck := smBck A X n cap A2 Y m cap2 p) (inv := smInv A X n cap A2 Y m cap2 p) (post := smPost A X n cap A2 Y m cap2 p) (back := smBack A X n cap A2 Y m cap2 p) (nx := smNxX) (fx := smNxX) (bx := smNxZ) (smMu A X n cap A2 Y m cap2 p) (nf := 0) (nf' := 0) (nf'' := 0) (fun x => by kernel_rfl) (fun y => by kernel_rfl) (fun z => by kernel_rfl) (.inl rfl) (fun x hx => sm_step w A X n cap A2 Y m cap2 p x hX hY hx) s x
    · cases h
  · cases h
def sameC : RCtr := ⟨15, [some [.u8], some [.u8]], fun | [.row [.u8] n xs, .row [.u8] m ys] => some (.chk (n ≤ 1000000000) (.leaf [.av (.one (.bool false (decide (xs = ys))))])) | _ => none⟩
theorem sameC_ok : sameC.Ok Try.prog := by
  refine rctr_ok base2 ⟨_, Try.func15, rfl⟩ (ctr := fun w => noCtr) (fun w => ctrs_none _ w) (pre := fun w => noPre) (fun w => pre_none _ w) (n := 20) fun w cas args t h ha K hK => ?_
  unfold sameC at h
  simp only at h
  split at h
  · cases h
    obtain ⟨y0, y1, rfl, q0, q1⟩ := all2_2 ha
    obtain ⟨a, c, rfl, hX, hc⟩ := argRow q0
    obtain ⟨a2, c2, rfl, hY, hc2⟩ := argRow q1
    rename_i n xs m ys
    obtain ⟨big, hK⟩ := hK
    refine ⟨lpOf Try.prog [smLp a xs n c a2 ys m c2], lps_ok fun l hl => ?_, ?_⟩
    · simp only [List.mem_cons, List.not_mem_nil, or_false] at hl
      subst hl
      exact smLp_ok w _ _ _ _ _ _ _ _ hX hY
    rw [show sameC.f = 15 from rfl, same_tree]
    have hn : xs.length = n := by simpa using hX.1
    have hm : ys.length = m := by simpa using hY.1
    simp only [T.holds, and_self, true_and, and_true]
    refine ⟨fun hne => ?_, fun he => ?_⟩
    · refine ⟨_, [_], hK, rfl, .cons (.av rfl fun _ => ?_) .nil⟩
      have : xs ≠ ys := by rintro rfl; simp at hne; omega
      simp only [V.γ, Sc.γ, show decide (xs = ys) = false by simpa using this]
    · have he : (n : Int) = m := by simpa using he
      have he : n = m := by omega
      refine ⟨⟨by show (0:Int) ≤ 0; omega, by show (0:Int) ≤ n; omega, he.symm, big, fun j hj => by have : (j : Int) < 0 := hj; omega⟩, fun b => ⟨fun _ y => ?_, fun _ z => ?_⟩⟩
      · refine ⟨_, [_], hK, rfl, .cons (.av rfl fun _ => ?_) .nil⟩
        simp only [V.γ, Sc.γ, show decide (xs = ys) = true by simpa using y.so.eq]
      · refine ⟨_, [_], hK, rfl, .cons (.av rfl fun _ => ?_) .nil⟩
        simp only [V.γ, Sc.γ, show decide (xs = ys) = false by simpa using z.so.ne]
  · cases h
structure haP where
structure haX where
  i : Int
  h : Int
def haSt (A : Option Addr) (X : List Int) (n cap : Nat) : haP → haX → ASt := fun ⟨⟩ ⟨i, h⟩ => ⟨slots (List.replicate 19 .any) [(0, .v (.one (.xr A [.u8] X n cap))), (3, .v (.one (.int false .u64 h))), (6, .v (.one (.xr A [.u8] X n cap))), (7, .v (.one (.int false .i64 (n : Int)))), (8, .v (.one (.int false .i64 i)))], []⟩
def haFin (A : Option Addr) (X : List Int) (n cap : Nat) : haP → haX → ASt := fun ⟨⟩ ⟨i, h⟩ => ⟨slots (List.replicate 19 .any) [(0, .v (.one (.xr A [.u8] X n cap))), (3, .v (.one (.int false .u64 h))), (6, .v (.one (.xr A [.u8] X n cap))), (7, .v (.one (.int false .i64 (n : Int)))), (8, .v (.one (.int false .i64 i)))], []⟩
def haBck (A : Option Addr) (X : List Int) (n cap : Nat) : haP → Empty → ASt := fun _ z => nomatch z
def haNxP : ASt → Option haP := fun s => some ⟨⟩
def haNxX : ASt → Option haX := fun s => match gI s 8 with | none => none | some i => match gI s 3 with | none => none | some h => some ⟨i, h⟩
def haNxZ : ASt → Option Empty := fun _ => none
def haRo : ASt → List (Option Nat) := (fun _ => [])
def haRf : ASt → List (Option Nat) := (fun _ => [])
def haRb : ASt → List (Option Nat) := (fun _ => [])
structure haInv (A : Option Addr) (X : List Int) (n cap : Nat) (p : haP) (x : haX) : Prop where
  i0 : 0 ≤ x.i
  i1 : x.i ≤ n
  big : n ≤ 1000000000
  by_ : Bs X
  eq : x.h = hashL (X.take x.i.toNat)
structure haPost (A : Option Addr) (X : List Int) (n cap : Nat) (p : haP) (x : haX) : Prop where
  eq : x.h = hashL X
def haBack (A : Option Addr) (X : List Int) (n cap : Nat) (p : haP) (x : Empty) : Prop := False
def haLp (A : Option Addr) (X : List Int) (n cap : Nat) : Lp := ⟨16, 0, fun s => match haNxP s with
  | some p => match haNxX s with
    | some x => some (loopT 0 0 false haRo (haSt A X n cap p) (haFin A X n cap p) (haBck A X n cap p) (haInv A X n cap p) (haPost A X n cap p) (haBack A X n cap p) s x)
    | none => none
  | none => none⟩
theorem hastep_tree (w : World) (A : Option Addr) (X : List Int) (n cap : Nat) (i : Int) (h : Int) :
    roundT Try.prog w (flatT Try.prog) (noCtr) (callT Try.prog w (flatT Try.prog) (noCtr) (noPre) (noLoop) 20) ((noLoop) 16) (roundOf (bodyAt Try.prog 16 0)) 0 0 haRo haRf haRb (haSt A X n cap ⟨⟩) (haFin A X n cap ⟨⟩) (haBck A X n cap ⟨⟩) haNxX haNxX haNxZ ⟨i, h⟩ =
(.br (decide (i < (↑n : Int)))
 (.chk (sym.XR w A [IntKind.u8] X n ∧ (0 : Int) ≤ i ∧ i < (↑n : Int) ∧ (0 : Nat) < [IntKind.u8].length)
 (.chk (sym.XC w A [IntKind.u8] X ∧
  (0 : Nat) < (1 : Nat) ∧ i.toNat * [IntKind.u8].length + (1 : Nat) ≤ X.length)
 (.chk (A = A ∧ [IntKind.u8] = [IntKind.u8] ∧ X = X ∧ n = n ∧ cap = cap)
 (.chk (IntKind.u64 = IntKind.u64 ∧
  IntKind.u64.wrap
      (bits BinOp.xor IntKind.u64 h
          (IntKind.u64.wrap (X.getD (i.toNat * [IntKind.u8].length + (0 : Nat)) (0 : Int))) *
        (1099511628211 : Int)) =
    IntKind.u64.wrap
      (bits BinOp.xor IntKind.u64 h
          (IntKind.u64.wrap (X.getD (i.toNat * [IntKind.u8].length + (0 : Nat)) (0 : Int))) *
        (1099511628211 : Int)))
 (.chk (A = A ∧ [IntKind.u8] = [IntKind.u8] ∧ X = X ∧ n = n ∧ cap = cap)
 (.chk (IntKind.i64 = IntKind.i64 ∧ (↑n : Int) = (↑n : Int))
 (.chk (IntKind.i64 = IntKind.i64 ∧ IntKind.i64.wrap (i + (1 : Int)) = IntKind.i64.wrap (i + (1 : Int)))
 (.leaf (.inl ⟨IntKind.i64.wrap (i + (1 : Int)), IntKind.u64.wrap
  (bits BinOp.xor IntKind.u64 h
      (IntKind.u64.wrap (X.getD (i.toNat * [IntKind.u8].length + (0 : Nat)) (0 : Int))) *
    (1099511628211 : Int))⟩)))))))))
 (.chk (A = A ∧ [IntKind.u8] = [IntKind.u8] ∧ X = X ∧ n = n ∧ cap = cap)
 (.chk (IntKind.u64 = IntKind.u64 ∧ h = h)
 (.chk (A = A ∧ [IntKind.u8] = [IntKind.u8] ∧ X = X ∧ n = n ∧ cap = cap)
 (.chk (IntKind.i64 = IntKind.i64 ∧ (↑n : Int) = (↑n : Int))
 (.chk (IntKind.i64 = IntKind.i64 ∧ i = i)
 (.leaf (.inr (.inl ⟨i, h⟩))))))))) := by kernel_rfl
theorem hash_tree (w : World) (A : Option Addr) (X : List Int) (n cap : Nat) :
    callT Try.prog w (flatT Try.prog) (noCtr) (noPre) (lpOf Try.prog [haLp A X n cap]) 20 16 [.v (.one (.xr A [.u8] X n cap))] [] =
(.chk (sym.textAt Go.Proofs.Try.prog (16 : Go.FuncId) (0 : Nat) = sym.textAt Go.Proofs.Try.prog (16 : Go.FuncId) (0 : Nat))
(.chk (A = A ∧ [IntKind.u8] = [IntKind.u8] ∧ X = X ∧ n = n ∧ cap = cap)
(.chk (IntKind.u64 = IntKind.u64 ∧ (14695981039346656037 : Int) = (14695981039346656037 : Int))
(.chk (A = A ∧ [IntKind.u8] = [IntKind.u8] ∧ X = X ∧ n = n ∧ cap = cap)
(.chk (IntKind.i64 = IntKind.i64 ∧ (↑n : Int) = (↑n : Int))
(.chk (IntKind.i64 = IntKind.i64 ∧ (0 : Int) = (0 : Int))
(.chk (haInv A X n cap { } { i := (0 : Int), h := (14695981039346656037 : Int) })
(.all fun x : sym.Got haX (haPost A X n cap { }) =>
 (.leaf ((.v (.one (.int false .u64 (x.1.2)))), [])))))))))) := by kernel_rfl
def haMu (A : Option Addr) (X : List Int) (n cap : Nat) (p : haP) (x : haX) : Nat := (n - x.i).toNat
theorem ha_step (w : World) (A : Option Addr) (X : List Int) (n cap : Nat) (p : haP) (x : haX) (hX : XR w A [.u8] X n) (h : haInv A X n cap p x) : Hid (roundT Try.prog w (flatT Try.prog) (noCtr) (callT Try.prog w (flatT Try.prog) (noCtr) (noPre) (noLoop) 20) ((noLoop) 16) (roundOf (bodyAt Try.prog 16 0)) 0 0 haRo haRf haRb (haSt A X n cap p) (haFin A X n cap p) (haBck A X n cap p) haNxX haNxX haNxZ x) (Kept (haInv A X n cap p) (haPost A X n cap p) (haBack A X n cap p) (haMu A X n cap p) x) := by
  obtain ⟨⟩ := p
  obtain ⟨i, h⟩ := x
  constructor
  rw [hastep_tree]
  simp only [T.holds, Kept, haMu, and_self, true_and, and_true]
  obtain ⟨i0, i1, big, by_, eq⟩ := h
  simp only at i0 i1 big by_ eq
  simp only [List.length_singleton, Nat.mul_one, Nat.add_zero, Nat.zero_lt_one, true_and, and_true]
  have hn : X.length = n := by simpa using hX.1
  refine ⟨fun hlt => ?_, fun hge => ?_⟩
  · have hi : i < (n : Int) := by simpa using hlt
    have hw : IntKind.i64.wrap (i + 1) = i + 1 := wi64 _ (by omega) (by omega)
    rw [hw]
    refine ⟨⟨hX, i0, hi⟩, ⟨hX.2, by omega⟩, ⟨by show 0 ≤ i + 1; omega, by show i + 1 ≤ n; omega, big, by_, ?_⟩, by omega⟩
    show _ = hashL (X.take (i + 1).toNat)
    rw [show (i + 1).toNat = i.toNat + 1 by omega, hash_take X (by omega), ← eq]
    rfl
  · have hi : ¬ i < (n : Int) := by simpa using hge
    refine ⟨?_⟩
    show h = hashL X
    rw [eq, List.take_of_length_le (by omega)]
theorem haLp_ok (w : World) (A : Option Addr) (X : List Int) (n cap : Nat) (hX : XR w A [.u8] X n) : (haLp A X n cap).ok Try.prog w := by
  intro s t h
  unfold haLp at h
  simp only at h
  split at h
  · rename_i p _
    split at h
    · rename_i x _
      cases h
      exact loop_ok base2 (ctrs_none _ w) (callT_ok base2.mixed base2.names base2.eqs (ctrs_none _ w).ok (ctrs_none _ w).there (pre_none _ _) (loops_none _ _) 20) ((loops_none _ _) 16) (c := roundOf (bodyAt Try.prog 16 0)) (by kernel_rfl) (id := 0) (n := 0) (hr := false) (ro := haRo) (rf := haRf) (rr := haRb) (st := haSt A X n cap p) (fin := haFin A X n cap p) (bck := haBck A X n cap p) (inv := haInv A X n cap p) (post := haPost A X n cap p) (back := haBack A X n cap p) (nx := haNxX) (fx := haNxX) (bx := haNxZ) (haMu A X n cap p) (nf := 0) (nf' := 0) (nf'' := 0) (fun x => by kernel_rfl) (fun y => by kernel_rfl) (fun z => nomatch z) (.inr fun z => nomatch z) (fun x hx => ha_step w A X n cap p x hX hx) s x
    · cases h
  · cases h
def hashC : RCtr := ⟨16, [some [.u8]], fun | [.row [.u8] n xs] => some (.chk (n ≤ 1000000000 ∧ Bs xs) (.leaf [.av (.one (.int false .u64 (hashL xs)))])) | _ => none⟩
theorem hashC_ok : hashC.Ok Try.prog := by
  refine rctr_ok base2 ⟨_, Try.func16, rfl⟩ (ctr := fun w => noCtr) (fun w => ctrs_none _ w) (pre := fun w => noPre) (fun w => pre_none _ w) (n := 20) fun w cas args t h ha K hK => ?_
  unfold hashC at h
  simp only at h
  split at h
  · cases h
    obtain ⟨y0, rfl, q0⟩ := all2_1 ha
    obtain ⟨a, c, rfl, hX, hc⟩ := argRow q0
    rename_i n xs
    obtain ⟨⟨big, hb⟩, hK⟩ := hK
    refine ⟨lpOf Try.prog [haLp a xs n c], lps_ok fun l hl => ?_, ?_⟩
    · simp only [List.mem_cons, List.not_mem_nil, or_false] at hl
      subst hl
      exact haLp_ok w _ _ _ _ hX
    rw [show hashC.f = 16 from rfl, hash_tree]
    simp only [T.holds, and_self, true_and, and_true]
    refine ⟨⟨by show (0:Int) ≤ 0; omega, by show (0:Int) ≤ n; omega, big, hb, rfl⟩, fun y => ⟨_, [_], hK, rfl, .cons (.av rfl fun _ => ?_) .nil⟩⟩
    rw [y.so.eq]
  · cases h
structure hrP where
structure hrX where
  i : Int
  h : Int
def hrSt (A : Option Addr) (X : List Int) (n cap : Nat) : hrP → hrX → ASt := fun ⟨⟩ ⟨i, h⟩ => ⟨slots (List.replicate 28 .any) [(0, .v (.one (.xr A [.u8] X n cap))), (3, .v (.one (.int false .u64 h))), (6, .v (.one (.xr A [.u8] X n cap))), (7, .v (.one (.int false .i64 (n : Int)))), (8, .v (.one (.int false .i64 i)))], []⟩
def hrFin (A : Option Addr) (X : List Int) (n cap : Nat) : hrP → hrX → ASt := fun ⟨⟩ ⟨i, h⟩ => ⟨slots (List.replicate 28 .any) [(0, .v (.one (.xr A [.u8] X n cap))), (3, .v (.one (.int false .u64 h))), (6, .v (.one (.xr A [.u8] X n cap))), (7, .v (.one (.int false .i64 (n : Int)))), (8, .v (.one (.int false .i64 i)))], []⟩
def hrBck (A : Option Addr) (X : List Int) (n cap : Nat) : hrP → Empty → ASt := fun _ z => nomatch z
def hrNxP : ASt → Option hrP := fun s => some ⟨⟩
def hrNxX : ASt → Option hrX := fun s => match gI s 8 with | none => none | some i => match gI s 3 with | none => none | some h => some ⟨i, h⟩
def hrNxZ : ASt → Option Empty := fun _ => none
def hrRo : ASt → List (Option Nat) := (fun _ => [])
def hrRf : ASt → List (Option Nat) := (fun _ => [])
def hrRb : ASt → List (Option Nat) := (fun _ => [])
structure hrInv (A : Option Addr) (X : List Int) (n cap : Nat) (p : hrP) (x : hrX) : Prop where
  i0 : 0 ≤ x.i
  i1 : x.i ≤ n
  big : n ≤ 1000000000
  by_ : Bs X
  eq : x.h = hashL (X.take x.i.toNat)
structure hrPost (A : Option Addr) (X : List Int) (n cap : Nat) (p : hrP) (x : hrX) : Prop where
  eq : x.h = hashL X
def hrBack (A : Option Addr) (X : List Int) (n cap : Nat) (p : hrP) (x : Empty) : Prop := False
def hrLp (A : Option Addr) (X : List Int) (n cap : Nat) : Lp := ⟨17, 0, fun s => match hrNxP s with
  | some p => match hrNxX s with
    | some x => some (loopT 0 0 false hrRo (hrSt A X n cap p) (hrFin A X n cap p) (hrBck A X n cap p) (hrInv A X n cap p) (hrPost A X n cap p) (hrBack A X n cap p) s x)
    | none => none
  | none => none⟩
theorem hrstep_tree (w : World) (A : Option Addr) (X : List Int) (n cap : Nat) (i : Int) (h : Int) :
    roundT Try.prog w (flatT Try.prog) (noCtr) (callT Try.prog w (flatT Try.prog) (noCtr) (noPre) (noLoop) 20) ((noLoop) 17) (roundOf (bodyAt Try.prog 17 0)) 0 0 hrRo hrRf hrRb (hrSt A X n cap ⟨⟩) (hrFin A X n cap ⟨⟩) (hrBck A X n cap ⟨⟩) hrNxX hrNxX hrNxZ ⟨i, h⟩ =
(.br (decide (i < (↑n : Int)))
 (.chk (sym.XR w A [IntKind.u8] X n ∧ (0 : Int) ≤ i ∧ i < (↑n : Int) ∧ (0 : Nat) < [IntKind.u8].length)
 (.chk (sym.XC w A [IntKind.u8] X ∧
  (0 : Nat) < (1 : Nat) ∧ i.toNat * [IntKind.u8].length + (1 : Nat) ≤ X.length)
 (.chk (A = A ∧ [IntKind.u8] = [IntKind.u8] ∧ X = X ∧ n = n ∧ cap = cap)
 (.chk (IntKind.u64 = IntKind.u64 ∧
  IntKind.u64.wrap
      (IntKind.u64.wrap
          (IntKind.u64.wrap (h - h.tmod (256 : Int)) +
            bits BinOp.xor IntKind.u64 (h.tmod (256 : Int))
              (IntKind.u64.wrap (X.getD (i.toNat * [IntKind.u8].length + (0 : Nat)) (0 : Int)))) *
        (1099511628211 : Int)) =
    IntKind.u64.wrap
      (IntKind.u64.wrap
          (IntKind.u64.wrap (h - h.tmod (256 : Int)) +
            bits BinOp.xor IntKind.u64 (h.tmod (256 : Int))
              (IntKind.u64.wrap (X.getD (i.toNat * [IntKind.u8].length + (0 : Nat)) (0 : Int)))) *
        (1099511628211 : Int)))
 (.chk (A = A ∧ [IntKind.u8] = [IntKind.u8] ∧ X = X ∧ n = n ∧ cap = cap)
 (.chk (IntKind.i64 = IntKind.i64 ∧ (↑n : Int) = (↑n : Int))
 (.chk (IntKind.i64 = IntKind.i64 ∧ IntKind.i64.wrap (i + (1 : Int)) = IntKind.i64.wrap (i + (1 : Int)))
 (.leaf (.inl ⟨IntKind.i64.wrap (i + (1 : Int)), IntKind.u64.wrap
  (IntKind.u64.wrap
      (IntKind.u64.wrap (h - h.tmod (256 : Int)) +
        bits BinOp.xor IntKind.u64 (h.tmod (256 : Int))
          (IntKind.u64.wrap (X.getD (i.toNat * [IntKind.u8].length + (0 : Nat)) (0 : Int)))) *
    (1099511628211 : Int))⟩)))))))))
 (.chk (A = A ∧ [IntKind.u8] = [IntKind.u8] ∧ X = X ∧ n = n ∧ cap = cap)
 (.chk (IntKind.u64 = IntKind.u64 ∧ h = h)
 (.chk (A = A ∧ [IntKind.u8] = [IntKind.u8] ∧ X = X ∧ n = n ∧ cap = cap)
 (.chk (IntKind.i64 = IntKind.i64 ∧ (↑n : Int) = (↑n : Int))
 (.chk (IntKind.i64 = IntKind.i64 ∧ i = i)
 (.leaf (.inr (.inl ⟨i, h⟩))))))))) := by kernel_rfl
theorem rhash_tree (w : World) (A : Option Addr) (X : List Int) (n cap : Nat) :
    callT Try.prog w (flatT Try.prog) (noCtr) (noPre) (lpOf Try.prog [hrLp A X n cap]) 20 17 [.v (.one (.xr A [.u8] X n cap))] [] =
(.chk (sym.textAt Go.Proofs.Try.prog (17 : Go.FuncId) (0 : Nat) = sym.textAt Go.Proofs.Try.prog (17 : Go.FuncId) (0 : Nat))
(.chk (A = A ∧ [IntKind.u8] = [IntKind.u8] ∧ X = X ∧ n = n ∧ cap = cap)
(.chk (IntKind.u64 = IntKind.u64 ∧ (14695981039346656037 : Int) = (14695981039346656037 : Int))
(.chk (A = A ∧ [IntKind.u8] = [IntKind.u8] ∧ X = X ∧ n = n ∧ cap = cap)
(.chk (IntKind.i64 = IntKind.i64 ∧ (↑n : Int) = (↑n : Int))
(.chk (IntKind.i64 = IntKind.i64 ∧ (0 : Int) = (0 : Int))
(.chk (hrInv A X n cap { } { i := (0 : Int), h := (14695981039346656037 : Int) })
(.all fun x : sym.Got hrX (hrPost A X n cap { }) =>
 (.leaf ((.v (.one (.int false .u64 (x.1.2)))), [])))))))))) := by kernel_rfl
def hrMu (A : Option Addr) (X : List Int) (n cap : Nat) (p : hrP) (x : hrX) : Nat := (n - x.i).toNat
theorem hr_step (w : World) (A : Option Addr) (X : List Int) (n cap : Nat) (p : hrP) (x : hrX) (hX : XR w A [.u8] X n) (h : hrInv A X n cap p x) : Hid (roundT Try.prog w (flatT Try.prog) (noCtr) (callT Try.prog w (flatT Try.prog) (noCtr) (noPre) (noLoop) 20) ((noLoop) 17) (roundOf (bodyAt Try.prog 17 0)) 0 0 hrRo hrRf hrRb (hrSt A X n cap p) (hrFin A X n cap p) (hrBck A X n cap p) hrNxX hrNxX hrNxZ x) (Kept (hrInv A X n cap p) (hrPost A X n cap p) (hrBack A X n cap p) (hrMu A X n cap p) x) := by
  obtain ⟨⟩ := p
  obtain ⟨i, h⟩ := x
  constructor
  rw [hrstep_tree]
  simp only [T.holds, Kept, hrMu, and_self, true_and, and_true]
  obtain ⟨i0, i1, big, by_, eq⟩ := h
  simp only at i0 i1 big by_ eq
  simp only [List.length_singleton, Nat.mul_one, Nat.add_zero, Nat.zero_lt_one, true_and, and_true]
  have hn : X.length = n := by simpa using hX.1
  refine ⟨fun hlt => ?_, fun hge => ?_⟩
  · have hi : i < (n : Int) := by simpa using hlt
    have hw : IntKind.i64.wrap (i + 1) = i + 1 := wi64 _ (by omega) (by omega)
    rw [hw]
    refine ⟨⟨hX, i0, hi⟩, ⟨hX.2, by omega⟩, ⟨by show 0 ≤ i + 1; omega, by show i + 1 ≤ n; omega, big, by_, ?_⟩, by omega⟩
    show _ = hashL (X.take (i + 1).toNat)
    rw [show (i + 1).toNat = i.toNat + 1 by omega, hash_take X (by omega), ← eq]
    exact rstep (by rw [eq]; exact hashL_in _) (by_ _)
  · have hi : ¬ i < (n : Int) := by simpa using hge
    refine ⟨?_⟩
    show h = hashL X
    rw [eq, List.take_of_length_le (by omega)]
theorem hrLp_ok (w : World) (A : Option Addr) (X : List Int) (n cap : Nat) (hX : XR w A [.u8] X n) : (hrLp A X n cap).ok Try.prog w := by
  intro s t h
  unfold hrLp at h
  simp only at h
  split at h
  · rename_i p _
    split at h
    · rename_i x _
      cases h
      exact loop_ok base2 (ctrs_none _ w) (callT_ok base2.mixed base2.names base2.eqs (ctrs_none _ w).ok (ctrs_none _ w).there (pre_none _ _) (loops_none _ _) 20) ((loops_none _ _) 17) (c := roundOf (bodyAt Try.prog 17 0)) (by kernel_rfl) (id := 0) (n := 0) (hr := false) (ro := hrRo) (rf := hrRf) (rr := hrRb) (st := hrSt A X n cap p) (fin := hrFin A X n cap p) (bck := hrBck A X n cap p) (inv := hrInv A X n cap p) (post := hrPost A X n cap p) (back := hrBack A X n cap p) (nx := hrNxX) (fx := hrNxX) (bx := hrNxZ) (hrMu A X n cap p) (nf := 0) (nf' := 0) (nf'' := 0) (fun x => by kernel_rfl) (fun y => by kernel_rfl) (fun z => nomatch z) (.inr fun z => nomatch z) (fun x hx => hr_step w A X n cap p x hX hx) s x
    · cases h
  · cases h
def rhashC : RCtr := ⟨17, [some [.u8]], fun | [.row [.u8] n xs] => some (.chk (n ≤ 1000000000 ∧ Bs xs) (.leaf [.av (.one (.int false .u64 (hashL xs)))])) | _ => none⟩
theorem rhashC_ok : rhashC.Ok Try.prog := by
  refine rctr_ok base2 ⟨_, Try.func17, rfl⟩ (ctr := fun w => noCtr) (fun w => ctrs_none _ w) (pre := fun w => noPre) (fun w => pre_none _ w) (n := 20) fun w cas args t h ha K hK => ?_
  unfold rhashC at h
  simp only at h
  split at h
  · cases h
    obtain ⟨y0, rfl, q0⟩ := all2_1 ha
    obtain ⟨a, c, rfl, hX, hc⟩ := argRow q0
    rename_i n xs
    obtain ⟨⟨big, hb⟩, hK⟩ := hK
    refine ⟨lpOf Try.prog [hrLp a xs n c], lps_ok fun l hl => ?_, ?_⟩
    · simp only [List.mem_cons, List.not_mem_nil, or_false] at hl
      subst hl
      exact hrLp_ok w _ _ _ _ hX
    rw [show rhashC.f = 17 from rfl, rhash_tree]
    simp only [T.holds, and_self, true_and, and_true]
    refine ⟨⟨by show (0:Int) ≤ 0; omega, by show (0:Int) ≤ n; omega, big, hb, rfl⟩, fun y => ⟨_, [_], hK, rfl, .cons (.av rfl fun _ => ?_) .nil⟩⟩
    rw [y.so.eq]
  · cases h
structure alP where
structure alX where
  i : Int
def alSt (A : Option Addr) (X : List Int) (n cap : Nat) (A2 : Option Addr) (Y : List Int) (m cap2 : Nat) : alP → alX → ASt := fun ⟨⟩ ⟨i⟩ => ⟨slots (List.replicate 24 .any) [(0, .v (.one (.xr A [.u8] X n cap))), (1, .v (.one (.xr A2 [.u8] Y m cap2))), (5, .v (.one (.int false .i64 i)))], []⟩
def alFin (A : Option Addr) (X : List Int) (n cap : Nat) (A2 : Option Addr) (Y : List Int) (m cap2 : Nat) : alP → alX → ASt := fun ⟨⟩ ⟨i⟩ => ⟨slots (List.replicate 24 .any) [(0, .v (.one (.xr A [.u8] X n cap))), (1, .v (.one (.xr A2 [.u8] Y m cap2))), (5, .v (.one (.int false .i64 i)))], []⟩
def alBck (A : Option Addr) (X : List Int) (n cap : Nat) (A2 : Option Addr) (Y : List Int) (m cap2 : Nat) : alP → Empty → ASt := fun _ z => nomatch z
def alNxP : ASt → Option alP := fun s => some ⟨⟩
def alNxX : ASt → Option alX := fun s => match gI s 5 with | none => none | some i => some ⟨i⟩
def alNxZ : ASt → Option Empty := fun _ => none
def alRo : ASt → List (Option Nat) := (fun _ => [])
def alRf : ASt → List (Option Nat) := (fun _ => [])
def alRb : ASt → List (Option Nat) := (fun _ => [])
structure alInv (A : Option Addr) (X : List Int) (n cap : Nat) (A2 : Option Addr) (Y : List Int) (m cap2 : Nat) (p : alP) (x : alX) : Prop where
  i0 : 0 ≤ x.i
  i1 : x.i ≤ m
  mn : m ≤ n
  big : n ≤ 1000000000
  eq : ∀ j : Nat, (j : Int) < x.i → X.getD j 0 = Y.getD j 0
structure alPost (A : Option Addr) (X : List Int) (n cap : Nat) (A2 : Option Addr) (Y : List Int) (m cap2 : Nat) (p : alP) (x : alX) : Prop where
  eq : x.i = lcp X Y
def alBack (A : Option Addr) (X : List Int) (n cap : Nat) (A2 : Option Addr) (Y : List Int) (m cap2 : Nat) (p : alP) (x : Empty) : Prop := False
def alLp (A : Option Addr) (X : List Int) (n cap : Nat) (A2 : Option Addr) (Y : List Int) (m cap2 : Nat) : Lp := ⟨18, 0, fun s => match alNxP s with
  | some p => match alNxX s with
    | some x => some (loopT 0 0 false alRo (alSt A X n cap A2 Y m cap2 p) (alFin A X n cap A2 Y m cap2 p) (alBck A X n cap A2 Y m cap2 p) (alInv A X n cap A2 Y m cap2 p) (alPost A X n cap A2 Y m cap2 p) (alBack A X n cap A2 Y m cap2 p) s x)
    | none => none
  | none => none⟩
theorem alstep_tree (w : World) (A : Option Addr) (X : List Int) (n cap : Nat) (A2 : Option Addr) (Y : List Int) (m cap2 : Nat) (i : Int) :
    roundT Try.prog w (flatT Try.prog) (noCtr) (callT Try.prog w (flatT Try.prog) (noCtr) (noPre) (noLoop) 20) ((noLoop) 18) (roundOf (bodyAt Try.prog 18 0)) 0 0 alRo alRf alRb (alSt A X n cap A2 Y m cap2 ⟨⟩) (alFin A X n cap A2 Y m cap2 ⟨⟩) (alBck A X n cap A2 Y m cap2 ⟨⟩) alNxX alNxX alNxZ ⟨i⟩ =
(.br (decide (i < (↑m : Int)))
 (.chk (sym.XR w A [IntKind.u8] X n ∧ (0 : Int) ≤ i ∧ i < (↑n : Int) ∧ (0 : Nat) < [IntKind.u8].length)
 (.chk (sym.XC w A [IntKind.u8] X ∧
  (0 : Nat) < (1 : Nat) ∧ i.toNat * [IntKind.u8].length + (1 : Nat) ≤ X.length)
 (.chk (sym.XR w A2 [IntKind.u8] Y m ∧ (0 : Int) ≤ i ∧ i < (↑m : Int) ∧ (0 : Nat) < [IntKind.u8].length)
 (.chk (sym.XC w A2 [IntKind.u8] Y ∧
  (0 : Nat) < (1 : Nat) ∧ i.toNat * [IntKind.u8].length + (1 : Nat) ≤ Y.length)
 (.br (X.getD (i.toNat * [IntKind.u8].length + (0 : Nat)) (0 : Int) ==
  Y.getD (i.toNat * [IntKind.u8].length + (0 : Nat)) (0 : Int))
  (.chk (A = A ∧ [IntKind.u8] = [IntKind.u8] ∧ X = X ∧ n = n ∧ cap = cap)
  (.chk (A2 = A2 ∧ [IntKind.u8] = [IntKind.u8] ∧ Y = Y ∧ m = m ∧ cap2 = cap2)
  (.chk (IntKind.i64 = IntKind.i64 ∧ IntKind.i64.wrap (i + (1 : Int)) = IntKind.i64.wrap (i + (1 : Int)))
  (.leaf (.inl ⟨IntKind.i64.wrap (i + (1 : Int))⟩)))))
  (.chk (A = A ∧ [IntKind.u8] = [IntKind.u8] ∧ X = X ∧ n = n ∧ cap = cap)
  (.chk (A2 = A2 ∧ [IntKind.u8] = [IntKind.u8] ∧ Y = Y ∧ m = m ∧ cap2 = cap2)
  (.chk (IntKind.i64 = IntKind.i64 ∧ i = i)
  (.leaf (.inr (.inl ⟨i⟩)))))))))))
 (.chk (A = A ∧ [IntKind.u8] = [IntKind.u8] ∧ X = X ∧ n = n ∧ cap = cap)
 (.chk (A2 = A2 ∧ [IntKind.u8] = [IntKind.u8] ∧ Y = Y ∧ m = m ∧ cap2 = cap2)
 (.chk (IntKind.i64 = IntKind.i64 ∧ i = i)
 (.leaf (.inr (.inl ⟨i⟩))))))) := by kernel_rfl
theorem alike_tree (w : World) (A : Option Addr) (X : List Int) (n cap : Nat) (A2 : Option Addr) (Y : List Int) (m cap2 : Nat) :
    callT Try.prog w (flatT Try.prog) (noCtr) (noPre) (lpOf Try.prog [alLp A X n cap A2 Y m cap2]) 20 18 [.v (.one (.xr A [.u8] X n cap)), .v (.one (.xr A2 [.u8] Y m cap2))] [] =
(.chk (sym.textAt Go.Proofs.Try.prog (18 : Go.FuncId) (0 : Nat) = sym.textAt Go.Proofs.Try.prog (18 : Go.FuncId) (0 : Nat))
(.chk (A = A ∧ [IntKind.u8] = [IntKind.u8] ∧ X = X ∧ n = n ∧ cap = cap)
(.chk (A2 = A2 ∧ [IntKind.u8] = [IntKind.u8] ∧ Y = Y ∧ m = m ∧ cap2 = cap2)
(.chk (IntKind.i64 = IntKind.i64 ∧ (0 : Int) = (0 : Int))
(.chk (alInv A X n cap A2 Y m cap2 { } { i := (0 : Int) })
(.all fun x : sym.Got alX
  (alPost A X n cap A2 Y m cap2 { }) =>
 (.leaf ((.v (.one (.int false .i64 (x.1.1)))), [])))))))) := by kernel_rfl
def alMu (A : Option Addr) (X : List Int) (n cap : Nat) (A2 : Option Addr) (Y : List Int) (m cap2 : Nat) (p : alP) (x : alX) : Nat := (m - x.i).toNat
theorem al_step (w : World) (A : Option Addr) (X : List Int) (n cap : Nat) (A2 : Option Addr) (Y : List Int) (m cap2 : Nat) (p : alP) (x : alX) (hX : XR w A [.u8] X n) (hY : XR w A2 [.u8] Y m) (h : alInv A X n cap A2 Y m cap2 p x) : Hid (roundT Try.prog w (flatT Try.prog) (noCtr) (callT Try.prog w (flatT Try.prog) (noCtr) (noPre) (noLoop) 20) ((noLoop) 18) (roundOf (bodyAt Try.prog 18 0)) 0 0 alRo alRf alRb (alSt A X n cap A2 Y m cap2 p) (alFin A X n cap A2 Y m cap2 p) (alBck A X n cap A2 Y m cap2 p) alNxX alNxX alNxZ x) (Kept (alInv A X n cap A2 Y m cap2 p) (alPost A X n cap A2 Y m cap2 p) (alBack A X n cap A2 Y m cap2 p) (alMu A X n cap A2 Y m cap2 p) x) := by
  obtain ⟨⟩ := p
  obtain ⟨i⟩ := x
  constructor
  rw [alstep_tree]
  simp only [T.holds, Kept, alMu, and_self, true_and, and_true]
  obtain ⟨i0, i1, mn, big, eq⟩ := h
  simp only at i0 i1 mn big eq
  simp only [List.length_singleton, Nat.mul_one, Nat.add_zero, Nat.zero_lt_one, true_and, and_true]
  have hn : X.length = n := by simpa using hX.1
  have hm : Y.length = m := by simpa using hY.1
  have out : ∀ stop : (i.toNat = Y.length ∨ i.toNat = X.length ∨ X.getD i.toNat 0 ≠ Y.getD i.toNat 0), i = (lcp X Y : Nat) := fun stop => by
    rw [lcp_is i.toNat X Y (by omega) (by omega) (fun j hj => eq j (by omega)) stop]; omega
  refine ⟨fun hlt => ?_, fun hge => ?_⟩
  · have hi : i < (m : Int) := by simpa using hlt
    have hw : IntKind.i64.wrap (i + 1) = i + 1 := wi64 _ (by omega) (by omega)
    refine ⟨⟨hX, i0, by omega⟩, ⟨hX.2, by omega⟩, ⟨hY, i0, hi⟩, ⟨hY.2, by omega⟩, fun he => ?_, fun hne => ⟨out (.inr (.inr (by simpa using hne)))⟩⟩
    rw [hw]
    refine ⟨⟨by show 0 ≤ i + 1; omega, by show i + 1 ≤ m; omega, mn, big, fun j hj => ?_⟩, by omega⟩
    have hj : (j : Int) < i + 1 := hj
    by_cases e : (j : Int) = i
    · have : i.toNat = j := by omega
      rw [this] at he
      simpa using he
    · exact eq j (by omega)
  · have hi : ¬ i < (m : Int) := by simpa using hge
    exact ⟨out (.inl (by omega))⟩
theorem alLp_ok (w : World) (A : Option Addr) (X : List Int) (n cap : Nat) (A2 : Option Addr) (Y : List Int) (m cap2 : Nat) (hX : XR w A [.u8] X n) (hY : XR w A2 [.u8] Y m) : (alLp A X n cap A2 Y m cap2).ok Try.prog w := by
  intro s t h
  unfold alLp at h
  simp only at h
  split at h
  · rename_i p _
    split at h
    · rename_i x _
      cases h
      exact loop_ok base2 (ctrs_none _ w) (callT_ok base2.mixed base2.names base2.eqs (ctrs_none _ w).ok (ctrs_none _ w).there (pre_none _ _) (loops_none _ _) 20) ((loops_none _ _) 18) (c := roundOf (bodyAt Try.prog 18 0)) (by kernel_rfl) (id := 0) (n := 0) (hr := false) (ro := alRo) (rf := alRf) (rr := alRb) (st := alSt A X n cap A2 Y m cap2 p) (fin := alFin A X n cap A2 Y m cap2 p) (bck := alBck A X n cap A2 Y m cap2 p) (inv := alInv A X n cap A2 Y m cap2 p) (post := alPost A X n cap A2 Y m cap2 p) (back := alBack A X n cap A2 Y m cap2 p) (nx := alNxX) (fx := alNxX) (bx := alNxZ) (alMu A X n cap A2 Y m cap2 p) (nf := 0) (nf' := 0) (nf'' := 0) (fun x => by kernel_rfl) (fun y => by kernel_rfl) (fun z => nomatch z) (.inr fun z => nomatch z) (fun x hx => al_step w A X n cap A2 Y m cap2 p x hX hY hx) s x
    · cases h
  · cases h
def alikeC : RCtr := ⟨18, [some [.u8], some [.u8]], fun | [.row [.u8] n xs, .row [.u8] m ys] => some (.chk (n ≤ 1000000000 ∧ m ≤ n) (.leaf [.av (.one (.int false .i64 (lcp xs ys : Nat)))])) | _ => none⟩
theorem alikeC_ok : alikeC.Ok Try.prog := by
  refine rctr_ok base2 ⟨_, Try.func18, rfl⟩ (ctr := fun w => noCtr) (fun w => ctrs_none _ w) (pre := fun w => noPre) (fun w => pre_none _ w) (n := 20) fun w cas args t h ha K hK => ?_
  unfold alikeC at h
  simp only at h
  split at h
  · cases h
    obtain ⟨y0, y1, rfl, q0, q1⟩ := all2_2 ha
    obtain ⟨a, c, rfl, hX, hc⟩ := argRow q0
    obtain ⟨a2, c2, rfl, hY, hc2⟩ := argRow q1
    rename_i n xs m ys
    obtain ⟨⟨big, hmn⟩, hK⟩ := hK
    refine ⟨lpOf Try.prog [alLp a xs n c a2 ys m c2], lps_ok fun l hl => ?_, ?_⟩
    · simp only [List.mem_cons, List.not_mem_nil, or_false] at hl
      subst hl
      exact alLp_ok w _ _ _ _ _ _ _ _ hX hY
    rw [show alikeC.f = 18 from rfl, alike_tree]
    simp only [T.holds, and_self, true_and, and_true]
    refine ⟨⟨by show (0:Int) ≤ 0; omega, by show (0:Int) ≤ m; omega, hmn, big, fun j hj => by have : (j : Int) < 0 := hj; omega⟩, fun y => ⟨_, [_], hK, rfl, .cons (.av rfl fun _ => ?_) .nil⟩⟩
    rw [y.so.eq]
  · cases h
structure raP where
structure raX where
  i : Int
def raSt (A : Option Addr) (X : List Int) (n cap : Nat) (A2 : Option Addr) (Y : List Int) (m cap2 : Nat) (k : Nat) : raP → raX → ASt := fun ⟨⟩ ⟨i⟩ => ⟨slots (List.replicate 32 .any) [(0, .v (.one (.xr A [.u8] X n cap))), (1, .v (.one (.xr A2 [.u8] Y m cap2))), (2, .v (.one (.int false .i64 (k : Int)))), (7, .v (.one (.int false .i64 i)))], []⟩
def raFin (A : Option Addr) (X : List Int) (n cap : Nat) (A2 : Option Addr) (Y : List Int) (m cap2 : Nat) (k : Nat) : raP → raX → ASt := fun ⟨⟩ ⟨i⟩ => ⟨slots (List.replicate 32 .any) [(0, .v (.one (.xr A [.u8] X n cap))), (1, .v (.one (.xr A2 [.u8] Y m cap2))), (2, .v (.one (.int false .i64 (k : Int)))), (7, .v (.one (.int false .i64 i)))], []⟩
def raBck (A : Option Addr) (X : List Int) (n cap : Nat) (A2 : Option Addr) (Y : List Int) (m cap2 : Nat) (k : Nat) : raP → Empty → ASt := fun _ z => nomatch z
def raNxP : ASt → Option raP := fun s => some ⟨⟩
def raNxX : ASt → Option raX := fun s => match gI s 7 with | none => none | some i => some ⟨i⟩
def raNxZ : ASt → Option Empty := fun _ => none
def raRo : ASt → List (Option Nat) := (fun _ => [])
def raRf : ASt → List (Option Nat) := (fun _ => [])
def raRb : ASt → List (Option Nat) := (fun _ => [])
structure raInv (A : Option Addr) (X : List Int) (n cap : Nat) (A2 : Option Addr) (Y : List Int) (m cap2 : Nat) (k : Nat) (p : raP) (x : raX) : Prop where
  i0 : 0 ≤ x.i
  i1 : k + x.i ≤ m
  mn : m = n
  big : n ≤ 1000000000
  eq : ∀ j : Nat, (j : Int) < x.i → X.getD (k + j) 0 = Y.getD (k + j) 0
structure raPost (A : Option Addr) (X : List Int) (n cap : Nat) (A2 : Option Addr) (Y : List Int) (m cap2 : Nat) (k : Nat) (p : raP) (x : raX) : Prop where
  eq : x.i = lcp (X.drop k) (Y.drop k)
def raBack (A : Option Addr) (X : List Int) (n cap : Nat) (A2 : Option Addr) (Y : List Int) (m cap2 : Nat) (k : Nat) (p : raP) (x : Empty) : Prop := False
def raLp (A : Option Addr) (X : List Int) (n cap : Nat) (A2 : Option Addr) (Y : List Int) (m cap2 : Nat) (k : Nat) : Lp := ⟨21, 0, fun s => match raNxP s with
  | some p => match raNxX s with
    | some x => some (loopT 0 0 false raRo (raSt A X n cap A2 Y m cap2 k p) (raFin A X n cap A2 Y m cap2 k p) (raBck A X n cap A2 Y m cap2 k p) (raInv A X n cap A2 Y m cap2 k p) (raPost A X n cap A2 Y m cap2 k p) (raBack A X n cap A2 Y m cap2 k p) s x)
    | none => none
  | none => none⟩
theorem rastep_tree (w : World) (A : Option Addr) (X : List Int) (n cap : Nat) (A2 : Option Addr) (Y : List Int) (m cap2 : Nat) (k : Nat) (i : Int) :
    roundT Try.prog w (flatT Try.prog) (noCtr) (callT Try.prog w (flatT Try.prog) (noCtr) (noPre) (noLoop) 20) ((noLoop) 21) (roundOf (bodyAt Try.prog 21 0)) 0 0 raRo raRf raRb (raSt A X n cap A2 Y m cap2 k ⟨⟩) (raFin A X n cap A2 Y m cap2 k ⟨⟩) (raBck A X n cap A2 Y m cap2 k ⟨⟩) raNxX raNxX raNxZ ⟨i⟩ =
(.br (decide (IntKind.i64.wrap ((↑k : Int) + i) < (↑m : Int)))
 (.chk (sym.XR w A [IntKind.u8] X n ∧
  (0 : Int) ≤ IntKind.i64.wrap ((↑k : Int) + i) ∧ IntKind.i64.wrap ((↑k : Int) + i) < (↑n : Int) ∧ (0 : Nat) < [IntKind.u8].length)
 (.chk (sym.XC w A [IntKind.u8] X ∧
  (0 : Nat) < (1 : Nat) ∧ (IntKind.i64.wrap ((↑k : Int) + i)).toNat * [IntKind.u8].length + (1 : Nat) ≤ X.length)
 (.chk (sym.XR w A2 [IntKind.u8] Y m ∧
  (0 : Int) ≤ IntKind.i64.wrap ((↑k : Int) + i) ∧ IntKind.i64.wrap ((↑k : Int) + i) < (↑m : Int) ∧ (0 : Nat) < [IntKind.u8].length)
 (.chk (sym.XC w A2 [IntKind.u8] Y ∧
  (0 : Nat) < (1 : Nat) ∧ (IntKind.i64.wrap ((↑k : Int) + i)).toNat * [IntKind.u8].length + (1 : Nat) ≤ Y.length)
 (.br (X.getD ((IntKind.i64.wrap ((↑k : Int) + i)).toNat * [IntKind.u8].length + (0 : Nat)) (0 : Int) ==
  Y.getD ((IntKind.i64.wrap ((↑k : Int) + i)).toNat * [IntKind.u8].length + (0 : Nat)) (0 : Int))
  (.chk (A = A ∧ [IntKind.u8] = [IntKind.u8] ∧ X = X ∧ n = n ∧ cap = cap)
  (.chk (A2 = A2 ∧ [IntKind.u8] = [IntKind.u8] ∧ Y = Y ∧ m = m ∧ cap2 = cap2)
  (.chk (IntKind.i64 = IntKind.i64 ∧ (↑k : Int) = (↑k : Int))
  (.chk (IntKind.i64 = IntKind.i64 ∧ IntKind.i64.wrap (i + (1 : Int)) = IntKind.i64.wrap (i + (1 : Int)))
  (.leaf (.inl ⟨IntKind.i64.wrap (i + (1 : Int))⟩))))))
  (.chk (A = A ∧ [IntKind.u8] = [IntKind.u8] ∧ X = X ∧ n = n ∧ cap = cap)
  (.chk (A2 = A2 ∧ [IntKind.u8] = [IntKind.u8] ∧ Y = Y ∧ m = m ∧ cap2 = cap2)
  (.chk (IntKind.i64 = IntKind.i64 ∧ (↑k : Int) = (↑k : Int))
  (.chk (IntKind.i64 = IntKind.i64 ∧ i = i)
  (.leaf (.inr (.inl ⟨i⟩))))))))))))
 (.chk (A = A ∧ [IntKind.u8] = [IntKind.u8] ∧ X = X ∧ n = n ∧ cap = cap)
 (.chk (A2 = A2 ∧ [IntKind.u8] = [IntKind.u8] ∧ Y = Y ∧ m = m ∧ cap2 = cap2)
 (.chk (IntKind.i64 = IntKind.i64 ∧ (↑k : Int) = (↑k : Int))
 (.chk (IntKind.i64 = IntKind.i64 ∧ i = i)
 (.leaf (.inr (.inl ⟨i⟩)))))))) := by kernel_rfl
theorem ralike_tree (w : World) (A : Option Addr) (X : List Int) (n cap : Nat) (A2 : Option Addr) (Y : List Int) (m cap2 : Nat) (k : Nat) :
    callT Try.prog w (flatT Try.prog) (noCtr) (noPre) (lpOf Try.prog [raLp A X n cap A2 Y m cap2 k]) 20 21 [.v (.one (.xr A [.u8] X n cap)), .v (.one (.xr A2 [.u8] Y m cap2)), .v (.one (.int false .i64 (k : Int)))] [] =
(.chk (sym.textAt Go.Proofs.Try.prog (21 : Go.FuncId) (0 : Nat) = sym.textAt Go.Proofs.Try.prog (21 : Go.FuncId) (0 : Nat))
(.chk (A = A ∧ [IntKind.u8] = [IntKind.u8] ∧ X = X ∧ n = n ∧ cap = cap)
(.chk (A2 = A2 ∧ [IntKind.u8] = [IntKind.u8] ∧ Y = Y ∧ m = m ∧ cap2 = cap2)
(.chk (IntKind.i64 = IntKind.i64 ∧ (↑k : Int) = (↑k : Int))
(.chk (IntKind.i64 = IntKind.i64 ∧ (0 : Int) = (0 : Int))
(.chk (raInv A X n cap A2 Y m cap2 k { } { i := (0 : Int) })
(.all fun x : sym.Got raX
  (raPost A X n cap A2 Y m cap2 k { }) =>
 (.leaf ((.v (.one (.int false .i64 (x.1.1)))), []))))))))) := by kernel_rfl
def raMu (A : Option Addr) (X : List Int) (n cap : Nat) (A2 : Option Addr) (Y : List Int) (m cap2 : Nat) (k : Nat) (p : raP) (x : raX) : Nat := (m - (k + x.i)).toNat
theorem ra_step (w : World) (A : Option Addr) (X : List Int) (n cap : Nat) (A2 : Option Addr) (Y : List Int) (m cap2 : Nat) (k : Nat) (p : raP) (x : raX) (hX : XR w A [.u8] X n) (hY : XR w A2 [.u8] Y m) (h : raInv A X n cap A2 Y m cap2 k p x) : Hid (roundT Try.prog w (flatT Try.prog) (noCtr) (callT Try.prog w (flatT Try.prog) (noCtr) (noPre) (noLoop) 20) ((noLoop) 21) (roundOf (bodyAt Try.prog 21 0)) 0 0 raRo raRf raRb (raSt A X n cap A2 Y m cap2 k p) (raFin A X n cap A2 Y m cap2 k p) (raBck A X n cap A2 Y m cap2 k p) raNxX raNxX raNxZ x) (Kept (raInv A X n cap A2 Y m cap2 k p) (raPost A X n cap A2 Y m cap2 k p) (raBack A X n cap A2 Y m cap2 k p) (raMu A X n cap A2 Y m cap2 k p) x) := by
  obtain ⟨⟩ := p
  obtain ⟨i⟩ := x
  constructor
  rw [rastep_tree]
  simp only [T.holds, Kept, raMu, and_self, true_and, and_true]
  obtain ⟨i0, i1, mn, big, eq⟩ := h
  simp only at i0 i1 mn big eq
  simp only [List.length_singleton, Nat.mul_one, Nat.add_zero, Nat.zero_lt_one, true_and, and_true]
  have hn : X.length = n := by simpa using hX.1
  have hm : Y.length = m := by simpa using hY.1
  have hw0 : IntKind.i64.wrap ((k : Int) + i) = k + i := wi64 _ (by omega) (by omega)
  have hk : ((k : Int) + i).toNat = k + i.toNat := by omega
  rw [hw0, hk]
  have out : ∀ stop : (i.toNat = (Y.drop k).length ∨ i.toNat = (X.drop k).length ∨ (X.drop k).getD i.toNat 0 ≠ (Y.drop k).getD i.toNat 0), i = (lcp (X.drop k) (Y.drop k) : Nat) := fun stop => by
    rw [lcp_is i.toNat (X.drop k) (Y.drop k) (by simp; omega) (by simp; omega) (fun j hj => by rw [getD_drop, getD_drop]; exact eq j (by omega)) stop]; omega
  refine ⟨fun hlt => ?_, fun hge => ?_⟩
  · have hi : (k : Int) + i < (m : Int) := by simpa using hlt
    have hw : IntKind.i64.wrap (i + 1) = i + 1 := wi64 _ (by omega) (by omega)
    refine ⟨⟨hX, by omega, by omega⟩, ⟨hX.2, by omega⟩, ⟨hY, by omega, hi⟩, ⟨hY.2, by omega⟩, fun he => ?_, fun hne => ⟨out (.inr (.inr (by rw [getD_drop, getD_drop]; simpa using hne)))⟩⟩
    rw [hw]
    refine ⟨⟨by show 0 ≤ i + 1; omega, by show (k : Int) + (i + 1) ≤ m; omega, mn, big, fun j hj => ?_⟩, by omega⟩
    have hj : (j : Int) < i + 1 := hj
    by_cases e : (j : Int) = i
    · have : i.toNat = j := by omega
      rw [this] at he
      simpa using he
    · exact eq j (by omega)
  · have hi : ¬ (k : Int) + i < (m : Int) := by simpa using hge
    exact ⟨out (.inl (by simp; omega))⟩
theorem raLp_ok (w : World) (A : Option Addr) (X : List Int) (n cap : Nat) (A2 : Option Addr) (Y : List Int) (m cap2 : Nat) (k : Nat) (hX : XR w A [.u8] X n) (hY : XR w A2 [.u8] Y m) : (raLp A X n cap A2 Y m cap2 k).ok Try.prog w := by
  intro s t h
  unfold raLp at h
  simp only at h
  split at h
  · rename_i p _
    split at h
    · rename_i x _
      cases h
      exact loop_ok base2 (ctrs_none _ w) (callT_ok base2.mixed base2.names base2.eqs (ctrs_none _ w).ok (ctrs_none _ w).there (pre_none _ _) (loops_none _ _) 20) ((loops_none _ _) 21) (c := roundOf (bodyAt Try.prog 21 0)) (by kernel_rfl) (id := 0) (n := 0) (hr := false) (ro := raRo) (rf := raRf) (rr := raRb) (st := raSt A X n cap A2 Y m cap2 k p) (fin := raFin A X n cap A2 Y m cap2 k p) (bck := raBck A X n cap A2 Y m cap2 k p) (inv := raInv A X n cap A2 Y m cap2 k p) (post := raPost A X n cap A2 Y m cap2 k p) (back := raBack A X n cap A2 Y m cap2 k p) (nx := raNxX) (fx := raNxX) (bx := raNxZ) (raMu A X n cap A2 Y m cap2 k p) (nf := 0) (nf' := 0) (nf'' := 0) (fun x => by kernel_rfl) (fun y => by kernel_rfl) (fun z => nomatch z) (.inr fun z => nomatch z) (fun x hx => ra_step w A X n cap A2 Y m cap2 k p x hX hY hx) s x
    · cases h
  · cases h
def ralikeC : RCtr := ⟨21, [some [.u8], some [.u8], none], fun | [.row [.u8] n xs, .row [.u8] m ys, .av (.v (.one (.int _ .i64 k)))] => some (.chk (n ≤ 1000000000 ∧ m = n ∧ 0 ≤ k ∧ k ≤ (n : Int)) (.leaf [.av (.one (.int false .i64 (lcp (xs.drop k.toNat) (ys.drop k.toNat) : Nat)))])) | _ => none⟩
theorem ralikeC_ok : ralikeC.Ok Try.prog := by
  refine rctr_ok base2 ⟨_, Try.func21, rfl⟩ (ctr := fun w => noCtr) (fun w => ctrs_none _ w) (pre := fun w => noPre) (fun w => pre_none _ w) (n := 20) fun w cas args t h ha K hK => ?_
  unfold ralikeC at h
  simp only at h
  split at h
  · cases h
    obtain ⟨y0, y1, y2, rfl, q0, q1, q2⟩ := all2_3 ha
    obtain ⟨a, c, rfl, hX, hc⟩ := argRow q0
    obtain ⟨a2, c2, rfl, hY, hc2⟩ := argRow q1
    obtain ⟨rfl, o2⟩ := argAv q2
    rename_i n xs m ys lit k
    obtain ⟨⟨big, hmn, hk0, hk⟩, hK⟩ := hK
    obtain ⟨k, rfl⟩ := Int.eq_ofNat_of_zero_le hk0
    rw [Int.toNat_natCast] at hK
    refine ⟨lpOf Try.prog [raLp a xs n c a2 ys m c2 k], lps_ok fun l hl => ?_, ?_⟩
    · simp only [List.mem_cons, List.not_mem_nil, or_false] at hl
      subst hl
      exact raLp_ok w _ _ _ _ _ _ _ _ _ hX hY
    rw [show ralikeC.f = 21 from rfl]
    simp only [AV.norm, Sc.norm]
    rw [ralike_tree]
    simp only [T.holds, and_self, true_and, and_true]
    refine ⟨⟨by show (0:Int) ≤ 0; omega, by show (k : Int) + 0 ≤ m; omega, hmn, big, fun j hj => by have : (j : Int) < 0 := hj; omega⟩, fun y => ⟨_, [_], hK, rfl, .cons (.av rfl fun _ => ?_) .nil⟩⟩
    rw [y.so.eq]
  · cases h
end Go.Proofs.Ytcfnfihemejjkaa
