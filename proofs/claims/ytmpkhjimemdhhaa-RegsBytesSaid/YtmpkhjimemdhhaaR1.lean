/-
  Contract: are bytes alike. At most 1000000000 of them; no other condition.
-/
import Derived.Test.YtmpkhjimemdhhaaR0
namespace Go.Proofs.Ytmpkhjimemdhhaa
open Go.RowKit sym
set_option linter.unusedVariables false
set_option linter.unusedSimpArgs false
set_option maxRecDepth 100000
theorem ext_getD {X Y : List Int} (hl : X.length = Y.length) (h : ∀ j, j < X.length → X.getD j 0 = Y.getD j 0) : X = Y := by
  apply List.ext_getElem hl
  intro j h1 h2
  have := h j h1
  rw [List.getD_eq_getElem?_getD, List.getD_eq_getElem?_getD, List.getElem?_eq_getElem h1, List.getElem?_eq_getElem h2] at this
  exact this
structure smP where
structure smX where
  i : Int
structure smZ where
def smSt (A : Option Addr) (X : List Int) (n cap : Nat) (A2 : Option Addr) (Y : List Int) (m cap2 : Nat) : smP → smX → ASt := fun ⟨⟩ ⟨i⟩ => ⟨slots (List.replicate 26 .any) [(0, .v (.one (.xr A [.u8] X n cap))), (1, .v (.one (.xr A2 [.u8] Y m cap2))), (4, .v (.one (.bool true false))), (12, .v (.one (.int false .i64 (n : Int)))), (13, .v (.one (.int false .i64 i)))], []⟩
def smFin (A : Option Addr) (X : List Int) (n cap : Nat) (A2 : Option Addr) (Y : List Int) (m cap2 : Nat) : smP → smX → ASt := fun ⟨⟩ ⟨i⟩ => ⟨slots (List.replicate 26 .any) [(0, .v (.one (.xr A [.u8] X n cap))), (1, .v (.one (.xr A2 [.u8] Y m cap2))), (4, .v (.one (.bool true false))), (12, .v (.one (.int false .i64 (n : Int)))), (13, .v (.one (.int false .i64 i)))], []⟩
def smBck (A : Option Addr) (X : List Int) (n cap : Nat) (A2 : Option Addr) (Y : List Int) (m cap2 : Nat) : smP → smZ → ASt := fun ⟨⟩ ⟨⟩ => ⟨slots (List.replicate 26 .any) [(4, .v (.one (.bool true false)))], []⟩
def smNxP : ASt → Option smP := fun s => some ⟨⟩
def smNxX : ASt → Option smX := fun s => match gI s 13 with | none => none | some i => some ⟨i⟩
def smNxZ : ASt → Option smZ := fun s => some ⟨⟩
def smRo : ASt → List (Option Nat) := (fun _ => [])
def smRf : ASt → List (Option Nat) := (fun _ => [])
def smRb : ASt → List (Option Nat) := (fun _ => [])
structure smInv (A : Option Addr) (X : List Int) (n cap : Nat) (A2 : Option Addr) (Y : List Int) (m cap2 : Nat) (p : smP) (x : smX) : Prop where
  i0 : 0 ≤ x.i
  i1 : x.i ≤ n
  mn : m = n
  big : n ≤ 1000000000
  eq : ∀ j : Nat, (j : Int) < x.i → X.getD j 0 = Y.getD j 0
structure smPost (A : Option Addr) (X : List Int) (n cap : Nat) (A2 : Option Addr) (Y : List Int) (m cap2 : Nat) (p : smP) (x : smX) : Prop where
  eq : X = Y
structure smBack (A : Option Addr) (X : List Int) (n cap : Nat) (A2 : Option Addr) (Y : List Int) (m cap2 : Nat) (p : smP) (x : smZ) : Prop where
  ne : X ≠ Y
def smLp (A : Option Addr) (X : List Int) (n cap : Nat) (A2 : Option Addr) (Y : List Int) (m cap2 : Nat) : Lp := ⟨16, 0, fun s => match smNxP s with
  | some p => match smNxX s with
    | some x => some (loopT 0 0 true smRo (smSt A X n cap A2 Y m cap2 p) (smFin A X n cap A2 Y m cap2 p) (smBck A X n cap A2 Y m cap2 p) (smInv A X n cap A2 Y m cap2 p) (smPost A X n cap A2 Y m cap2 p) (smBack A X n cap A2 Y m cap2 p) s x)
    | none => none
  | none => none⟩
theorem smstep_tree (w : World) (A : Option Addr) (X : List Int) (n cap : Nat) (A2 : Option Addr) (Y : List Int) (m cap2 : Nat) (i : Int) :
    roundT Try.prog w (flatT Try.prog) (noCtr) (callT Try.prog w (flatT Try.prog) (noCtr) (noPre) (noLoop) 20) ((noLoop) 16) (roundOf (bodyAt Try.prog 16 0)) 0 0 smRo smRf smRb (smSt A X n cap A2 Y m cap2 ⟨⟩) (smFin A X n cap A2 Y m cap2 ⟨⟩) (smBck A X n cap A2 Y m cap2 ⟨⟩) smNxX smNxX smNxZ ⟨i⟩ =
(.br (decide (i < (↑n : Int)))
 (.chk (sym.XR w A [IntKind.u8] X n ∧ (0 : Int) ≤ i ∧ i < (↑n : Int) ∧ (0 : Nat) < [IntKind.u8].length)
 (.chk (sym.XC w A [IntKind.u8] X ∧
  (0 : Nat) < (1 : Nat) ∧ i.toNat * [IntKind.u8].length + (1 : Nat) ≤ X.length)
 (.chk (sym.XR w A2 [IntKind.u8] Y m ∧ (0 : Int) ≤ i ∧ i < (↑m : Int) ∧ (0 : Nat) < [IntKind.u8].length)
 (.chk (sym.XC w A2 [IntKind.u8] Y ∧
  (0 : Nat) < (1 : Nat) ∧ i.toNat * [IntKind.u8].length + (1 : Nat) ≤ Y.length)
 (.br (X.getD (i.toNat * [IntKind.u8].length + (0 : Nat)) (0 : Int) !=
  Y.getD (i.toNat * [IntKind.u8].length + (0 : Nat)) (0 : Int))
  (.chk (false = false)
  (.leaf (.inr (.inr ⟨⟩))))
  (.chk (A = A ∧ [IntKind.u8] = [IntKind.u8] ∧ X = X ∧ n = n ∧ cap = cap)
  (.chk (A2 = A2 ∧ [IntKind.u8] = [IntKind.u8] ∧ Y = Y ∧ m = m ∧ cap2 = cap2)
  (.chk (false = false)
  (.chk (IntKind.i64 = IntKind.i64 ∧ (↑n : Int) = (↑n : Int))
  (.chk (IntKind.i64 = IntKind.i64 ∧ IntKind.i64.wrap (i + (1 : Int)) = IntKind.i64.wrap (i + (1 : Int)))
  (.leaf (.inl ⟨IntKind.i64.wrap (i + (1 : Int))⟩))))))))))))
 (.chk (A = A ∧ [IntKind.u8] = [IntKind.u8] ∧ X = X ∧ n = n ∧ cap = cap)
 (.chk (A2 = A2 ∧ [IntKind.u8] = [IntKind.u8] ∧ Y = Y ∧ m = m ∧ cap2 = cap2)
 (.chk (false = false)
 (.chk (IntKind.i64 = IntKind.i64 ∧ (↑n : Int) = (↑n : Int))
 (.chk (IntKind.i64 = IntKind.i64 ∧ i = i)
 (.leaf (.inr (.inl ⟨i⟩))))))))) := by kernel_rfl
theorem same_tree (w : World) (A : Option Addr) (X : List Int) (n cap : Nat) (A2 : Option Addr) (Y : List Int) (m cap2 : Nat) :
    callT Try.prog w (flatT Try.prog) (noCtr) (noPre) (lpOf Try.prog [smLp A X n cap A2 Y m cap2]) 20 16 [.v (.one (.xr A [.u8] X n cap)), .v (.one (.xr A2 [.u8] Y m cap2))] [] =
(.br ((↑n : Int) != (↑m : Int))
 (.leaf ((.v (.one (.bool true false))), []))
 (.chk (sym.textAt Go.Proofs.Try.prog (16 : Go.FuncId) (0 : Nat) = sym.textAt Go.Proofs.Try.prog (16 : Go.FuncId) (0 : Nat))
 (.chk (A = A ∧ [IntKind.u8] = [IntKind.u8] ∧ X = X ∧ n = n ∧ cap = cap)
 (.chk (A2 = A2 ∧ [IntKind.u8] = [IntKind.u8] ∧ Y = Y ∧ m = m ∧ cap2 = cap2)
 (.chk (false = false)
 (.chk (IntKind.i64 = IntKind.i64 ∧ (↑n : Int) = (↑n : Int))
 (.chk (IntKind.i64 = IntKind.i64 ∧ (0 : Int) = (0 : Int))
 (.chk (smInv A X n cap A2 Y m cap2 { } { i := (0 : Int) })
 (.all fun x : Bool =>
  (.br (x)
   (.all fun x_1 : sym.Got smX
  (smPost A X n cap A2 Y m cap2 { }) =>
    (.leaf ((.v (.one (.bool true true))), [])))
   (.all fun x_1 : sym.Got smZ
  (smBack A X n cap A2 Y m cap2 { }) =>
    (.leaf ((.v (.one (.bool true false))), []))))))))))))) := by kernel_rfl
def smMu (A : Option Addr) (X : List Int) (n cap : Nat) (A2 : Option Addr) (Y : List Int) (m cap2 : Nat) (p : smP) (x : smX) : Nat := (n - x.i).toNat
theorem sm_step (w : World) (A : Option Addr) (X : List Int) (n cap : Nat) (A2 : Option Addr) (Y : List Int) (m cap2 : Nat) (p : smP) (x : smX) (hX : XR w A [.u8] X n) (hY : XR w A2 [.u8] Y m) (h : smInv A X n cap A2 Y m cap2 p x) : Hid (roundT Try.prog w (flatT Try.prog) (noCtr) (callT Try.prog w (flatT Try.prog) (noCtr) (noPre) (noLoop) 20) ((noLoop) 16) (roundOf (bodyAt Try.prog 16 0)) 0 0 smRo smRf smRb (smSt A X n cap A2 Y m cap2 p) (smFin A X n cap A2 Y m cap2 p) (smBck A X n cap A2 Y m cap2 p) smNxX smNxX smNxZ x) (Kept (smInv A X n cap A2 Y m cap2 p) (smPost A X n cap A2 Y m cap2 p) (smBack A X n cap A2 Y m cap2 p) (smMu A X n cap A2 Y m cap2 p) x) := by
  obtain ⟨⟩ := p
  obtain ⟨i⟩ := x
  constructor
  rw [smstep_tree]
  simp only [T.holds, Kept, smMu, and_self, true_and, and_true]
  obtain ⟨i0, i1, mn, big, eq⟩ := h
  simp only at i0 i1 mn big eq
  simp only [List.length_singleton, Nat.mul_one, Nat.add_zero, Nat.zero_lt_one, true_and, and_true]
  have hn : X.length = n := by simpa using hX.1
  have hm : Y.length = m := by simpa using hY.1
  refine ⟨fun hlt => ?_, fun hge => ?_⟩
  · have hi : i < (n : Int) := by simpa using hlt
    have hw : IntKind.i64.wrap (i + 1) = i + 1 := wi64 _ (by omega) (by omega)
    refine ⟨⟨hX, i0, hi⟩, ⟨hX.2, by omega⟩, ⟨hY, i0, by omega⟩, ⟨hY.2, by omega⟩, fun hne => ⟨?_⟩, fun he => ?_⟩
    · rintro rfl
      simp at hne
    · rw [hw]
      refine ⟨⟨by show 0 ≤ i + 1; omega, by show i + 1 ≤ n; omega, mn, big, fun j hj => ?_⟩, by omega⟩
      have hj : (j : Int) < i + 1 := hj
      by_cases e : (j : Int) = i
      · have : i.toNat = j := by omega
        rw [this] at he
        simpa using he
      · exact eq j (by omega)
  · have hi : ¬ i < (n : Int) := by simpa using hge
    exact ⟨ext_getD (by omega) fun j hj => eq j (by omega)⟩
theorem smLp_ok (w : World) (A : Option Addr) (X : List Int) (n cap : Nat) (A2 : Option Addr) (Y : List Int) (m cap2 : Nat) (hX : XR w A [.u8] X n) (hY : XR w A2 [.u8] Y m) : (smLp A X n cap A2 Y m cap2).ok Try.prog w := by
  intro s t h
  unfold smLp at h
  simp only at h
  split at h
  · rename_i p _
    split at h
    · rename_i x _
      cases h
      exact loop_ok base2 (ctrs_none _ w) (callT_ok base2.mixed base2.names base2.eqs (ctrs_none _ w).ok (ctrs_none _ w).there (pre_none _ _) (loops_none _ _) 20) ((loops_none _ _) 16) (c := roundOf (bodyAt Try.prog 16 0)) (by kernel_rfl) (id := 0) (n := 0) (hr := true) (ro := smRo) (rf := smRf) (rr := smRb) (st := smSt A X n cap A2 Y m cap2 p) (fin := smFin A X n cap A2 Y m cap2 p) (bck := smBck A X n cap A2 Y m cap2 p) (inv := smInv A X n cap A2 Y m cap2 p) (post := smPost A X n cap A2 Y m cap2 p) (back := smBack A X n cap A2 Y m cap2 p) (nx := smNxX) (fx := smNxX) (bx := smNxZ) (smMu A X n cap A2 Y m cap2 p) (nf := 0) (nf' := 0) (nf'' := 0) (fun x => by kernel_rfl) (fun y => by kernel_rfl) (fun z => by kernel_rfl) (.inl rfl) (fun x hx => sm_step w A X n cap A2 Y m cap2 p x hX hY hx) s x
    · cases h
  · cases h
def sameC : RCtr := ⟨16, [some [.u8], some [.u8]], fun | [.row [.u8] n xs, .row [.u8] m ys] => some (.chk (n ≤ 1000000000) (.leaf [.av (.one (.bool false (decide (xs = ys))))])) | _ => none⟩
theorem sameC_ok : sameC.Ok Try.prog := by
  refine rctr_ok base2 ⟨_, Try.func16, rfl⟩ (ctr := fun w => noCtr) (fun w => ctrs_none _ w) (pre := fun w => noPre) (fun w => pre_none _ w) (n := 20) fun w cas args t h ha K hK => ?_
  unfold sameC at h
  simp only at h
  split at h
  · cases h
    obtain ⟨y0, y1, rfl, q0, q1⟩ := all2_2 ha
    obtain ⟨a, c, rfl, hX, hc⟩ := argRow q0
    obtain ⟨a2, c2, rfl, hY, hc2⟩ := argRow q1
    rename_i n xs m ys
    obtain ⟨big, hK⟩ := hK
    refine ⟨lpOf Try.prog [smLp a xs n c a2 ys m c2], lps_ok fun l hl => ?_, ?_⟩
    · simp only [List.mem_cons, List.not_mem_nil, or_false] at hl
      subst hl
      exact smLp_ok w _ _ _ _ _ _ _ _ hX hY
    rw [show sameC.f = 16 from rfl, same_tree]
    have hn : xs.length = n := by simpa using hX.1
    have hm : ys.length = m := by simpa using hY.1
    simp only [T.holds, and_self, true_and, and_true]
    refine ⟨fun hne => ?_, fun he => ?_⟩
    · refine ⟨_, [_], hK, rfl, .cons (.av rfl fun _ => ?_) .nil⟩
      have : xs ≠ ys := by rintro rfl; simp at hne; omega
      simp only [V.γ, Sc.γ, show decide (xs = ys) = false by simpa using this]
    · have he : (n : Int) = m := by simpa using he
      have he : n = m := by omega
      refine ⟨⟨by show (0:Int) ≤ 0; omega, by show (0:Int) ≤ n; omega, he.symm, big, fun j hj => by have : (j : Int) < 0 := hj; omega⟩, fun b => ⟨fun _ y => ?_, fun _ z => ?_⟩⟩
      · refine ⟨_, [_], hK, rfl, .cons (.av rfl fun _ => ?_) .nil⟩
        simp only [V.γ, Sc.γ, show decide (xs = ys) = true by simpa using y.so.eq]
      · refine ⟨_, [_], hK, rfl, .cons (.av rfl fun _ => ?_) .nil⟩
        simp only [V.γ, Sc.γ, show decide (xs = ys) = false by simpa using z.so.ne]
  · cases h
end Go.Proofs.Ytmpkhjimemdhhaa
