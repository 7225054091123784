/-
  Contracts of checks of bytes, clones, what stands at a place, a whole frame. Bytes are below 256, rows have at most 1000000000; no other condition.
-/
import Derived.Test.YtmenafkmkcodlaaP
import Derived.Test.YtmenafkmkcodlaaSymQ
namespace Go.Proofs.Ytmenafkmkcodlaa
open Go.RowKit sym
set_option linter.unusedVariables false
set_option linter.unusedSimpArgs false
set_option maxRecDepth 100000
def bitOf (k : Nat) : Int := if k < 8 then (2 : Int) ^ (7 - k) else 0
structure ciP where
  i : Int
  x0 : Int
structure ciX where
  x : Int
  k : Int
structure ciY where
  x : Int
def ciSt (A : Option Addr) (X : List Int) (n cap : Nat) : ciP → ciX → ASt := fun ⟨i, x0⟩ ⟨x, k⟩ => ⟨slots (List.replicate 30 .any) [(0, .v (.one (.xr A [.u8] X n cap))), (2, .v (.one (.int true .u16 0))), (3, .v (.one (.int false .u16 x))), (6, .v (.one (.xr A [.u8] X n cap))), (7, .v (.one (.int false .i64 (n : Int)))), (8, .v (.one (.int false .i64 i))), (17, .v (.one (.int false .i64 k)))], []⟩
def ciFin (A : Option Addr) (X : List Int) (n cap : Nat) : ciP → ciY → ASt := fun ⟨i, x0⟩ ⟨x⟩ => ⟨slots (List.replicate 30 .any) [(0, .v (.one (.xr A [.u8] X n cap))), (2, .v (.one (.int true .u16 0))), (3, .v (.one (.int false .u16 x))), (6, .v (.one (.xr A [.u8] X n cap))), (7, .v (.one (.int false .i64 (n : Int)))), (8, .v (.one (.int false .i64 i)))], []⟩
def ciBck (A : Option Addr) (X : List Int) (n cap : Nat) : ciP → Empty → ASt := fun _ z => nomatch z
def ciNxP : ASt → Option ciP := fun s => match gI s 8 with | none => none | some i => match gI s 3 with | none => none | some x0 => some ⟨i, x0⟩
def ciNxX : ASt → Option ciX := fun s => match gI s 3 with | none => none | some x => match gI s 17 with | none => none | some k => some ⟨x, k⟩
def ciNxY : ASt → Option ciY := fun s => match gI s 3 with | none => none | some x => some ⟨x⟩
def ciNxZ : ASt → Option Empty := fun _ => none
def ciRo : ASt → List (Option Nat) := (fun _ => [])
def ciRf : ASt → List (Option Nat) := (fun _ => [])
def ciRb : ASt → List (Option Nat) := (fun _ => [])
structure ciInv (A : Option Addr) (X : List Int) (n cap : Nat) (p : ciP) (x : ciX) : Prop where
  k0 : 0 ≤ x.k ∧ x.k ≤ 8
  eq : x.x = roundsI x.k.toNat p.x0
structure ciPost (A : Option Addr) (X : List Int) (n cap : Nat) (p : ciP) (x : ciY) : Prop where
  eq : x.x = roundsI 8 p.x0
def ciBack (A : Option Addr) (X : List Int) (n cap : Nat) (p : ciP) (x : Empty) : Prop := False
def ciLp (A : Option Addr) (X : List Int) (n cap : Nat) : Lp := ⟨13, 2, fun s => match ciNxP s with
  | some p => match ciNxX s with
    | some x => some (loopT 2 0 false ciRo (ciSt A X n cap p) (ciFin A X n cap p) (ciBck A X n cap p) (ciInv A X n cap p) (ciPost A X n cap p) (ciBack A X n cap p) s x)
    | none => none
  | none => none⟩
theorem cistep_tree (w : World) (A : Option Addr) (X : List Int) (n cap : Nat) (i : Int) (x0 : Int) (x : Int) (k : Int) :
    roundT Try.prog w (flatT Try.prog) (noCtr) (callT Try.prog w (flatT Try.prog) (noCtr) (noPre) (noLoop) 20) ((noLoop) 13) (roundOf (bodyAt Try.prog 13 2)) 2 0 ciRo ciRf ciRb (ciSt A X n cap ⟨i, x0⟩) (ciFin A X n cap ⟨i, x0⟩) (ciBck A X n cap ⟨i, x0⟩) ciNxX ciNxY ciNxZ ⟨x, k⟩ =
(.br (decide (k < (8 : Int)))
 (.br (bits BinOp.and IntKind.u16 x (32768 : Int) != (0 : Int))
  (.chk (A = A ∧ [IntKind.u8] = [IntKind.u8] ∧ X = X ∧ n = n ∧ cap = cap)
  (.chk (IntKind.u16 = IntKind.u16 ∧ (0 : Int) = (0 : Int))
  (.chk (IntKind.u16 = IntKind.u16 ∧
  bits BinOp.xor IntKind.u16 (IntKind.u16.wrap (x * (2 : Int) ^ (1 : Nat))) (4129 : Int) =
    bits BinOp.xor IntKind.u16 (IntKind.u16.wrap (x * (2 : Int) ^ (1 : Nat))) (4129 : Int))
  (.chk (A = A ∧ [IntKind.u8] = [IntKind.u8] ∧ X = X ∧ n = n ∧ cap = cap)
  (.chk (IntKind.i64 = IntKind.i64 ∧ (↑n : Int) = (↑n : Int))
  (.chk (IntKind.i64 = IntKind.i64 ∧ i = i)
  (.chk (IntKind.i64 = IntKind.i64 ∧ IntKind.i64.wrap (k + (1 : Int)) = IntKind.i64.wrap (k + (1 : Int)))
  (.leaf (.inl ⟨bits BinOp.xor IntKind.u16 (IntKind.u16.wrap (x * (2 : Int) ^ (1 : Nat))) (4129 : Int), IntKind.i64.wrap (k + (1 : Int))⟩)))))))))
  (.chk (A = A ∧ [IntKind.u8] = [IntKind.u8] ∧ X = X ∧ n = n ∧ cap = cap)
  (.chk (IntKind.u16 = IntKind.u16 ∧ (0 : Int) = (0 : Int))
  (.chk (IntKind.u16 = IntKind.u16 ∧
  IntKind.u16.wrap (x * (2 : Int) ^ (1 : Nat)) = IntKind.u16.wrap (x * (2 : Int) ^ (1 : Nat)))
  (.chk (A = A ∧ [IntKind.u8] = [IntKind.u8] ∧ X = X ∧ n = n ∧ cap = cap)
  (.chk (IntKind.i64 = IntKind.i64 ∧ (↑n : Int) = (↑n : Int))
  (.chk (IntKind.i64 = IntKind.i64 ∧ i = i)
  (.chk (IntKind.i64 = IntKind.i64 ∧ IntKind.i64.wrap (k + (1 : Int)) = IntKind.i64.wrap (k + (1 : Int)))
  (.leaf (.inl ⟨IntKind.u16.wrap (x * (2 : Int) ^ (1 : Nat)), IntKind.i64.wrap (k + (1 : Int))⟩))))))))))
 (.chk (A = A ∧ [IntKind.u8] = [IntKind.u8] ∧ X = X ∧ n = n ∧ cap = cap)
 (.chk (IntKind.u16 = IntKind.u16 ∧ (0 : Int) = (0 : Int))
 (.chk (IntKind.u16 = IntKind.u16 ∧ x = x)
 (.chk (A = A ∧ [IntKind.u8] = [IntKind.u8] ∧ X = X ∧ n = n ∧ cap = cap)
 (.chk (IntKind.i64 = IntKind.i64 ∧ (↑n : Int) = (↑n : Int))
 (.chk (IntKind.i64 = IntKind.i64 ∧ i = i)
 (.leaf (.inr (.inl ⟨x⟩)))))))))) := by kernel_rfl
structure coP where
structure coX where
  x : Int
  i : Int
def coSt (A : Option Addr) (X : List Int) (n cap : Nat) : coP → coX → ASt := fun ⟨⟩ ⟨x, i⟩ => ⟨slots (List.replicate 30 .any) [(0, .v (.one (.xr A [.u8] X n cap))), (2, .v (.one (.int true .u16 0))), (3, .v (.one (.int false .u16 x))), (6, .v (.one (.xr A [.u8] X n cap))), (7, .v (.one (.int false .i64 (n : Int)))), (8, .v (.one (.int false .i64 i)))], []⟩
def coFin (A : Option Addr) (X : List Int) (n cap : Nat) : coP → coX → ASt := fun ⟨⟩ ⟨x, i⟩ => ⟨slots (List.replicate 30 .any) [(0, .v (.one (.xr A [.u8] X n cap))), (2, .v (.one (.int true .u16 0))), (3, .v (.one (.int false .u16 x))), (6, .v (.one (.xr A [.u8] X n cap))), (7, .v (.one (.int false .i64 (n : Int)))), (8, .v (.one (.int false .i64 i)))], []⟩
def coBck (A : Option Addr) (X : List Int) (n cap : Nat) : coP → Empty → ASt := fun _ z => nomatch z
def coNxP : ASt → Option coP := fun s => some ⟨⟩
def coNxX : ASt → Option coX := fun s => match gI s 3 with | none => none | some x => match gI s 8 with | none => none | some i => some ⟨x, i⟩
def coNxZ : ASt → Option Empty := fun _ => none
def coRo : ASt → List (Option Nat) := (fun _ => [])
def coRf : ASt → List (Option Nat) := (fun _ => [])
def coRb : ASt → List (Option Nat) := (fun _ => [])
structure coInv (A : Option Addr) (X : List Int) (n cap : Nat) (p : coP) (x : coX) : Prop where
  i0 : 0 ≤ x.i ∧ x.i ≤ n
  big : n ≤ 1000000000
  by_ : Bs X
  eq : x.x = crcL (X.take x.i.toNat)
structure coPost (A : Option Addr) (X : List Int) (n cap : Nat) (p : coP) (x : coX) : Prop where
  eq : x.x = crcL X
def coBack (A : Option Addr) (X : List Int) (n cap : Nat) (p : coP) (x : Empty) : Prop := False
def coLp (A : Option Addr) (X : List Int) (n cap : Nat) : Lp := ⟨13, 0, fun s => match coNxP s with
  | some p => match coNxX s with
    | some x => some (loopT 0 0 false coRo (coSt A X n cap p) (coFin A X n cap p) (coBck A X n cap p) (coInv A X n cap p) (coPost A X n cap p) (coBack A X n cap p) s x)
    | none => none
  | none => none⟩
theorem costep_tree (w : World) (A : Option Addr) (X : List Int) (n cap : Nat) (x : Int) (i : Int) :
    roundT Try.prog w (flatT Try.prog) (noCtr) (callT Try.prog w (flatT Try.prog) (noCtr) (noPre) (lpOf Try.prog [ciLp A X n cap]) 20) ((lpOf Try.prog [ciLp A X n cap]) 13) (roundOf (bodyAt Try.prog 13 0)) 0 0 coRo coRf coRb (coSt A X n cap ⟨⟩) (coFin A X n cap ⟨⟩) (coBck A X n cap ⟨⟩) coNxX coNxX coNxZ ⟨x, i⟩ =
(.br (decide (i < (↑n : Int)))
 (.chk (sym.XR w A [IntKind.u8] X n ∧
  (0 : Int) ≤ i ∧ i < (↑n : Int) ∧ (0 : Nat) < [IntKind.u8].length)
 (.chk (sym.XC w A [IntKind.u8] X ∧
  (0 : Nat) < (1 : Nat) ∧ i.toNat * [IntKind.u8].length + (1 : Nat) ≤ X.length)
 (.chk (sym.textAt Go.Proofs.Try.prog (13 : Go.FuncId) (2 : Nat) = sym.textAt Go.Proofs.Try.prog (13 : Go.FuncId) (2 : Nat))
 (.chk (A = A ∧ [IntKind.u8] = [IntKind.u8] ∧ X = X ∧ n = n ∧ cap = cap)
 (.chk (IntKind.u16 = IntKind.u16 ∧ (0 : Int) = (0 : Int))
 (.chk (IntKind.u16 = IntKind.u16 ∧
  bits BinOp.xor IntKind.u16 x
      (IntKind.u16.wrap
        (IntKind.u16.wrap (X.getD (i.toNat * [IntKind.u8].length + (0 : Nat)) (0 : Int)) *
          (2 : Int) ^ (8 : Nat))) =
    bits BinOp.xor IntKind.u16 x
      (IntKind.u16.wrap
        (IntKind.u16.wrap (X.getD (i.toNat * [IntKind.u8].length + (0 : Nat)) (0 : Int)) * (2 : Int) ^ (8 : Nat))))
 (.chk (A = A ∧ [IntKind.u8] = [IntKind.u8] ∧ X = X ∧ n = n ∧ cap = cap)
 (.chk (IntKind.i64 = IntKind.i64 ∧ (↑n : Int) = (↑n : Int))
 (.chk (IntKind.i64 = IntKind.i64 ∧ i = i)
 (.chk (IntKind.i64 = IntKind.i64 ∧ (0 : Int) = (0 : Int))
 (.chk (ciInv A X n cap
  { i := i,
    x0 :=
      bits BinOp.xor IntKind.u16 x
        (IntKind.u16.wrap
          (IntKind.u16.wrap (X.getD (i.toNat * [IntKind.u8].length + (0 : Nat)) (0 : Int)) *
            (2 : Int) ^ (8 : Nat))) }
  {
    x :=
      bits BinOp.xor IntKind.u16 x
        (IntKind.u16.wrap
          (IntKind.u16.wrap (X.getD (i.toNat * [IntKind.u8].length + (0 : Nat)) (0 : Int)) *
            (2 : Int) ^ (8 : Nat))),
    k := (0 : Int) })
 (.all fun x_1 : sym.Got ciY
  (ciPost A X n cap
    { i := i,
      x0 :=
        bits BinOp.xor IntKind.u16 x
          (IntKind.u16.wrap
            (IntKind.u16.wrap (X.getD (i.toNat * [IntKind.u8].length + (0 : Nat)) (0 : Int)) *
              (2 : Int) ^ (8 : Nat))) }) =>
  (.chk (A = A ∧ [IntKind.u8] = [IntKind.u8] ∧ X = X ∧ n = n ∧ cap = cap)
  (.chk (IntKind.u16 = IntKind.u16 ∧ (0 : Int) = (0 : Int))
  (.chk (IntKind.u16 = IntKind.u16 ∧ x_1.1.1 = x_1.1.1)
  (.chk (A = A ∧ [IntKind.u8] = [IntKind.u8] ∧ X = X ∧ n = n ∧ cap = cap)
  (.chk (IntKind.i64 = IntKind.i64 ∧ (↑n : Int) = (↑n : Int))
  (.chk (IntKind.i64 = IntKind.i64 ∧ IntKind.i64.wrap (i + (1 : Int)) = IntKind.i64.wrap (i + (1 : Int)))
  (.leaf (.inl ⟨x_1.1.1, IntKind.i64.wrap (i + (1 : Int))⟩))))))))))))))))))))
 (.chk (A = A ∧ [IntKind.u8] = [IntKind.u8] ∧ X = X ∧ n = n ∧ cap = cap)
 (.chk (IntKind.u16 = IntKind.u16 ∧ (0 : Int) = (0 : Int))
 (.chk (IntKind.u16 = IntKind.u16 ∧ x = x)
 (.chk (A = A ∧ [IntKind.u8] = [IntKind.u8] ∧ X = X ∧ n = n ∧ cap = cap)
 (.chk (IntKind.i64 = IntKind.i64 ∧ (↑n : Int) = (↑n : Int))
 (.chk (IntKind.i64 = IntKind.i64 ∧ i = i)
 (.leaf (.inr (.inl ⟨x, i⟩)))))))))) := by kernel_rfl
theorem check_tree (w : World) (A : Option Addr) (X : List Int) (n cap : Nat) :
    callT Try.prog w (flatT Try.prog) (noCtr) (noPre) (lpOf Try.prog [coLp A X n cap]) 20 13 [.v (.one (.xr A [.u8] X n cap))] [] =
(.chk (sym.textAt Go.Proofs.Try.prog (13 : Go.FuncId) (0 : Nat) = sym.textAt Go.Proofs.Try.prog (13 : Go.FuncId) (0 : Nat))
(.chk (A = A ∧ [IntKind.u8] = [IntKind.u8] ∧ X = X ∧ n = n ∧ cap = cap)
(.chk (IntKind.u16 = IntKind.u16 ∧ (0 : Int) = (0 : Int))
(.chk (IntKind.u16 = IntKind.u16 ∧ (65535 : Int) = (65535 : Int))
(.chk (A = A ∧ [IntKind.u8] = [IntKind.u8] ∧ X = X ∧ n = n ∧ cap = cap)
(.chk (IntKind.i64 = IntKind.i64 ∧ (↑n : Int) = (↑n : Int))
(.chk (IntKind.i64 = IntKind.i64 ∧ (0 : Int) = (0 : Int))
(.chk (coInv A X n cap { } { x := (65535 : Int), i := (0 : Int) })
(.all fun x : sym.Got coX (coPost A X n cap { }) =>
 (.leaf ((.v (.one (.int false .u16 (x.1.1)))), []))))))))))) := by kernel_rfl
def ciMu (A : Option Addr) (X : List Int) (n cap : Nat) (p : ciP) (x : ciX) : Nat := (8 - x.k).toNat
theorem ci_step (w : World) (A : Option Addr) (X : List Int) (n cap : Nat) (p : ciP) (x : ciX)  (h : ciInv A X n cap p x) : Hid (roundT Try.prog w (flatT Try.prog) (noCtr) (callT Try.prog w (flatT Try.prog) (noCtr) (noPre) (noLoop) 20) ((noLoop) 13) (roundOf (bodyAt Try.prog 13 2)) 2 0 ciRo ciRf ciRb (ciSt A X n cap p) (ciFin A X n cap p) (ciBck A X n cap p) ciNxX ciNxY ciNxZ x) (Kept (ciInv A X n cap p) (ciPost A X n cap p) (ciBack A X n cap p) (ciMu A X n cap p) x) := by
  obtain ⟨i, x0⟩ := p
  obtain ⟨x, k⟩ := x
  constructor
  rw [cistep_tree]
  simp only [T.holds, Kept, ciMu, and_self, true_and, and_true]
  obtain ⟨k0, eq⟩ := h
  simp only at k0 eq
  have hr : roundsI (k + 1).toNat x0 = stepI x := by
    rw [show (k + 1).toNat = k.toNat + 1 by omega, roundsI, ← eq]
  refine ⟨fun hlt => ?_, fun hge => ?_⟩
  · have hk : k < 8 := of_decide_eq_true hlt
    rw [wi64 (k + 1) (by omega) (by omega)]
    refine ⟨fun h1 => ⟨⟨by show 0 ≤ k + 1 ∧ k + 1 ≤ 8; omega, ?_⟩, by omega⟩, fun h1 => ⟨⟨by show 0 ≤ k + 1 ∧ k + 1 ≤ 8; omega, ?_⟩, by omega⟩⟩
    · show _ = roundsI (k + 1).toNat x0
      rw [hr]
      unfold stepI
      rw [if_pos (by simpa using h1)]
    · show _ = roundsI (k + 1).toNat x0
      rw [hr]
      unfold stepI
      rw [if_neg (by simpa using h1)]
  · have hk : ¬ k < 8 := of_decide_eq_false hge
    refine ⟨?_⟩
    show x = roundsI 8 x0
    rw [eq, show k.toNat = 8 by omega]
theorem ciLp_ok (w : World) (A : Option Addr) (X : List Int) (n cap : Nat)  : (ciLp A X n cap).ok Try.prog w := by
  intro s t h
  unfold ciLp at h
  simp only at h
  split at h
  · rename_i p _
    split at h
    · rename_i x _
      cases h
      exact loop_ok base2 (ctrs_none _ w) (callT_ok base2.mixed base2.names base2.eqs (ctrs_none _ w).ok (ctrs_none _ w).there (pre_none _ _) (loops_none _ _) 20) ((loops_none _ _) 13) (c := roundOf (bodyAt Try.prog 13 2)) (by kernel_rfl) (id := 2) (n := 0) (hr := false) (ro := ciRo) (rf := ciRf) (rr := ciRb) (st := ciSt A X n cap p) (fin := ciFin A X n cap p) (bck := ciBck A X n cap p) (inv := ciInv A X n cap p) (post := ciPost A X n cap p) (back := ciBack A X n cap p) (nx := ciNxX) (fx := ciNxY) (bx := ciNxZ) (ciMu A X n cap p) (nf := 0) (nf' := 0) (nf'' := 0) (fun x => by kernel_rfl) (fun y => by kernel_rfl) (fun z => nomatch z) (.inr fun z => nomatch z) (fun x hx => ci_step w A X n cap p x  hx) s x
    · cases h
  · cases h
theorem crc_take (X : List Int) {i : Nat} (h : i < X.length) : crcB 0xffff#16 (X.take (i + 1)) = byteB (crcB 0xffff#16 (X.take i)) (X.getD i 0) := by
  rw [List.take_succ_eq_append_getElem h, crcB_append]
  simp [h, crcB]
def coMu (A : Option Addr) (X : List Int) (n cap : Nat) (p : coP) (x : coX) : Nat := (n - x.i).toNat
theorem co_step (w : World) (A : Option Addr) (X : List Int) (n cap : Nat) (p : coP) (x : coX) (hX : XR w A [.u8] X n) (h : coInv A X n cap p x) : Hid (roundT Try.prog w (flatT Try.prog) (noCtr) (callT Try.prog w (flatT Try.prog) (noCtr) (noPre) (lpOf Try.prog [ciLp A X n cap]) 20) ((lpOf Try.prog [ciLp A X n cap]) 13) (roundOf (bodyAt Try.prog 13 0)) 0 0 coRo coRf coRb (coSt A X n cap p) (coFin A X n cap p) (coBck A X n cap p) coNxX coNxX coNxZ x) (Kept (coInv A X n cap p) (coPost A X n cap p) (coBack A X n cap p) (coMu A X n cap p) x) := by
  obtain ⟨⟩ := p
  obtain ⟨x, i⟩ := x
  constructor
  rw [costep_tree]
  simp only [T.holds, Kept, coMu, and_self, true_and, and_true]
  obtain ⟨i0, big, hB, eq⟩ := h
  simp only at i0 big hB eq
  simp only [List.length_singleton, Nat.mul_one, Nat.add_zero, Nat.zero_lt_one, true_and, and_true]
  have hn : X.length = n := by simpa using hX.1
  refine ⟨fun hlt => ?_, fun hge => ?_⟩
  · have hi : i < (n : Int) := of_decide_eq_true hlt
    rw [wi64 (i + 1) (by omega) (by omega)]
    refine ⟨⟨hX, i0.1, hi⟩, ⟨hX.2, by omega⟩, ⟨⟨by show (0 : Int) ≤ 0; decide, by show (0 : Int) ≤ 8; decide⟩, rfl⟩, fun y => ⟨⟨by show 0 ≤ i + 1 ∧ i + 1 ≤ n; omega, big, hB, ?_⟩, by omega⟩⟩
    have hy := y.so.eq
    simp only [List.length_singleton, Nat.mul_one, Nat.add_zero] at hy
    show y.it.x = crcL (X.take (i + 1).toNat)
    rw [hy, eq]
    unfold crcL
    rw [byte_is _ (hB _), show (i + 1).toNat = i.toNat + 1 by omega, crc_take X (by omega)]
  · have hi : ¬ i < (n : Int) := of_decide_eq_false hge
    refine ⟨?_⟩
    show x = crcL X
    rw [eq, List.take_of_length_le (by omega)]
theorem coLp_ok (w : World) (A : Option Addr) (X : List Int) (n cap : Nat) (hX : XR w A [.u8] X n) : (coLp A X n cap).ok Try.prog w := by
  intro s t h
  unfold coLp at h
  simp only at h
  split at h
  · rename_i p _
    split at h
    · rename_i x _
      cases h
      exact loop_ok base2 (ctrs_none _ w) (callT_ok base2.mixed base2.names base2.eqs (ctrs_none _ w).ok (ctrs_none _ w).there (pre_none _ _) ((lps_ok (ls := [ciLp A X n cap]) fun l hl => by (simp only [List.mem_cons, List.not_mem_nil, or_false] at hl; subst hl; exact ciLp_ok w A X n cap ))) 20) (((lps_ok (ls := [ciLp A X n cap]) fun l hl => by (simp only [List.mem_cons, List.not_mem_nil, or_false] at hl; subst hl; exact ciLp_ok w A X n cap ))) 13) (c := roundOf (bodyAt Try.prog 13 0)) (by kernel_rfl) (id := 0) (n := 0) (hr := false) (ro := coRo) (rf := coRf) (rr := coRb) (st := coSt A X n cap p) (fin := coFin A X n cap p) (bck := coBck A X n cap p) (inv := coInv A X n cap p) (post := coPost A X n cap p) (back := coBack A X n cap p) (nx := coNxX) (fx := coNxX) (bx := coNxZ) (coMu A X n cap p) (nf := 0) (nf' := 0) (nf'' := 0) (fun x => by kernel_rfl) (fun y => by kernel_rfl) (fun z => nomatch z) (.inr fun z => nomatch z) (fun x hx => co_step w A X n cap p x hX hx) s x
    · cases h
  · cases h
def checkC : RCtr := ⟨13, [some [.u8]], fun | [.row [.u8] n xs] => some (.chk (n ≤ 1000000000 ∧ Bs xs) (.leaf [.av (.one (.int false .u16 (crcL xs)))])) | _ => none⟩
def rcheckC : RCtr := ⟨14, [some [.u8]], fun | [.row [.u8] n xs] => some (.chk (n ≤ 1000000000 ∧ Bs xs) (.leaf [.av (.one (.int false .u16 (crcL xs)))])) | _ => none⟩
def cloneC : RCtr := ⟨24, [some [.u8]], fun | [.row [.u8] n xs] => some (.chk (n ≤ 1000000000) (.all fun g : RowR n => .leaf [.row none g.nl 5 [.u8] xs n g.cap])) | _ => none⟩
theorem checkC_ok (w0 : World) : checkC.Ok Try.prog w0 := by
  refine rctr_ok base2 ⟨_, Try.func13, rfl⟩ (ctr := fun w => noCtr) w0 (fun w _ => ctrs_none _ w) (pre := fun w => noPre) (fun w _ => pre_none _ w) (n := 20) fun w hw0 cas args t h ha K hK => ?_
  unfold checkC at h
  simp only at h
  split at h
  · cases h
    obtain ⟨y0, rfl, q0⟩ := all2_1 ha
    obtain ⟨a, c, rfl, hX, hc⟩ := argRow q0
    rename_i n xs
    obtain ⟨⟨big, hB⟩, hK⟩ := hK
    refine ⟨lpOf Try.prog [coLp a xs n c], lps_ok fun l hl => ?_, ?_⟩
    · simp only [List.mem_cons, List.not_mem_nil, or_false] at hl
      subst hl
      exact coLp_ok w _ _ _ _ hX
    rw [show checkC.f = 13 from rfl, check_tree]
    simp only [T.holds, and_self, true_and, and_true]
    refine ⟨⟨by show (0 : Int) ≤ 0 ∧ (0 : Int) ≤ n; omega, big, hB, by rfl⟩, fun y => ⟨_, [_], hK, rfl, .cons (.av rfl fun _ => ?_) .nil⟩⟩
    have e := y.so.eq
    have := crcL_W xs
    simp only [V.γ, Sc.γ, e]
  · cases h
structure riP where
  i : Int
  x0 : Int
structure riX where
  x : Int
  b : Int
structure riY where
  x : Int
def riSt (A : Option Addr) (X : List Int) (n cap : Nat) : riP → riX → ASt := fun ⟨i, x0⟩ ⟨x, b⟩ => ⟨slots (List.replicate 38 .any) [(0, .v (.one (.xr A [.u8] X n cap))), (2, .v (.one (.int true .u16 0))), (3, .v (.one (.int false .i64 x))), (4, .v (.one (.int false .i64 i))), (5, .v (.one (.int false .i64 b))), (8, .v (.one (.xr A [.u8] X n cap))), (9, .v (.one (.int false .i64 (n : Int)))), (10, .v (.one (.int false .i64 i)))], []⟩
def riFin (A : Option Addr) (X : List Int) (n cap : Nat) : riP → riY → ASt := fun ⟨i, x0⟩ ⟨x⟩ => ⟨slots (List.replicate 38 .any) [(0, .v (.one (.xr A [.u8] X n cap))), (2, .v (.one (.int true .u16 0))), (3, .v (.one (.int false .i64 x))), (8, .v (.one (.xr A [.u8] X n cap))), (9, .v (.one (.int false .i64 (n : Int)))), (10, .v (.one (.int false .i64 i)))], []⟩
def riBck (A : Option Addr) (X : List Int) (n cap : Nat) : riP → Empty → ASt := fun _ z => nomatch z
def riNxP : ASt → Option riP := fun s => match gI s 10 with | none => none | some i => match gI s 3 with | none => none | some x0 => some ⟨i, x0⟩
def riNxX : ASt → Option riX := fun s => match gI s 3 with | none => none | some x => match gI s 5 with | none => none | some b => some ⟨x, b⟩
def riNxY : ASt → Option riY := fun s => match gI s 3 with | none => none | some x => some ⟨x⟩
def riNxZ : ASt → Option Empty := fun _ => none
def riRo : ASt → List (Option Nat) := (fun _ => [])
def riRf : ASt → List (Option Nat) := (fun _ => [])
def riRb : ASt → List (Option Nat) := (fun _ => [])
structure riInv (A : Option Addr) (X : List Int) (n cap : Nat) (p : riP) (x : riX) : Prop where
  i0 : 0 ≤ p.i ∧ p.i < n
  by_ : Bs X
  eq : ∃ (a : BitVec 16) (k : Nat), p.x0 = I a ∧ k ≤ 8 ∧ x.b = bitOf k ∧ x.x = rrI k p.x0 (X.getD p.i.toNat 0)
structure riPost (A : Option Addr) (X : List Int) (n cap : Nat) (p : riP) (x : riY) : Prop where
  eq : x.x = rrI 8 p.x0 (X.getD p.i.toNat 0)
def riBack (A : Option Addr) (X : List Int) (n cap : Nat) (p : riP) (x : Empty) : Prop := False
def riLp (A : Option Addr) (X : List Int) (n cap : Nat) : Lp := ⟨14, 2, fun s => match riNxP s with
  | some p => match riNxX s with
    | some x => some (loopT 2 0 false riRo (riSt A X n cap p) (riFin A X n cap p) (riBck A X n cap p) (riInv A X n cap p) (riPost A X n cap p) (riBack A X n cap p) s x)
    | none => none
  | none => none⟩
theorem ristep_tree (w : World) (A : Option Addr) (X : List Int) (n cap : Nat) (i : Int) (x0 : Int) (x : Int) (b : Int) :
    roundT Try.prog w (flatT Try.prog) (noCtr) (callT Try.prog w (flatT Try.prog) (noCtr) (noPre) (noLoop) 20) ((noLoop) 14) (roundOf (bodyAt Try.prog 14 2)) 2 0 riRo riRf riRb (riSt A X n cap ⟨i, x0⟩) (riFin A X n cap ⟨i, x0⟩) (riBck A X n cap ⟨i, x0⟩) riNxX riNxY riNxZ ⟨x, b⟩ =
(.br (decide (b > (0 : Int)))
 (.chk (sym.XR w A [IntKind.u8] X n ∧
  (0 : Int) ≤ i ∧ i < (↑n : Int) ∧ (0 : Nat) < [IntKind.u8].length)
 (.chk (sym.XC w A [IntKind.u8] X ∧
  (0 : Nat) < (1 : Nat) ∧ i.toNat * [IntKind.u8].length + (1 : Nat) ≤ X.length)
 (.chk (b ≠ (0 : Int))
 (.br (IntKind.i64.wrap (x.tdiv (32768 : Int)) !=
  (IntKind.i64.wrap
        ((IntKind.i64.wrap (X.getD (i.toNat * [IntKind.u8].length + (0 : Nat)) (0 : Int))).tdiv b)).tmod
    (2 : Int))
  (.chk (A = A ∧ [IntKind.u8] = [IntKind.u8] ∧ X = X ∧ n = n ∧ cap = cap)
  (.chk (IntKind.u16 = IntKind.u16 ∧ (0 : Int) = (0 : Int))
  (.chk (IntKind.i64 = IntKind.i64 ∧
  bits BinOp.xor IntKind.i64 ((IntKind.i64.wrap (x * (2 : Int))).tmod (65536 : Int)) (4129 : Int) =
    bits BinOp.xor IntKind.i64 ((IntKind.i64.wrap (x * (2 : Int))).tmod (65536 : Int)) (4129 : Int))
  (.chk (IntKind.i64 = IntKind.i64 ∧ i = i)
  (.chk (IntKind.i64 = IntKind.i64 ∧ IntKind.i64.wrap (b.tdiv (2 : Int)) = IntKind.i64.wrap (b.tdiv (2 : Int)))
  (.chk (A = A ∧ [IntKind.u8] = [IntKind.u8] ∧ X = X ∧ n = n ∧ cap = cap)
  (.chk (IntKind.i64 = IntKind.i64 ∧ (↑n : Int) = (↑n : Int))
  (.chk (IntKind.i64 = IntKind.i64 ∧ i = i)
  (.leaf (.inl ⟨bits BinOp.xor IntKind.i64 ((IntKind.i64.wrap (x * (2 : Int))).tmod (65536 : Int)) (4129 : Int), IntKind.i64.wrap (b.tdiv (2 : Int))⟩))))))))))
  (.chk (A = A ∧ [IntKind.u8] = [IntKind.u8] ∧ X = X ∧ n = n ∧ cap = cap)
  (.chk (IntKind.u16 = IntKind.u16 ∧ (0 : Int) = (0 : Int))
  (.chk (IntKind.i64 = IntKind.i64 ∧
  (IntKind.i64.wrap (x * (2 : Int))).tmod (65536 : Int) = (IntKind.i64.wrap (x * (2 : Int))).tmod (65536 : Int))
  (.chk (IntKind.i64 = IntKind.i64 ∧ i = i)
  (.chk (IntKind.i64 = IntKind.i64 ∧ IntKind.i64.wrap (b.tdiv (2 : Int)) = IntKind.i64.wrap (b.tdiv (2 : Int)))
  (.chk (A = A ∧ [IntKind.u8] = [IntKind.u8] ∧ X = X ∧ n = n ∧ cap = cap)
  (.chk (IntKind.i64 = IntKind.i64 ∧ (↑n : Int) = (↑n : Int))
  (.chk (IntKind.i64 = IntKind.i64 ∧ i = i)
  (.leaf (.inl ⟨(IntKind.i64.wrap (x * (2 : Int))).tmod (65536 : Int), IntKind.i64.wrap (b.tdiv (2 : Int))⟩))))))))))))))
 (.chk (A = A ∧ [IntKind.u8] = [IntKind.u8] ∧ X = X ∧ n = n ∧ cap = cap)
 (.chk (IntKind.u16 = IntKind.u16 ∧ (0 : Int) = (0 : Int))
 (.chk (IntKind.i64 = IntKind.i64 ∧ x = x)
 (.chk (A = A ∧ [IntKind.u8] = [IntKind.u8] ∧ X = X ∧ n = n ∧ cap = cap)
 (.chk (IntKind.i64 = IntKind.i64 ∧ (↑n : Int) = (↑n : Int))
 (.chk (IntKind.i64 = IntKind.i64 ∧ i = i)
 (.leaf (.inr (.inl ⟨x⟩)))))))))) := by kernel_rfl
structure roP where
structure roX where
  x : Int
  i : Int
def roSt (A : Option Addr) (X : List Int) (n cap : Nat) : roP → roX → ASt := fun ⟨⟩ ⟨x, i⟩ => ⟨slots (List.replicate 38 .any) [(0, .v (.one (.xr A [.u8] X n cap))), (2, .v (.one (.int true .u16 0))), (3, .v (.one (.int false .i64 x))), (8, .v (.one (.xr A [.u8] X n cap))), (9, .v (.one (.int false .i64 (n : Int)))), (10, .v (.one (.int false .i64 i)))], []⟩
def roFin (A : Option Addr) (X : List Int) (n cap : Nat) : roP → roX → ASt := fun ⟨⟩ ⟨x, i⟩ => ⟨slots (List.replicate 38 .any) [(0, .v (.one (.xr A [.u8] X n cap))), (2, .v (.one (.int true .u16 0))), (3, .v (.one (.int false .i64 x))), (8, .v (.one (.xr A [.u8] X n cap))), (9, .v (.one (.int false .i64 (n : Int)))), (10, .v (.one (.int false .i64 i)))], []⟩
def roBck (A : Option Addr) (X : List Int) (n cap : Nat) : roP → Empty → ASt := fun _ z => nomatch z
def roNxP : ASt → Option roP := fun s => some ⟨⟩
def roNxX : ASt → Option roX := fun s => match gI s 3 with | none => none | some x => match gI s 10 with | none => none | some i => some ⟨x, i⟩
def roNxZ : ASt → Option Empty := fun _ => none
def roRo : ASt → List (Option Nat) := (fun _ => [])
def roRf : ASt → List (Option Nat) := (fun _ => [])
def roRb : ASt → List (Option Nat) := (fun _ => [])
structure roInv (A : Option Addr) (X : List Int) (n cap : Nat) (p : roP) (x : roX) : Prop where
  i0 : 0 ≤ x.i ∧ x.i ≤ n
  big : n ≤ 1000000000
  by_ : Bs X
  eq : x.x = crcL (X.take x.i.toNat)
structure roPost (A : Option Addr) (X : List Int) (n cap : Nat) (p : roP) (x : roX) : Prop where
  eq : x.x = crcL X
def roBack (A : Option Addr) (X : List Int) (n cap : Nat) (p : roP) (x : Empty) : Prop := False
def roLp (A : Option Addr) (X : List Int) (n cap : Nat) : Lp := ⟨14, 0, fun s => match roNxP s with
  | some p => match roNxX s with
    | some x => some (loopT 0 0 false roRo (roSt A X n cap p) (roFin A X n cap p) (roBck A X n cap p) (roInv A X n cap p) (roPost A X n cap p) (roBack A X n cap p) s x)
    | none => none
  | none => none⟩
theorem rostep_tree (w : World) (A : Option Addr) (X : List Int) (n cap : Nat) (x : Int) (i : Int) :
    roundT Try.prog w (flatT Try.prog) (noCtr) (callT Try.prog w (flatT Try.prog) (noCtr) (noPre) (lpOf Try.prog [riLp A X n cap]) 20) ((lpOf Try.prog [riLp A X n cap]) 14) (roundOf (bodyAt Try.prog 14 0)) 0 0 roRo roRf roRb (roSt A X n cap ⟨⟩) (roFin A X n cap ⟨⟩) (roBck A X n cap ⟨⟩) roNxX roNxX roNxZ ⟨x, i⟩ =
(.br (decide (i < (↑n : Int)))
 (.chk (sym.textAt Go.Proofs.Try.prog (14 : Go.FuncId) (2 : Nat) = sym.textAt Go.Proofs.Try.prog (14 : Go.FuncId) (2 : Nat))
 (.chk (A = A ∧ [IntKind.u8] = [IntKind.u8] ∧ X = X ∧ n = n ∧ cap = cap)
 (.chk (IntKind.u16 = IntKind.u16 ∧ (0 : Int) = (0 : Int))
 (.chk (IntKind.i64 = IntKind.i64 ∧ x = x)
 (.chk (IntKind.i64 = IntKind.i64 ∧ i = i)
 (.chk (IntKind.i64 = IntKind.i64 ∧ (128 : Int) = (128 : Int))
 (.chk (A = A ∧ [IntKind.u8] = [IntKind.u8] ∧ X = X ∧ n = n ∧ cap = cap)
 (.chk (IntKind.i64 = IntKind.i64 ∧ (↑n : Int) = (↑n : Int))
 (.chk (IntKind.i64 = IntKind.i64 ∧ i = i)
 (.chk (riInv A X n cap { i := i, x0 := x } { x := x, b := (128 : Int) })
 (.all fun x_1 : sym.Got riY
  (riPost A X n cap { i := i, x0 := x }) =>
  (.chk (A = A ∧ [IntKind.u8] = [IntKind.u8] ∧ X = X ∧ n = n ∧ cap = cap)
  (.chk (IntKind.u16 = IntKind.u16 ∧ (0 : Int) = (0 : Int))
  (.chk (IntKind.i64 = IntKind.i64 ∧ x_1.1.1 = x_1.1.1)
  (.chk (A = A ∧ [IntKind.u8] = [IntKind.u8] ∧ X = X ∧ n = n ∧ cap = cap)
  (.chk (IntKind.i64 = IntKind.i64 ∧ (↑n : Int) = (↑n : Int))
  (.chk (IntKind.i64 = IntKind.i64 ∧ IntKind.i64.wrap (i + (1 : Int)) = IntKind.i64.wrap (i + (1 : Int)))
  (.leaf (.inl ⟨x_1.1.1, IntKind.i64.wrap (i + (1 : Int))⟩)))))))))))))))))))
 (.chk (A = A ∧ [IntKind.u8] = [IntKind.u8] ∧ X = X ∧ n = n ∧ cap = cap)
 (.chk (IntKind.u16 = IntKind.u16 ∧ (0 : Int) = (0 : Int))
 (.chk (IntKind.i64 = IntKind.i64 ∧ x = x)
 (.chk (A = A ∧ [IntKind.u8] = [IntKind.u8] ∧ X = X ∧ n = n ∧ cap = cap)
 (.chk (IntKind.i64 = IntKind.i64 ∧ (↑n : Int) = (↑n : Int))
 (.chk (IntKind.i64 = IntKind.i64 ∧ i = i)
 (.leaf (.inr (.inl ⟨x, i⟩)))))))))) := by kernel_rfl
theorem rcheck_tree (w : World) (A : Option Addr) (X : List Int) (n cap : Nat) :
    callT Try.prog w (flatT Try.prog) (noCtr) (noPre) (lpOf Try.prog [roLp A X n cap]) 20 14 [.v (.one (.xr A [.u8] X n cap))] [] =
(.chk (sym.textAt Go.Proofs.Try.prog (14 : Go.FuncId) (0 : Nat) = sym.textAt Go.Proofs.Try.prog (14 : Go.FuncId) (0 : Nat))
(.chk (A = A ∧ [IntKind.u8] = [IntKind.u8] ∧ X = X ∧ n = n ∧ cap = cap)
(.chk (IntKind.u16 = IntKind.u16 ∧ (0 : Int) = (0 : Int))
(.chk (IntKind.i64 = IntKind.i64 ∧ (65535 : Int) = (65535 : Int))
(.chk (A = A ∧ [IntKind.u8] = [IntKind.u8] ∧ X = X ∧ n = n ∧ cap = cap)
(.chk (IntKind.i64 = IntKind.i64 ∧ (↑n : Int) = (↑n : Int))
(.chk (IntKind.i64 = IntKind.i64 ∧ (0 : Int) = (0 : Int))
(.chk (roInv A X n cap { } { x := (65535 : Int), i := (0 : Int) })
(.all fun x : sym.Got roX (roPost A X n cap { }) =>
 (.leaf ((.v (.one (.int false .u16 (IntKind.u16.wrap x.1.1)))), []))))))))))) := by kernel_rfl
theorem bit_in {k : Nat} (h : k ≤ 8) : 0 ≤ bitOf k ∧ bitOf k ≤ 128 ∧ (k < 8 ↔ 0 < bitOf k) ∧ (k < 8 → (bitOf k).tdiv 2 = bitOf (k + 1)) := by
  have : k = 0 ∨ k = 1 ∨ k = 2 ∨ k = 3 ∨ k = 4 ∨ k = 5 ∨ k = 6 ∨ k = 7 ∨ k = 8 := by omega
  rcases this with rfl | rfl | rfl | rfl | rfl | rfl | rfl | rfl | rfl <;> decide
def riMu (A : Option Addr) (X : List Int) (n cap : Nat) (p : riP) (x : riX) : Nat := x.b.toNat
theorem ri_step (w : World) (A : Option Addr) (X : List Int) (n cap : Nat) (p : riP) (x : riX) (hX : XR w A [.u8] X n) (h : riInv A X n cap p x) : Hid (roundT Try.prog w (flatT Try.prog) (noCtr) (callT Try.prog w (flatT Try.prog) (noCtr) (noPre) (noLoop) 20) ((noLoop) 14) (roundOf (bodyAt Try.prog 14 2)) 2 0 riRo riRf riRb (riSt A X n cap p) (riFin A X n cap p) (riBck A X n cap p) riNxX riNxY riNxZ x) (Kept (riInv A X n cap p) (riPost A X n cap p) (riBack A X n cap p) (riMu A X n cap p) x) := by
  obtain ⟨i, x0⟩ := p
  obtain ⟨x, b⟩ := x
  constructor
  rw [ristep_tree]
  simp only [T.holds, Kept, riMu, and_self, true_and, and_true]
  obtain ⟨i0, hB, a, k, ha, hk, hb, eq⟩ := h
  simp only at i0 hB ha hk hb eq
  simp only [List.length_singleton, Nat.mul_one, Nat.add_zero, Nat.zero_lt_one, true_and, and_true]
  have hn : X.length = n := by simpa using hX.1
  obtain ⟨b1, b2, b3, b4⟩ := bit_in hk
  rw [← hb] at b1 b2 b3 b4
  have hyB := hB i.toNat
  have hxe : x = I (rrB k a (up (X.getD i.toNat 0))) := by rw [eq, ha]; exact rrI_is a hyB k hk
  have hxr := I_lt (rrB k a (up (X.getD i.toNat 0)))
  rw [← hxe] at hxr
  refine ⟨fun hlt => ?_, fun hge => ?_⟩
  · have hlt : b > 0 := of_decide_eq_true hlt
    have hk8 : k < 8 := b3.2 hlt
    have e2 := b4 hk8
    have hb' : b = (2 : Int) ^ (7 - k) := by rw [hb]; unfold bitOf; rw [if_pos hk8]
    have hr : rrI (k + 1) x0 (X.getD i.toNat 0) = rstepI x ((X.getD i.toNat 0).tdiv b |>.tmod 2) := by rw [rrI, ← eq, hb']
    have h1 : 0 ≤ (X.getD i.toNat 0).tdiv b ∧ (X.getD i.toNat 0).tdiv b ≤ 255 := by
      rw [Int.tdiv_eq_ediv_of_nonneg hyB.1]
      have g1 := Int.ediv_nonneg hyB.1 b1
      have g2 := Int.ediv_le_self b hyB.1
      have := hyB.2
      exact ⟨g1, by omega⟩
    have hw1 : IntKind.i64.wrap (X.getD i.toNat 0) = X.getD i.toNat 0 := wi64 _ (by have := hyB.1; omega) (by have := hyB.2; omega)
    have hw2 : IntKind.i64.wrap ((X.getD i.toNat 0).tdiv b) = (X.getD i.toNat 0).tdiv b := wi64 _ (by omega) (by omega)
    have hxd : 0 ≤ x.tdiv 32768 ∧ x.tdiv 32768 ≤ 65536 := by rw [Int.tdiv_eq_ediv_of_nonneg hxr.1]; omega
    have hbd : 0 ≤ b.tdiv 2 ∧ b.tdiv 2 ≤ 128 := by rw [Int.tdiv_eq_ediv_of_nonneg b1]; omega
    rw [hw1, hw2, wi64 (x.tdiv 32768) (by omega) (by omega), wi64 (b.tdiv 2) (by omega) (by omega)]
    have next : ∀ z, z = rstepI x ((X.getD i.toNat 0).tdiv b |>.tmod 2) → riInv A X n cap ⟨i, x0⟩ ⟨z, b.tdiv 2⟩ ∧ riMu A X n cap ⟨i, x0⟩ ⟨z, b.tdiv 2⟩ < riMu A X n cap ⟨i, x0⟩ ⟨x, b⟩ := fun z hz => by
      refine ⟨⟨i0, hB, a, k + 1, ha, by omega, e2, ?_⟩, ?_⟩
      · show z = rrI (k + 1) x0 (X.getD i.toNat 0)
        rw [hr, hz]
      · show (b.tdiv 2).toNat < b.toNat
        rw [Int.tdiv_eq_ediv_of_nonneg b1]
        omega
    refine ⟨⟨hX, i0.1, i0.2⟩, ⟨hX.2, by omega⟩, by omega, fun hne => next _ ?_, fun he => next _ ?_⟩
    · unfold rstepI
      rw [if_pos (by simpa using hne)]
    · unfold rstepI
      rw [if_neg (by simpa using he)]
  · have hge : ¬ b > 0 := of_decide_eq_false hge
    have hk8 : k = 8 := by
      rcases Nat.lt_or_ge k 8 with h | h
      · exact absurd (b3.1 h) hge
      · omega
    subst hk8
    exact ⟨eq⟩
theorem riLp_ok (w : World) (A : Option Addr) (X : List Int) (n cap : Nat) (hX : XR w A [.u8] X n) : (riLp A X n cap).ok Try.prog w := by
  intro s t h
  unfold riLp at h
  simp only at h
  split at h
  · rename_i p _
    split at h
    · rename_i x _
      cases h
      exact loop_ok base2 (ctrs_none _ w) (callT_ok base2.mixed base2.names base2.eqs (ctrs_none _ w).ok (ctrs_none _ w).there (pre_none _ _) (loops_none _ _) 20) ((loops_none _ _) 14) (c := roundOf (bodyAt Try.prog 14 2)) (by kernel_rfl) (id := 2) (n := 0) (hr := false) (ro := riRo) (rf := riRf) (rr := riRb) (st := riSt A X n cap p) (fin := riFin A X n cap p) (bck := riBck A X n cap p) (inv := riInv A X n cap p) (post := riPost A X n cap p) (back := riBack A X n cap p) (nx := riNxX) (fx := riNxY) (bx := riNxZ) (riMu A X n cap p) (nf := 0) (nf' := 0) (nf'' := 0) (fun x => by kernel_rfl) (fun y => by kernel_rfl) (fun z => nomatch z) (.inr fun z => nomatch z) (fun x hx => ri_step w A X n cap p x hX hx) s x
    · cases h
  · cases h
def roMu (A : Option Addr) (X : List Int) (n cap : Nat) (p : roP) (x : roX) : Nat := (n - x.i).toNat
theorem ro_step (w : World) (A : Option Addr) (X : List Int) (n cap : Nat) (p : roP) (x : roX) (hX : XR w A [.u8] X n) (h : roInv A X n cap p x) : Hid (roundT Try.prog w (flatT Try.prog) (noCtr) (callT Try.prog w (flatT Try.prog) (noCtr) (noPre) (lpOf Try.prog [riLp A X n cap]) 20) ((lpOf Try.prog [riLp A X n cap]) 14) (roundOf (bodyAt Try.prog 14 0)) 0 0 roRo roRf roRb (roSt A X n cap p) (roFin A X n cap p) (roBck A X n cap p) roNxX roNxX roNxZ x) (Kept (roInv A X n cap p) (roPost A X n cap p) (roBack A X n cap p) (roMu A X n cap p) x) := by
  obtain ⟨⟩ := p
  obtain ⟨x, i⟩ := x
  constructor
  rw [rostep_tree]
  simp only [T.holds, Kept, roMu, and_self, true_and, and_true]
  obtain ⟨i0, big, hB, eq⟩ := h
  simp only at i0 big hB eq
  have hn : X.length = n := by simpa using hX.1
  refine ⟨fun hlt => ?_, fun hge => ?_⟩
  · have hi : i < (n : Int) := of_decide_eq_true hlt
    rw [wi64 (i + 1) (by omega) (by omega)]
    refine ⟨⟨⟨i0.1, hi⟩, hB, _, 0, eq, by omega, rfl, rfl⟩, fun y => ⟨⟨by show 0 ≤ i + 1 ∧ i + 1 ≤ n; omega, big, hB, ?_⟩, by omega⟩⟩
    have hy := y.so.eq
    simp only at hy
    show y.it.x = crcL (X.take (i + 1).toNat)
    rw [hy, eq]
    unfold crcL
    rw [rbyte_is _ (hB _), show (i + 1).toNat = i.toNat + 1 by omega, crc_take X (by omega)]
  · have hi : ¬ i < (n : Int) := of_decide_eq_false hge
    refine ⟨?_⟩
    show x = crcL X
    rw [eq, List.take_of_length_le (by omega)]
theorem roLp_ok (w : World) (A : Option Addr) (X : List Int) (n cap : Nat) (hX : XR w A [.u8] X n) : (roLp A X n cap).ok Try.prog w := by
  intro s t h
  unfold roLp at h
  simp only at h
  split at h
  · rename_i p _
    split at h
    · rename_i x _
      cases h
      exact loop_ok base2 (ctrs_none _ w) (callT_ok base2.mixed base2.names base2.eqs (ctrs_none _ w).ok (ctrs_none _ w).there (pre_none _ _) ((lps_ok (ls := [riLp A X n cap]) fun l hl => by (simp only [List.mem_cons, List.not_mem_nil, or_false] at hl; subst hl; exact riLp_ok w A X n cap hX))) 20) (((lps_ok (ls := [riLp A X n cap]) fun l hl => by (simp only [List.mem_cons, List.not_mem_nil, or_false] at hl; subst hl; exact riLp_ok w A X n cap hX))) 14) (c := roundOf (bodyAt Try.prog 14 0)) (by kernel_rfl) (id := 0) (n := 0) (hr := false) (ro := roRo) (rf := roRf) (rr := roRb) (st := roSt A X n cap p) (fin := roFin A X n cap p) (bck := roBck A X n cap p) (inv := roInv A X n cap p) (post := roPost A X n cap p) (back := roBack A X n cap p) (nx := roNxX) (fx := roNxX) (bx := roNxZ) (roMu A X n cap p) (nf := 0) (nf' := 0) (nf'' := 0) (fun x => by kernel_rfl) (fun y => by kernel_rfl) (fun z => nomatch z) (.inr fun z => nomatch z) (fun x hx => ro_step w A X n cap p x hX hx) s x
    · cases h
  · cases h
theorem rcheckC_ok (w0 : World) : rcheckC.Ok Try.prog w0 := by
  refine rctr_ok base2 ⟨_, Try.func14, rfl⟩ (ctr := fun w => noCtr) w0 (fun w _ => ctrs_none _ w) (pre := fun w => noPre) (fun w _ => pre_none _ w) (n := 20) fun w hw0 cas args t h ha K hK => ?_
  unfold rcheckC at h
  simp only at h
  split at h
  · cases h
    obtain ⟨y0, rfl, q0⟩ := all2_1 ha
    obtain ⟨a, c, rfl, hX, hc⟩ := argRow q0
    rename_i n xs
    obtain ⟨⟨big, hB⟩, hK⟩ := hK
    refine ⟨lpOf Try.prog [roLp a xs n c], lps_ok fun l hl => ?_, ?_⟩
    · simp only [List.mem_cons, List.not_mem_nil, or_false] at hl
      subst hl
      exact roLp_ok w _ _ _ _ hX
    rw [show rcheckC.f = 14 from rfl, rcheck_tree]
    simp only [T.holds, and_self, true_and, and_true]
    refine ⟨⟨by show (0 : Int) ≤ 0 ∧ (0 : Int) ≤ n; omega, big, hB, by rfl⟩, fun y => ⟨_, [_], hK, rfl, .cons (.av rfl fun _ => ?_) .nil⟩⟩
    have e := y.so.eq
    have := crcL_W xs
    simp only [V.γ, Sc.γ, e]
    rw [wu16, Int.emod_eq_of_lt this.1 this.2]
  · cases h
theorem clone_tree (w : World) (A : Option Addr) (X : List Int) (n cap : Nat) :
    callT Try.prog w (flatT Try.prog) (noCtr) (noPre) (noLoop) 20 24 [.v (.one (.xr A [.u8] X n cap))] [] =
(.br (A.isNone)
 (.leaf ((.v (.one .nos)), []))
 (.chk ((sym.XR w A [IntKind.u8] X n ∧ n ≤ cap) ∧
  True ∧ ((0 : Nat) + n) * (1 : Nat) ≤ (140737488355328 : Nat))
 (.all fun x : sym.Grown false n ((0 : Nat) + n) =>
  (.leaf ((.v (.one (.gs 1 (x.nl') 1 0 ((0 : Nat) + n) (x.cap)))), [⟨[.dead], 5⟩, ⟨[(.row (x.nl') ([IntKind.u8]) ([] ++ X) (x.cap))], 5⟩]))))) := by kernel_rfl
theorem cloneC_ok (w0 : World) : cloneC.Ok Try.prog w0 := by
  refine rctr_ok base2 ⟨_, Try.func24, rfl⟩ (ctr := fun w => noCtr) w0 (fun w _ => ctrs_none _ w) (pre := fun w => noPre) (fun w _ => pre_none _ w) (n := 20) fun w hw0 cas args t h ha K hK => ?_
  unfold cloneC at h
  simp only at h
  split at h
  · cases h
    obtain ⟨y0, rfl, q0⟩ := all2_1 ha
    obtain ⟨a, c, rfl, hX, hc⟩ := argRow q0
    rename_i n xs
    obtain ⟨big, hK⟩ := hK
    refine ⟨noLoop, loops_none _ _, ?_⟩
    have hn : xs.length = n := by simpa using hX.1
    rw [show cloneC.f = 24 from rfl, clone_tree]
    refine ⟨fun hnil => ?_, fun hnil => ⟨⟨⟨hX, hc⟩, trivial, by omega⟩, by rw [Nat.zero_add]; intro g; exact ⟨_, [_], hK (rowR g), rfl, .cons (.row (r := 1) rfl fun h => (rowR g).nil h) .nil⟩⟩⟩
    · have e : xs = [] := by
        cases xs with
        | nil => rfl
        | cons x l =>
          obtain ⟨b, off, rfl, _⟩ := hX.2 0 (by simp)
          cases hnil
      subst e
      have hn : n = 0 := by simpa using hn.symm
      subst hn
      exact ⟨_, [_], hK ⟨true, 0, fun _ => ⟨rfl, rfl⟩, Nat.le_refl _, by decide⟩, rfl, .cons .nil .nil⟩
  · cases h
theorem ext_getD {X Y : List Int} (hl : X.length = Y.length) (h : ∀ j, j < X.length → X.getD j 0 = Y.getD j 0) : X = Y := by
  apply List.ext_getElem hl
  intro j h1 h2
  have := h j h1
  rw [List.getD_eq_getElem?_getD, List.getD_eq_getElem?_getD, List.getElem?_eq_getElem h1, List.getElem?_eq_getElem h2] at this
  exact this
structure smP where
structure smX where
  i : Int
structure smZ where
def smSt (A : Option Addr) (X : List Int) (n cap : Nat) (A2 : Option Addr) (Y : List Int) (m cap2 : Nat) : smP → smX → ASt := fun ⟨⟩ ⟨i⟩ => ⟨slots (List.replicate 26 .any) [(0, .v (.one (.xr A [.u8] X n cap))), (1, .v (.one (.xr A2 [.u8] Y m cap2))), (4, .v (.one (.bool true false))), (12, .v (.one (.int false .i64 (n : Int)))), (13, .v (.one (.int false .i64 i)))], []⟩
def smFin (A : Option Addr) (X : List Int) (n cap : Nat) (A2 : Option Addr) (Y : List Int) (m cap2 : Nat) : smP → smX → ASt := fun ⟨⟩ ⟨i⟩ => ⟨slots (List.replicate 26 .any) [(0, .v (.one (.xr A [.u8] X n cap))), (1, .v (.one (.xr A2 [.u8] Y m cap2))), (4, .v (.one (.bool true false))), (12, .v (.one (.int false .i64 (n : Int)))), (13, .v (.one (.int false .i64 i)))], []⟩
def smBck (A : Option Addr) (X : List Int) (n cap : Nat) (A2 : Option Addr) (Y : List Int) (m cap2 : Nat) : smP → smZ → ASt := fun ⟨⟩ ⟨⟩ => ⟨slots (List.replicate 26 .any) [(4, .v (.one (.bool true false)))], []⟩
def smNxP : ASt → Option smP := fun s => some ⟨⟩
def smNxX : ASt → Option smX := fun s => match gI s 13 with | none => none | some i => some ⟨i⟩
def smNxZ : ASt → Option smZ := fun s => some ⟨⟩
def smRo : ASt → List (Option Nat) := (fun _ => [])
def smRf : ASt → List (Option Nat) := (fun _ => [])
def smRb : ASt → List (Option Nat) := (fun _ => [])
structure smInv (A : Option Addr) (X : List Int) (n cap : Nat) (A2 : Option Addr) (Y : List Int) (m cap2 : Nat) (p : smP) (x : smX) : Prop where
  i0 : 0 ≤ x.i
  i1 : x.i ≤ n
  mn : m = n
  big : n ≤ 1000000000
  eq : ∀ j : Nat, (j : Int) < x.i → X.getD j 0 = Y.getD j 0
structure smPost (A : Option Addr) (X : List Int) (n cap : Nat) (A2 : Option Addr) (Y : List Int) (m cap2 : Nat) (p : smP) (x : smX) : Prop where
  eq : X = Y
structure smBack (A : Option Addr) (X : List Int) (n cap : Nat) (A2 : Option Addr) (Y : List Int) (m cap2 : Nat) (p : smP) (x : smZ) : Prop where
  ne : X ≠ Y
def smLp (A : Option Addr) (X : List Int) (n cap : Nat) (A2 : Option Addr) (Y : List Int) (m cap2 : Nat) : Lp := ⟨12, 0, fun s => match smNxP s with
  | some p => match smNxX s with
    | some x => some (loopT 0 0 true smRo (smSt A X n cap A2 Y m cap2 p) (smFin A X n cap A2 Y m cap2 p) (smBck A X n cap A2 Y m cap2 p) (smInv A X n cap A2 Y m cap2 p) (smPost A X n cap A2 Y m cap2 p) (smBack A X n cap A2 Y m cap2 p) s x)
    | none => none
  | none => none⟩
theorem smstep_tree (w : World) (A : Option Addr) (X : List Int) (n cap : Nat) (A2 : Option Addr) (Y : List Int) (m cap2 : Nat) (i : Int) :
    roundT Try.prog w (flatT Try.prog) (noCtr) (callT Try.prog w (flatT Try.prog) (noCtr) (noPre) (noLoop) 20) ((noLoop) 12) (roundOf (bodyAt Try.prog 12 0)) 0 0 smRo smRf smRb (smSt A X n cap A2 Y m cap2 ⟨⟩) (smFin A X n cap A2 Y m cap2 ⟨⟩) (smBck A X n cap A2 Y m cap2 ⟨⟩) smNxX smNxX smNxZ ⟨i⟩ =
(.br (decide (i < (↑n : Int)))
 (.chk (sym.XR w A [IntKind.u8] X n ∧
  (0 : Int) ≤ i ∧ i < (↑n : Int) ∧ (0 : Nat) < [IntKind.u8].length)
 (.chk (sym.XC w A [IntKind.u8] X ∧
  (0 : Nat) < (1 : Nat) ∧ i.toNat * [IntKind.u8].length + (1 : Nat) ≤ X.length)
 (.chk (sym.XR w A2 [IntKind.u8] Y m ∧
  (0 : Int) ≤ i ∧ i < (↑m : Int) ∧ (0 : Nat) < [IntKind.u8].length)
 (.chk (sym.XC w A2 [IntKind.u8] Y ∧
  (0 : Nat) < (1 : Nat) ∧ i.toNat * [IntKind.u8].length + (1 : Nat) ≤ Y.length)
 (.br (X.getD (i.toNat * [IntKind.u8].length + (0 : Nat)) (0 : Int) !=
  Y.getD (i.toNat * [IntKind.u8].length + (0 : Nat)) (0 : Int))
  (.chk (false = false)
  (.leaf (.inr (.inr ⟨⟩))))
  (.chk (A = A ∧ [IntKind.u8] = [IntKind.u8] ∧ X = X ∧ n = n ∧ cap = cap)
  (.chk (A2 = A2 ∧ [IntKind.u8] = [IntKind.u8] ∧ Y = Y ∧ m = m ∧ cap2 = cap2)
  (.chk (false = false)
  (.chk (IntKind.i64 = IntKind.i64 ∧ (↑n : Int) = (↑n : Int))
  (.chk (IntKind.i64 = IntKind.i64 ∧ IntKind.i64.wrap (i + (1 : Int)) = IntKind.i64.wrap (i + (1 : Int)))
  (.leaf (.inl ⟨IntKind.i64.wrap (i + (1 : Int))⟩))))))))))))
 (.chk (A = A ∧ [IntKind.u8] = [IntKind.u8] ∧ X = X ∧ n = n ∧ cap = cap)
 (.chk (A2 = A2 ∧ [IntKind.u8] = [IntKind.u8] ∧ Y = Y ∧ m = m ∧ cap2 = cap2)
 (.chk (false = false)
 (.chk (IntKind.i64 = IntKind.i64 ∧ (↑n : Int) = (↑n : Int))
 (.chk (IntKind.i64 = IntKind.i64 ∧ i = i)
 (.leaf (.inr (.inl ⟨i⟩))))))))) := by kernel_rfl
theorem same_tree (w : World) (A : Option Addr) (X : List Int) (n cap : Nat) (A2 : Option Addr) (Y : List Int) (m cap2 : Nat) :
    callT Try.prog w (flatT Try.prog) (noCtr) (noPre) (lpOf Try.prog [smLp A X n cap A2 Y m cap2]) 20 12 [.v (.one (.xr A [.u8] X n cap)), .v (.one (.xr A2 [.u8] Y m cap2))] [] =
(.br ((↑n : Int) != (↑m : Int))
 (.leaf ((.v (.one (.bool true false))), []))
 (.chk (sym.textAt Go.Proofs.Try.prog (12 : Go.FuncId) (0 : Nat) = sym.textAt Go.Proofs.Try.prog (12 : Go.FuncId) (0 : Nat))
 (.chk (A = A ∧ [IntKind.u8] = [IntKind.u8] ∧ X = X ∧ n = n ∧ cap = cap)
 (.chk (A2 = A2 ∧ [IntKind.u8] = [IntKind.u8] ∧ Y = Y ∧ m = m ∧ cap2 = cap2)
 (.chk (false = false)
 (.chk (IntKind.i64 = IntKind.i64 ∧ (↑n : Int) = (↑n : Int))
 (.chk (IntKind.i64 = IntKind.i64 ∧ (0 : Int) = (0 : Int))
 (.chk (smInv A X n cap A2 Y m cap2 { } { i := (0 : Int) })
 (.all fun x : Bool =>
  (.br (x)
   (.all fun x_1 : sym.Got smX
  (smPost A X n cap A2 Y m cap2 { }) =>
    (.leaf ((.v (.one (.bool true true))), [])))
   (.all fun x_1 : sym.Got smZ
  (smBack A X n cap A2 Y m cap2 { }) =>
    (.leaf ((.v (.one (.bool true false))), []))))))))))))) := by kernel_rfl
def smMu (A : Option Addr) (X : List Int) (n cap : Nat) (A2 : Option Addr) (Y : List Int) (m cap2 : Nat) (p : smP) (x : smX) : Nat := (n - x.i).toNat
theorem sm_step (w : World) (A : Option Addr) (X : List Int) (n cap : Nat) (A2 : Option Addr) (Y : List Int) (m cap2 : Nat) (p : smP) (x : smX) (hX : XR w A [.u8] X n) (hY : XR w A2 [.u8] Y m) (h : smInv A X n cap A2 Y m cap2 p x) : Hid (roundT Try.prog w (flatT Try.prog) (noCtr) (callT Try.prog w (flatT Try.prog) (noCtr) (noPre) (noLoop) 20) ((noLoop) 12) (roundOf (bodyAt Try.prog 12 0)) 0 0 smRo smRf smRb (smSt A X n cap A2 Y m cap2 p) (smFin A X n cap A2 Y m cap2 p) (smBck A X n cap A2 Y m cap2 p) smNxX smNxX smNxZ x) (Kept (smInv A X n cap A2 Y m cap2 p) (smPost A X n cap A2 Y m cap2 p) (smBack A X n cap A2 Y m cap2 p) (smMu A X n cap A2 Y m cap2 p) x) := by
  obtain ⟨⟩ := p
  obtain ⟨i⟩ := x
  constructor
  rw [smstep_tree]
  simp only [T.holds, Kept, smMu, and_self, true_and, and_true]
  obtain ⟨i0, i1, mn, big, eq⟩ := h
  simp only at i0 i1 mn big eq
  simp only [List.length_singleton, Nat.mul_one, Nat.add_zero, Nat.zero_lt_one, true_and, and_true]
  have hn : X.length = n := by simpa using hX.1
  have hm : Y.length = m := by simpa using hY.1
  refine ⟨fun hlt => ?_, fun hge => ?_⟩
  · have hi : i < (n : Int) := by simpa using hlt
    have hw : IntKind.i64.wrap (i + 1) = i + 1 := wi64 _ (by omega) (by omega)
    refine ⟨⟨hX, i0, hi⟩, ⟨hX.2, by omega⟩, ⟨hY, i0, by omega⟩, ⟨hY.2, by omega⟩, fun hne => ⟨?_⟩, fun he => ?_⟩
    · rintro rfl
      simp at hne
    · rw [hw]
      refine ⟨⟨by show 0 ≤ i + 1; omega, by show i + 1 ≤ n; omega, mn, big, fun j hj => ?_⟩, by omega⟩
      have hj : (j : Int) < i + 1 := hj
      by_cases e : (j : Int) = i
      · have : i.toNat = j := by omega
        rw [this] at he
        simpa using he
      · exact eq j (by omega)
  · have hi : ¬ i < (n : Int) := by simpa using hge
    exact ⟨ext_getD (by omega) fun j hj => eq j (by omega)⟩
theorem smLp_ok (w : World) (A : Option Addr) (X : List Int) (n cap : Nat) (A2 : Option Addr) (Y : List Int) (m cap2 : Nat) (hX : XR w A [.u8] X n) (hY : XR w A2 [.u8] Y m) : (smLp A X n cap A2 Y m cap2).ok Try.prog w := by
  intro s t h
  unfold smLp at h
  simp only at h
  split at h
  · rename_i p _
    split at h
    · rename_i x _
      cases h
      exact loop_ok base2 (ctrs_none _ w) (callT_ok base2.mixed base2.names base2.eqs (ctrs_none _ w).ok (ctrs_none _ w).there (pre_none _ _) (loops_none _ _) 20) ((loops_none _ _) 12) (c := roundOf (bodyAt Try.prog 12 0)) (by kernel_rfl) (id := 0) (n := 0) (hr := true) (ro := smRo) (rf := smRf) (rr := smRb) (st := smSt A X n cap A2 Y m cap2 p) (fin := smFin A X n cap A2 Y m cap2 p) (bck := smBck A X n cap A2 Y m cap2 p) (inv := smInv A X n cap A2 Y m cap2 p) (post := smPost A X n cap A2 Y m cap2 p) (back := smBack A X n cap A2 Y m cap2 p) (nx := smNxX) (fx := smNxX) (bx := smNxZ) (smMu A X n cap A2 Y m cap2 p) (nf := 0) (nf' := 0) (nf'' := 0) (fun x => by kernel_rfl) (fun y => by kernel_rfl) (fun z => by kernel_rfl) (.inl rfl) (fun x hx => sm_step w A X n cap A2 Y m cap2 p x hX hY hx) s x
    · cases h
  · cases h
def sameC : RCtr := ⟨12, [some [.u8], some [.u8]], fun | [.row [.u8] n xs, .row [.u8] m ys] => some (.chk (n ≤ 1000000000) (.leaf [.av (.one (.bool false (decide (xs = ys))))])) | _ => none⟩
theorem sameC_ok (w0 : World) : sameC.Ok Try.prog w0 := by
  refine rctr_ok base2 ⟨_, Try.func12, rfl⟩ (ctr := fun w => noCtr) w0 (fun w _ => ctrs_none _ w) (pre := fun w => noPre) (fun w _ => pre_none _ w) (n := 20) fun w hw0 cas args t h ha K hK => ?_
  unfold sameC at h
  simp only at h
  split at h
  · cases h
    obtain ⟨y0, y1, rfl, q0, q1⟩ := all2_2 ha
    obtain ⟨a, c, rfl, hX, hc⟩ := argRow q0
    obtain ⟨a2, c2, rfl, hY, hc2⟩ := argRow q1
    rename_i n xs m ys
    obtain ⟨big, hK⟩ := hK
    refine ⟨lpOf Try.prog [smLp a xs n c a2 ys m c2], lps_ok fun l hl => ?_, ?_⟩
    · simp only [List.mem_cons, List.not_mem_nil, or_false] at hl
      subst hl
      exact smLp_ok w _ _ _ _ _ _ _ _ hX hY
    rw [show sameC.f = 12 from rfl, same_tree]
    have hn : xs.length = n := by simpa using hX.1
    have hm : ys.length = m := by simpa using hY.1
    simp only [T.holds, and_self, true_and, and_true]
    refine ⟨fun hne => ?_, fun he => ?_⟩
    · refine ⟨_, [_], hK, rfl, .cons (.av rfl fun _ => ?_) .nil⟩
      have : xs ≠ ys := by rintro rfl; simp at hne; omega
      simp only [V.γ, Sc.γ, show decide (xs = ys) = false by simpa using this]
    · have he : (n : Int) = m := by simpa using he
      have he : n = m := by omega
      refine ⟨⟨by show (0:Int) ≤ 0; omega, by show (0:Int) ≤ n; omega, he.symm, big, fun j hj => by have : (j : Int) < 0 := hj; omega⟩, fun b => ⟨fun _ y => ?_, fun _ z => ?_⟩⟩
      · refine ⟨_, [_], hK, rfl, .cons (.av rfl fun _ => ?_) .nil⟩
        simp only [V.γ, Sc.γ, show decide (xs = ys) = true by simpa using y.so.eq]
      · refine ⟨_, [_], hK, rfl, .cons (.av rfl fun _ => ?_) .nil⟩
        simp only [V.γ, Sc.γ, show decide (xs = ys) = false by simpa using z.so.ne]
  · cases h
end Go.Proofs.Ytmenafkmkcodlaa
