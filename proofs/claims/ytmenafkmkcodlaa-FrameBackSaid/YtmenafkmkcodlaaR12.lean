/-
  The check of a sum: the plain law, and the law walked.
-/
import Derived.Test.YtmenafkmkcodlaaR11
namespace Go.Proofs.Ytmenafkmkcodlaa
open Go.RowKit sym
set_option linter.unusedVariables false
set_option linter.unusedSimpArgs false
set_option maxRecDepth 100000
def sumB : List Int → List Int → List Int → List Int
  | x :: X, y :: Y, z :: Z => bits .xor .u8 x (bits .xor .u8 y z) :: sumB X Y Z
  | _, _, _ => []
theorem u8x {x y : Int} (hx : B x) (hy : B y) : bits .xor .u8 x y = ((x.toNat ^^^ y.toNat : Nat) : Int) ∧ x.toNat ^^^ y.toNat < 256 := by
  obtain ⟨h1, h2⟩ := hx
  obtain ⟨h3, h4⟩ := hy
  have hlt : x.toNat ^^^ y.toNat < 2 ^ 8 := Nat.xor_lt_two_pow (n := 8) (by omega) (by omega)
  refine ⟨?_, hlt⟩
  show IntKind.u8.wrap ((BitVec.ofInt 8 x ^^^ BitVec.ofInt 8 y).toNat : Nat) = _
  rw [BitVec.toNat_xor, BitVec.toNat_ofInt, BitVec.toNat_ofInt]
  have e1 : (x % ((2 ^ 8 : Nat) : Int)).toNat = x.toNat := by omega
  have e2 : (y % ((2 ^ 8 : Nat) : Int)).toNat = y.toNat := by omega
  rw [e1, e2, wu8]
  omega
theorem up_xor {x y : Int} (hx : B x) (hy : B y) : up (bits .xor .u8 x y) = up x ^^^ up y ∧ B (bits .xor .u8 x y) := by
  obtain ⟨e, hlt⟩ := u8x hx hy
  rw [e]
  refine ⟨?_, by omega, by omega⟩
  obtain ⟨h1, h2⟩ := hx
  obtain ⟨h3, h4⟩ := hy
  unfold up
  apply BitVec.eq_of_toNat_eq
  rw [BitVec.toNat_xor, BitVec.toNat_ofNat, BitVec.toNat_ofNat, BitVec.toNat_ofNat, Int.toNat_natCast]
  have a1 : (x.toNat ^^^ y.toNat) * 256 = x.toNat * 256 ^^^ y.toNat * 256 := by
    have := Nat.shiftLeft_xor_distrib (a := x.toNat) (b := y.toNat) (i := 8)
    rwa [Nat.shiftLeft_eq, Nat.shiftLeft_eq, Nat.shiftLeft_eq] at this
  rw [Nat.mod_eq_of_lt (a := (x.toNat ^^^ y.toNat) * 256) (by omega), Nat.mod_eq_of_lt (a := x.toNat * 256) (by omega), Nat.mod_eq_of_lt (a := y.toNat * 256) (by omega), a1]
theorem Bs.tail {x : Int} {X : List Int} (h : Bs (x :: X)) : B x ∧ Bs X := ⟨h.mem (List.mem_cons_self ..), .of fun y hy => h.mem (List.mem_cons_of_mem _ hy)⟩
theorem crcB_sum : ∀ (X Y Z : List Int) (a b c : BitVec 16), X.length = Y.length → X.length = Z.length → Bs X → Bs Y → Bs Z → crcB (a ^^^ (b ^^^ c)) (sumB X Y Z) = crcB a X ^^^ (crcB b Y ^^^ crcB c Z)
  | [], [], [], a, b, c, _, _, _, _, _ => rfl
  | x :: X, y :: Y, z :: Z, a, b, c, h1, h2, hx, hy, hz => by
    obtain ⟨x1, x2⟩ := hx.tail
    obtain ⟨y1, y2⟩ := hy.tail
    obtain ⟨z1, z2⟩ := hz.tail
    obtain ⟨e1, b1⟩ := up_xor y1 z1
    obtain ⟨e2, b2⟩ := up_xor x1 b1
    show crcB (byteB (a ^^^ (b ^^^ c)) (bits .xor .u8 x (bits .xor .u8 y z))) (sumB X Y Z) = crcB (byteB a x) X ^^^ (crcB (byteB b y) Y ^^^ crcB (byteB c z) Z)
    rw [byteB_xor e2, byteB_xor e1]
    exact crcB_sum X Y Z _ _ _ (by simpa using h1) (by simpa using h2) x2 y2 z2
  | [], _ :: _, _, _, _, _, h, _, _, _, _ => by simp at h
  | [], [], _ :: _, _, _, _, _, h, _, _, _ => by simp at h
  | _ :: _, [], _, _, _, _, h, _, _, _, _ => by simp at h
  | _ :: _, _ :: _, [], _, _, _, _, h, _, _, _ => by simp at h
theorem crcL_sum {X Y Z : List Int} (h1 : X.length = Y.length) (h2 : X.length = Z.length) (hx : Bs X) (hy : Bs Y) (hz : Bs Z) : crcL (sumB X Y Z) = bits .xor .u16 (bits .xor .u16 (crcL X) (crcL Y)) (crcL Z) := by
  have := crcB_sum X Y Z 0xffff#16 0xffff#16 0xffff#16 h1 h2 hx hy hz
  rw [show (0xffff#16 ^^^ (0xffff#16 ^^^ 0xffff#16)) = 0xffff#16 by decide] at this
  unfold crcL
  rw [I_xor, I_xor, this, BitVec.xor_assoc]
theorem sum_is : ∀ (X Y Z S : List Int), X.length = Y.length → X.length = Z.length → S.length = X.length → (∀ j, j < X.length → S.getD j 0 = bits .xor .u8 (X.getD j 0) (bits .xor .u8 (Y.getD j 0) (Z.getD j 0))) → S = sumB X Y Z
  | [], [], [], S, _, _, hs, _ => by
    have : S = [] := List.eq_nil_of_length_eq_zero (by simpa using hs)
    rw [this]; rfl
  | x :: X, y :: Y, z :: Z, [], _, _, hs, _ => by simp at hs
  | x :: X, y :: Y, z :: Z, s :: S, h1, h2, hs, h => by
    have h0 := h 0 (by simp)
    simp only [List.getD_cons_zero] at h0
    have ht := sum_is X Y Z S (by simpa using h1) (by simpa using h2) (by simpa using hs) fun j hj => by
      have := h (j + 1) (by simpa using hj)
      simpa only [List.getD_cons_succ] using this
    rw [h0, ht]; rfl
  | [], _ :: _, _, _, h, _, _, _ => by simp at h
  | [], [], _ :: _, _, _, h, _, _ => by simp at h
  | _ :: _, [], _, _, h, _, _, _ => by simp at h
  | _ :: _, _ :: _, [], _, _, h, _, _ => by simp at h
structure suP where
  nl : Bool
  q : Nat
  qc : Nat
structure suX where
  S : List Int
  i : Nat
def suSt (A : Option Addr) (X : List Int) (n cap : Nat) (A2 : Option Addr) (Y : List Int) (m cap2 : Nat) (A3 : Option Addr) (Z : List Int) (r cap3 : Nat) : suP → suX → ASt := fun ⟨nl, q, qc⟩ ⟨S, i⟩ => ⟨slots (List.replicate 66 .any) [(0, .v (.one (.xr A [.u8] X n cap))), (1, .v (.one (.xr A2 [.u8] Y m cap2))), (2, .v (.one (.xr A3 [.u8] Z r cap3))), (6, .v (.one (.bool true false))), (7, .v (.one (.gs 1 nl 1 0 q qc))), (35, .v (.one (.int false .i64 (q : Int)))), (36, .v (.one (.int false .i64 (i : Int))))], [⟨[.dead], 5⟩, ⟨[.row nl [.u8] S qc], 5⟩]⟩
def suFin (A : Option Addr) (X : List Int) (n cap : Nat) (A2 : Option Addr) (Y : List Int) (m cap2 : Nat) (A3 : Option Addr) (Z : List Int) (r cap3 : Nat) : suP → suX → ASt := fun ⟨nl, q, qc⟩ ⟨S, i⟩ => ⟨slots (List.replicate 66 .any) [(0, .v (.one (.xr A [.u8] X n cap))), (1, .v (.one (.xr A2 [.u8] Y m cap2))), (2, .v (.one (.xr A3 [.u8] Z r cap3))), (6, .v (.one (.bool true false))), (7, .v (.one (.gs 1 nl 1 0 q qc))), (35, .v (.one (.int false .i64 (q : Int)))), (36, .v (.one (.int false .i64 (i : Int))))], [⟨[.dead], 5⟩, ⟨[.row nl [.u8] S qc], 5⟩]⟩
def suBck (A : Option Addr) (X : List Int) (n cap : Nat) (A2 : Option Addr) (Y : List Int) (m cap2 : Nat) (A3 : Option Addr) (Z : List Int) (r cap3 : Nat) : suP → Empty → ASt := fun _ z => nomatch z
def suNxP : ASt → Option suP := fun s => match gN s 7 with | none => none | some nl => match gL s 7 with | none => none | some q => match gC s 7 with | none => none | some qc => some ⟨nl, q, qc⟩
def suNxX : ASt → Option suX := fun s => match gX s 7 with | none => none | some S => match (gI s 36).map Int.toNat with | none => none | some i => some ⟨S, i⟩
def suNxZ : ASt → Option Empty := fun _ => none
def suRo : ASt → List (Option Nat) := (fun _ => [])
def suRf : ASt → List (Option Nat) := (fun _ => [])
def suRb : ASt → List (Option Nat) := (fun _ => [])
structure suInv (A : Option Addr) (X : List Int) (n cap : Nat) (A2 : Option Addr) (Y : List Int) (m cap2 : Nat) (A3 : Option Addr) (Z : List Int) (r cap3 : Nat) (p : suP) (x : suX) : Prop where
  hm : m = n
  hr : r = n
  big : n ≤ 3000
  i1 : x.i ≤ n
  q1 : p.q = n
  l : x.S.length = n
  nl0 : p.nl = true → n = 0
  eq : ∀ j, x.S.getD j 0 = if j < x.i then bits .xor .u8 (X.getD j 0) (bits .xor .u8 (Y.getD j 0) (Z.getD j 0)) else X.getD j 0
structure suPost (A : Option Addr) (X : List Int) (n cap : Nat) (A2 : Option Addr) (Y : List Int) (m cap2 : Nat) (A3 : Option Addr) (Z : List Int) (r cap3 : Nat) (p : suP) (x : suX) : Prop where
  q1 : p.q = n
  l : x.S.length = n
  eq : ∀ j, j < n → x.S.getD j 0 = bits .xor .u8 (X.getD j 0) (bits .xor .u8 (Y.getD j 0) (Z.getD j 0))
def suBack (A : Option Addr) (X : List Int) (n cap : Nat) (A2 : Option Addr) (Y : List Int) (m cap2 : Nat) (A3 : Option Addr) (Z : List Int) (r cap3 : Nat) (p : suP) (x : Empty) : Prop := False
def suLp (A : Option Addr) (X : List Int) (n cap : Nat) (A2 : Option Addr) (Y : List Int) (m cap2 : Nat) (A3 : Option Addr) (Z : List Int) (r cap3 : Nat) : Lp := ⟨4, 0, fun s => match suNxP s with
  | some p => match suNxX s with
    | some x => some (loopT 0 2 false suRo (suSt A X n cap A2 Y m cap2 A3 Z r cap3 p) (suFin A X n cap A2 Y m cap2 A3 Z r cap3 p) (suBck A X n cap A2 Y m cap2 A3 Z r cap3 p) (suInv A X n cap A2 Y m cap2 A3 Z r cap3 p) (suPost A X n cap A2 Y m cap2 A3 Z r cap3 p) (suBack A X n cap A2 Y m cap2 A3 Z r cap3 p) s x)
    | none => none
  | none => none⟩
theorem sustep_tree (w : World) (A : Option Addr) (X : List Int) (n cap : Nat) (A2 : Option Addr) (Y : List Int) (m cap2 : Nat) (A3 : Option Addr) (Z : List Int) (r cap3 : Nat) (nl : Bool) (q : Nat) (qc : Nat) (S : List Int) (i : Nat) :
    roundT Try.prog w (flatT Try.prog) (ctrOf [awC]) (callT Try.prog w (flatT Try.prog) (ctrOf [awC]) (preOr (preOf w tab2) (fpreOf [concatC w, feedC w, framesC, rscanC w, sameFC, encC w, rencC w, fedC w])) (noLoop) 20) ((noLoop) 4) (roundOf (bodyAt Try.prog 4 0)) 0 2 suRo suRf suRb (suSt A X n cap A2 Y m cap2 A3 Z r cap3 ⟨nl, q, qc⟩) (suFin A X n cap A2 Y m cap2 A3 Z r cap3 ⟨nl, q, qc⟩) (suBck A X n cap A2 Y m cap2 A3 Z r cap3 ⟨nl, q, qc⟩) suNxX suNxX suNxZ ⟨S, i⟩ =
(.br (decide ((↑i : Int) < (↑q : Int)))
 (.chk (nl = false ∧ (0 : Int) ≤ (↑i : Int) ∧ (↑i : Int) < (↑q : Int))
 (.chk (nl = false ∧ ((0 : Nat) + (↑i : Int).toNat) * (1 : Nat) + (1 : Nat) ≤ S.length)
 (.chk (sym.XR w A2 [IntKind.u8] Y m ∧
  (0 : Int) ≤ (↑i : Int) ∧ (↑i : Int) < (↑m : Int) ∧ (0 : Nat) < [IntKind.u8].length)
 (.chk (sym.XC w A2 [IntKind.u8] Y ∧
  (0 : Nat) < (1 : Nat) ∧ (↑i : Int).toNat * [IntKind.u8].length + (1 : Nat) ≤ Y.length)
 (.chk (sym.XR w A3 [IntKind.u8] Z r ∧
  (0 : Int) ≤ (↑i : Int) ∧ (↑i : Int) < (↑r : Int) ∧ (0 : Nat) < [IntKind.u8].length)
 (.chk (sym.XC w A3 [IntKind.u8] Z ∧
  (0 : Nat) < (1 : Nat) ∧ (↑i : Int).toNat * [IntKind.u8].length + (1 : Nat) ≤ Z.length)
 (.chk (nl = false ∧ (0 : Int) ≤ (↑i : Int) ∧ (↑i : Int) < (↑q : Int))
 (.chk (nl = false ∧ ((0 : Nat) + (↑i : Int).toNat) * (1 : Nat) + (0 : Nat) < S.length)
 (.chk (A = A ∧ [IntKind.u8] = [IntKind.u8] ∧ X = X ∧ n = n ∧ cap = cap)
 (.chk (A2 = A2 ∧ [IntKind.u8] = [IntKind.u8] ∧ Y = Y ∧ m = m ∧ cap2 = cap2)
 (.chk (A3 = A3 ∧ [IntKind.u8] = [IntKind.u8] ∧ Z = Z ∧ r = r ∧ cap3 = cap3)
 (.chk (false = false)
 (.chk (nl = nl ∧ (1 : Nat) = (1 : Nat) ∧ (0 : Nat) = (0 : Nat) ∧ q = q ∧ qc = qc)
 (.chk (IntKind.i64 = IntKind.i64 ∧ (↑q : Int) = (↑q : Int))
 (.chk (IntKind.i64 = IntKind.i64 ∧
  IntKind.i64.wrap ((↑i : Int) + (1 : Int)) = (↑(IntKind.i64.wrap ((↑i : Int) + (1 : Int))).toNat : Int))
 (.chk (nl = nl ∧
  [IntKind.u8] = [IntKind.u8] ∧
    S.set (((0 : Nat) + (↑i : Int).toNat) * (1 : Nat) + (0 : Nat))
          (bits BinOp.xor ([IntKind.u8].getD (0 : Nat) IntKind.u8)
            (S.getD (((0 : Nat) + (↑i : Int).toNat) * (1 : Nat) + (0 : Nat)) (0 : Int))
            (bits BinOp.xor ([IntKind.u8].getD (0 : Nat) IntKind.u8)
              (Y.getD ((↑i : Int).toNat * [IntKind.u8].length + (0 : Nat)) (0 : Int))
              (Z.getD ((↑i : Int).toNat * [IntKind.u8].length + (0 : Nat)) (0 : Int)))) =
        S.set (((0 : Nat) + (↑i : Int).toNat) * (1 : Nat) + (0 : Nat))
          (bits BinOp.xor ([IntKind.u8].getD (0 : Nat) IntKind.u8)
            (S.getD (((0 : Nat) + (↑i : Int).toNat) * (1 : Nat) + (0 : Nat)) (0 : Int))
            (bits BinOp.xor ([IntKind.u8].getD (0 : Nat) IntKind.u8)
              (Y.getD ((↑i : Int).toNat * [IntKind.u8].length + (0 : Nat)) (0 : Int))
              (Z.getD ((↑i : Int).toNat * [IntKind.u8].length + (0 : Nat)) (0 : Int)))) ∧
      qc = qc)
 (.leaf (.inl ⟨S.set (((0 : Nat) + (↑i : Int).toNat) * (1 : Nat) + (0 : Nat))
  (bits BinOp.xor ([IntKind.u8].getD (0 : Nat) IntKind.u8)
    (S.getD (((0 : Nat) + (↑i : Int).toNat) * (1 : Nat) + (0 : Nat)) (0 : Int))
    (bits BinOp.xor ([IntKind.u8].getD (0 : Nat) IntKind.u8)
      (Y.getD ((↑i : Int).toNat * [IntKind.u8].length + (0 : Nat)) (0 : Int))
      (Z.getD ((↑i : Int).toNat * [IntKind.u8].length + (0 : Nat)) (0 : Int)))), (IntKind.i64.wrap ((↑i : Int) + (1 : Int))).toNat⟩))))))))))))))))))
 (.chk (A = A ∧ [IntKind.u8] = [IntKind.u8] ∧ X = X ∧ n = n ∧ cap = cap)
 (.chk (A2 = A2 ∧ [IntKind.u8] = [IntKind.u8] ∧ Y = Y ∧ m = m ∧ cap2 = cap2)
 (.chk (A3 = A3 ∧ [IntKind.u8] = [IntKind.u8] ∧ Z = Z ∧ r = r ∧ cap3 = cap3)
 (.chk (false = false)
 (.chk (nl = nl ∧ (1 : Nat) = (1 : Nat) ∧ (0 : Nat) = (0 : Nat) ∧ q = q ∧ qc = qc)
 (.chk (IntKind.i64 = IntKind.i64 ∧ (↑q : Int) = (↑q : Int))
 (.chk (IntKind.i64 = IntKind.i64 ∧ (↑i : Int) = (↑(↑i : Int).toNat : Int))
 (.chk (nl = nl ∧ [IntKind.u8] = [IntKind.u8] ∧ S = S ∧ qc = qc)
 (.leaf (.inr (.inl ⟨S, (↑i : Int).toNat⟩)))))))))))) := by kernel_rfl
theorem sums_tree (w : World) (A : Option Addr) (X : List Int) (n cap : Nat) (A2 : Option Addr) (Y : List Int) (m cap2 : Nat) (A3 : Option Addr) (Z : List Int) (r cap3 : Nat) :
    callV Try.prog w (flatT Try.prog) (ctrOf [awC]) (preOr (preOf w tab2) (fpreOf [concatC w, feedC w, framesC, rscanC w, sameFC, encC w, rencC w, fedC w])) (lpOf Try.prog [suLp A X n cap A2 Y m cap2 A3 Z r cap3]) 20 4 [.v (.one (.xr A [.u8] X n cap)), .v (.one (.xr A2 [.u8] Y m cap2)), .v (.one (.xr A3 [.u8] Z r cap3))] =
(.br (decide ((↑n : Int) > (3000 : Int)))
 (.leaf (.v (.one (.bool true true))))
 (.br ((↑m : Int) != (↑n : Int))
  (.leaf (.v (.one (.bool true true))))
  (.br ((↑r : Int) != (↑n : Int))
   (.leaf (.v (.one (.bool true true))))
   (.chk ((sym.XR w A [IntKind.u8] X n ∧ n ≤ cap) ∧
  True ∧ ((0 : Nat) + n) * (1 : Nat) ≤ (140737488355328 : Nat))
   (.all fun x : sym.Grown false n ((0 : Nat) + n) =>
    (.chk (sym.textAt Go.Proofs.Try.prog (4 : Go.FuncId) (0 : Nat) = sym.textAt Go.Proofs.Try.prog (4 : Go.FuncId) (0 : Nat))
    (.chk (A = A ∧ [IntKind.u8] = [IntKind.u8] ∧ X = X ∧ n = n ∧ cap = cap)
    (.chk (A2 = A2 ∧ [IntKind.u8] = [IntKind.u8] ∧ Y = Y ∧ m = m ∧ cap2 = cap2)
    (.chk (A3 = A3 ∧ [IntKind.u8] = [IntKind.u8] ∧ Z = Z ∧ r = r ∧ cap3 = cap3)
    (.chk (false = false)
    (.chk (x.nl' = x.nl' ∧
  [IntKind.u8].length = (1 : Nat) ∧ (0 : Nat) = (0 : Nat) ∧ (0 : Nat) + n = (0 : Nat) + n ∧ x.cap = x.cap)
    (.chk (IntKind.i64 = IntKind.i64 ∧ (↑((0 : Nat) + n) : Int) = (↑((0 : Nat) + n) : Int))
    (.chk (IntKind.i64 = IntKind.i64 ∧ (0 : Int) = (↑(0 : Nat) : Int))
    (.chk (x.nl' = x.nl' ∧ [IntKind.u8] = [IntKind.u8] ∧ [] ++ X = [] ++ X ∧ x.cap = x.cap)
    (.chk (suInv A X n cap A2 Y m cap2 A3 Z r cap3 { nl := x.nl', q := (0 : Nat) + n, qc := x.cap }
  { S := [] ++ X, i := (0 : Nat) })
    (.all fun x_1 : sym.Got suX
  (suPost A X n cap A2 Y m cap2 A3 Z r cap3 { nl := x.nl', q := (0 : Nat) + n, qc := x.cap }) =>
     (.chk ((x.nl' = x.nl' ∧ ((0 : Nat) + ((0 : Nat) + n)) * (1 : Nat) ≤ x_1.1.1.length ∧ (0 : Nat) + n ≤ x.cap) ∧ True)
     (.chk ((0 : Nat) + n ≤ (1000000000 : Nat) ∧
  Bs
    (sym.cutL x_1.1.1 (0 : Nat) ((0 : Nat) + ((0 : Nat) + n)) (1 : Nat)))
     (.chk ((sym.XR w A [IntKind.u8] X n ∧ n ≤ cap) ∧ True)
     (.chk (n ≤ (1000000000 : Nat) ∧ Bs X)
     (.chk ((sym.XR w A2 [IntKind.u8] Y m ∧ m ≤ cap2) ∧ True)
     (.chk (m ≤ (1000000000 : Nat) ∧ Bs Y)
     (.chk ((sym.XR w A3 [IntKind.u8] Z r ∧ r ≤ cap3) ∧ True)
     (.chk (r ≤ (1000000000 : Nat) ∧ Bs Z)
     (.leaf (.v (.one (.bool false (crcL
    (sym.cutL x_1.1.1 (0 : Nat) ((0 : Nat) + ((0 : Nat) + n)) (1 : Nat)) ==
  bits BinOp.xor IntKind.u16
    (bits BinOp.xor IntKind.u16 (crcL X) (crcL Y))
    (crcL Z)))))))))))))))))))))))))))))) := by kernel_rfl
def suMu (A : Option Addr) (X : List Int) (n cap : Nat) (A2 : Option Addr) (Y : List Int) (m cap2 : Nat) (A3 : Option Addr) (Z : List Int) (r cap3 : Nat) (p : suP) (x : suX) : Nat := n - x.i
theorem su_step (w : World) (A : Option Addr) (X : List Int) (n cap : Nat) (A2 : Option Addr) (Y : List Int) (m cap2 : Nat) (A3 : Option Addr) (Z : List Int) (r cap3 : Nat) (p : suP) (x : suX) (hX : XR w A [.u8] X n) (hY : XR w A2 [.u8] Y m) (hZ : XR w A3 [.u8] Z r) (h : suInv A X n cap A2 Y m cap2 A3 Z r cap3 p x) : Hid (roundT Try.prog w (flatT Try.prog) (ctrOf [awC]) (callT Try.prog w (flatT Try.prog) (ctrOf [awC]) (preOr (preOf w tab2) (fpreOf [concatC w, feedC w, framesC, rscanC w, sameFC, encC w, rencC w, fedC w])) (noLoop) 20) ((noLoop) 4) (roundOf (bodyAt Try.prog 4 0)) 0 2 suRo suRf suRb (suSt A X n cap A2 Y m cap2 A3 Z r cap3 p) (suFin A X n cap A2 Y m cap2 A3 Z r cap3 p) (suBck A X n cap A2 Y m cap2 A3 Z r cap3 p) suNxX suNxX suNxZ x) (Kept (suInv A X n cap A2 Y m cap2 A3 Z r cap3 p) (suPost A X n cap A2 Y m cap2 A3 Z r cap3 p) (suBack A X n cap A2 Y m cap2 A3 Z r cap3 p) (suMu A X n cap A2 Y m cap2 A3 Z r cap3 p) x) := by
  obtain ⟨nl, q, qc⟩ := p
  obtain ⟨S, i⟩ := x
  constructor
  rw [sustep_tree]
  simp only [T.holds, Kept, suMu, and_self, true_and, and_true]
  obtain ⟨hm, hr, big, i1, q1, l, nl0, eq⟩ := h
  simp only at i1 q1 l nl0 eq
  have hXl : X.length = n := by simpa using hX.1
  have hYl : Y.length = m := by simpa using hY.1
  have hZl : Z.length = r := by simpa using hZ.1
  have w1 : IntKind.i64.wrap ((i : Int) + 1) = ((i + 1 : Nat) : Int) := by rw [wi64 _ (by omega) (by omega)]; omega
  simp only [w1, Int.toNat_natCast, List.length_singleton, Nat.mul_one, Nat.zero_add, Nat.add_zero, List.getD_cons_zero, true_and, and_true, and_self]
  refine ⟨fun h => ?_, fun h => ?_⟩
  · have h' : i < q := by have := of_decide_eq_true h; omega
    have hn : nl = false := by
      cases nl with
      | false => rfl
      | true => have := nl0 rfl; omega
    refine ⟨⟨hn, by omega, by omega⟩, ⟨hn, by omega⟩, ⟨hY, by omega, by omega, by omega⟩, ⟨hY.2, by omega, by omega⟩, ⟨hZ, by omega, by omega, by omega⟩, ⟨hZ.2, by omega, by omega⟩, ⟨hn, by omega, by omega⟩, ⟨hn, by omega⟩, ⟨hm, hr, big, by show i + 1 ≤ n; omega, q1, ?_, nl0, fun j => ?_⟩, ?_⟩
    · show (S.set i _).length = n
      rw [List.length_set, l]
    · show (S.set i _).getD j 0 = if j < i + 1 then _ else _
      rw [List.getD_eq_getElem?_getD, List.getElem?_set]
      by_cases hj : i = j
      · subst hj
        rw [if_pos rfl, if_pos (by omega), if_pos (by omega), Option.getD_some, eq i, if_neg (by omega)]
      · rw [if_neg hj, ← List.getD_eq_getElem?_getD, eq j]
        by_cases h1 : j < i
        · rw [if_pos h1, if_pos (by omega)]
        · rw [if_neg h1, if_neg (by omega)]
    · show n - (i + 1) < n - i
      omega
  · have h' : ¬ i < q := by have := of_decide_eq_false h; omega
    exact ⟨q1, l, fun j hj => by rw [eq j, if_pos (by omega)]⟩
theorem suLp_ok (w : World) (A : Option Addr) (X : List Int) (n cap : Nat) (A2 : Option Addr) (Y : List Int) (m cap2 : Nat) (A3 : Option Addr) (Z : List Int) (r cap3 : Nat) (hX : XR w A [.u8] X n) (hY : XR w A2 [.u8] Y m) (hZ : XR w A3 [.u8] Z r) : (suLp A X n cap A2 Y m cap2 A3 Z r cap3).ok Try.prog w := by
  intro s t h
  unfold suLp at h
  simp only at h
  split at h
  · rename_i p _
    split at h
    · rename_i x _
      cases h
      exact loop_ok base2 (awT_ok w) (callT_ok base2.mixed base2.names base2.eqs (awT_ok w).ok (awT_ok w).there (pre5_ok w) (loops_none _ _) 20) ((loops_none _ _) 4) (c := roundOf (bodyAt Try.prog 4 0)) (by kernel_rfl) (id := 0) (n := 2) (hr := false) (ro := suRo) (rf := suRf) (rr := suRb) (st := suSt A X n cap A2 Y m cap2 A3 Z r cap3 p) (fin := suFin A X n cap A2 Y m cap2 A3 Z r cap3 p) (bck := suBck A X n cap A2 Y m cap2 A3 Z r cap3 p) (inv := suInv A X n cap A2 Y m cap2 A3 Z r cap3 p) (post := suPost A X n cap A2 Y m cap2 A3 Z r cap3 p) (back := suBack A X n cap A2 Y m cap2 A3 Z r cap3 p) (nx := suNxX) (fx := suNxX) (bx := suNxZ) (suMu A X n cap A2 Y m cap2 A3 Z r cap3 p) (nf := 2) (nf' := 2) (nf'' := 2) (fun x => by kernel_rfl) (fun y => by kernel_rfl) (fun z => nomatch z) (.inr fun z => nomatch z) (fun x hx => su_step w A X n cap A2 Y m cap2 A3 Z r cap3 p x hX hY hZ hx) s x
    · cases h
  · cases h
theorem sums_walk (w : World) (A : Option Addr) (X : List Int) (n cap : Nat) (A2 : Option Addr) (Y : List Int) (m cap2 : Nat) (A3 : Option Addr) (Z : List Int) (r cap3 : Nat) (hX : XR w A [.u8] X n) (hc : n ≤ cap) (hb : Bs X) (hY : XR w A2 [.u8] Y m) (hc2 : m ≤ cap2) (hbY : Bs Y) (hZ : XR w A3 [.u8] Z r) (hc3 : r ≤ cap3) (hbZ : Bs Z) : Calls Try.prog 4 #[.slice A n cap, .slice A2 m cap2, .slice A3 r cap3] w fun e w' => e = .returned (.bool true) ∧ Below w.heap.size w w' := by
  have hXl : X.length = n := by simpa using hX.1
  have hYl : Y.length = m := by simpa using hY.1
  have hZl : Z.length = r := by simpa using hZ.1
  refine val_eq base2 (awT_ok w) (pre5_ok w) (lps_ok (ls := [suLp A X n cap A2 Y m cap2 A3 Z r cap3]) fun l hl => by (simp only [List.mem_cons, List.not_mem_nil, or_false] at hl; subst hl; exact suLp_ok w A X n cap A2 Y m cap2 A3 Z r cap3 hX hY hZ)) (sums_tree w A X n cap A2 Y m cap2 A3 Z r cap3) rfl ?_
  refine ⟨fun _ => ⟨rfl, rfl⟩, fun e1 => ⟨fun _ => ⟨rfl, rfl⟩, fun e2 => ⟨fun _ => ⟨rfl, rfl⟩, fun e3 => ?_⟩⟩⟩
  have h1 : n ≤ 3000 := by have := of_decide_eq_false e1; omega
  have h2 : m = n := by simp at e2; omega
  have h3 : r = n := by simp at e3; omega
  refine ⟨⟨⟨hX, hc⟩, trivial, by omega⟩, fun x => ?_⟩
  have hxl := x.le
  simp only [T.holds, true_and, and_true, and_self, Nat.zero_add, List.nil_append, List.length_singleton, Nat.mul_one, Nat.add_zero]
  refine ⟨rfl, ⟨h2, h3, h1, Nat.zero_le _, rfl, hXl, fun h => by have := (rowR x).nil h; omega, fun j => by rw [if_neg (Nat.not_lt_zero j)]⟩, fun y => ?_⟩
  have q1 := y.so.q1
  have l := y.so.l
  have eq := y.so.eq
  generalize y.it = z at *
  obtain ⟨S, i⟩ := z
  simp only at l eq
  have hS := sum_is X Y Z S (by omega) (by omega) (by omega) fun j hj => eq j (by omega)
  have hcS : sym.cutL S 0 n 1 = S := by rw [cut1, List.drop_zero]; exact List.take_of_length_le (by omega)
  have hBS : Bs S := .of fun v hv => by
    obtain ⟨j, hj, rfl⟩ := List.getElem_of_mem hv
    have := eq j (by omega)
    rw [List.getD_eq_getElem?_getD, List.getElem?_eq_getElem hj] at this
    simp only [Option.getD_some] at this
    rw [this]
    exact (up_xor (hb j) (up_xor (hbY j) (hbZ j)).2).2
  dsimp only
  rw [hcS]
  refine ⟨⟨by omega, by omega⟩, ⟨by omega, hBS⟩, ⟨hX, hc⟩, ⟨by omega, hb⟩, ⟨hY, hc2⟩, ⟨by omega, hbY⟩, ⟨hZ, hc3⟩, ⟨by omega, hbZ⟩, rfl, ?_⟩
  show Value.bool _ = Value.bool true
  rw [hS, crcL_sum (by omega) (by omega) hb hbY hbZ]
  simp
end Go.Proofs.Ytmenafkmkcodlaa
