/-
  Frames one behind the other: the law walked.
-/
import Derived.Test.YtmenafkmkcodlaaR17
namespace Go.Proofs.Ytmenafkmkcodlaa
open Go.RowKit sym
set_option linter.unusedVariables false
set_option linter.unusedSimpArgs false
set_option maxRecDepth 100000
theorem take_filter {Y : List Int} {k : Nat} (h : k < Y.length) (p : Int → Bool) : (Y.take (k + 1)).filter p = (Y.take k).filter p ++ if p (Y.getD k 0) = true then [Y.getD k 0] else [] := by
  rw [List.take_add_one, List.filter_append, List.getElem?_eq_getElem h, List.getD_eq_getElem?_getD, List.getElem?_eq_getElem h]
  simp [List.filter_cons]
theorem filter_le (Y : List Int) (k : Nat) (p : Int → Bool) : ((Y.take k).filter p).length ≤ k := by
  have h1 := List.length_filter_le p (Y.take k)
  have h2 := List.length_take_le k Y
  omega
structure biP where
  S0 : List Int
  i : Nat
  en : Bool
  el : Nat
  ec : Nat
  E : List Int
  i2 : Nat
  fs : List Fr
  fl : Nat
  fn : Bool
  fc : Nat
structure biX where
  S : List Int
  bl : Nat
  bn : Bool
  bc : Nat
  k : Nat
def biSt (A : Option Addr) (F : Nat → FrIn) (n cap : Nat) (A2 : Option Addr) (Y : List Int) (m cap2 : Nat) (A3 : Option Addr) (Z : List Int) (r cap3 : Nat) : biP → biX → ASt := fun ⟨S0, i, en, el, ec, E, i2, fs, fl, fn, fc⟩ ⟨S, bl, bn, bc, k⟩ => ⟨slots (List.replicate 98 .any) [(0, .v (.one (.xs A (frCell F) 2 n cap))), (1, .v (.one (.xr A2 [.u8] Y m cap2))), (2, .v (.one (.xr A3 [.u16] Z r cap3))), (6, .v (.one (.bool true false))), (7, .v (.one (.gs 3 bn 1 0 bl bc))), (8, .v (.one (.gs 1 fn 2 0 fl fc))), (9, .v (.one (.int false .i64 (i : Int)))), (10, .v (.one (.gs 2 en 1 0 el ec))), (34, .v (.one (.int false .i64 (n : Int)))), (35, .v (.one (.int false .i64 (i2 : Int)))), (56, .v (.one (.int false .i64 (m : Int)))), (57, .v (.one (.int false .i64 (k : Int))))], [⟨[.dead], 5⟩, ⟨[.frs fn fs fc], 24⟩, ⟨[.row en [.u8] E ec], 5⟩, ⟨[.row bn [.u8] S bc], 5⟩]⟩
def biFin (A : Option Addr) (F : Nat → FrIn) (n cap : Nat) (A2 : Option Addr) (Y : List Int) (m cap2 : Nat) (A3 : Option Addr) (Z : List Int) (r cap3 : Nat) : biP → biX → ASt := fun ⟨S0, i, en, el, ec, E, i2, fs, fl, fn, fc⟩ ⟨S, bl, bn, bc, k⟩ => ⟨slots (List.replicate 98 .any) [(0, .v (.one (.xs A (frCell F) 2 n cap))), (1, .v (.one (.xr A2 [.u8] Y m cap2))), (2, .v (.one (.xr A3 [.u16] Z r cap3))), (6, .v (.one (.bool true false))), (7, .v (.one (.gs 3 bn 1 0 bl bc))), (8, .v (.one (.gs 1 fn 2 0 fl fc))), (9, .v (.one (.int false .i64 (i : Int)))), (10, .v (.one (.gs 2 en 1 0 el ec))), (34, .v (.one (.int false .i64 (n : Int)))), (35, .v (.one (.int false .i64 (i2 : Int)))), (56, .v (.one (.int false .i64 (m : Int)))), (57, .v (.one (.int false .i64 (k : Int))))], [⟨[.dead], 5⟩, ⟨[.frs fn fs fc], 24⟩, ⟨[.row en [.u8] E ec], 5⟩, ⟨[.row bn [.u8] S bc], 5⟩]⟩
def biBck (A : Option Addr) (F : Nat → FrIn) (n cap : Nat) (A2 : Option Addr) (Y : List Int) (m cap2 : Nat) (A3 : Option Addr) (Z : List Int) (r cap3 : Nat) : biP → Empty → ASt := fun _ z => nomatch z
def biNxP : ASt → Option biP := fun s => match gX s 7 with | none => none | some S0 => match (gI s 9).map Int.toNat with | none => none | some i => match gN s 10 with | none => none | some en => match gL s 10 with | none => none | some el => match gC s 10 with | none => none | some ec => match gX s 10 with | none => none | some E => match (gI s 35).map Int.toNat with | none => none | some i2 => match gF s 8 with | none => none | some fs => match gL s 8 with | none => none | some fl => match gN s 8 with | none => none | some fn => match gC s 8 with | none => none | some fc => some ⟨S0, i, en, el, ec, E, i2, fs, fl, fn, fc⟩
def biNxX : ASt → Option biX := fun s => match gX s 7 with | none => none | some S => match gL s 7 with | none => none | some bl => match gN s 7 with | none => none | some bn => match gC s 7 with | none => none | some bc => match (gI s 57).map Int.toNat with | none => none | some k => some ⟨S, bl, bn, bc, k⟩
def biNxZ : ASt → Option Empty := fun _ => none
def biRo : ASt → List (Option Nat) := (fun s => [sym.rowAt s 7])
def biRf : ASt → List (Option Nat) := (fun s => [sym.rowAt s 7])
def biRb : ASt → List (Option Nat) := (fun s => [sym.rowAt s 7])
structure biInv (A : Option Addr) (F : Nat → FrIn) (n cap : Nat) (A2 : Option Addr) (Y : List Int) (m cap2 : Nat) (A3 : Option Addr) (Z : List Int) (r cap3 : Nat) (p : biP) (x : biX) : Prop where
  big : m ≤ 60 ∧ p.S0.length ≤ 100000
  k1 : x.k ≤ m
  l1 : x.bl = x.S.length
  lc : x.bl ≤ x.bc ∧ x.bc ≤ maxLen
  lnil : x.bn = true → x.bl = 0 ∧ x.bc = 0
  hB : Bs x.S
  eq : x.S = p.S0 ++ (Y.take x.k).filter (fun y => y != 165)
structure biPost (A : Option Addr) (F : Nat → FrIn) (n cap : Nat) (A2 : Option Addr) (Y : List Int) (m cap2 : Nat) (A3 : Option Addr) (Z : List Int) (r cap3 : Nat) (p : biP) (x : biX) : Prop where
  l1 : x.bl = x.S.length
  lc : x.bl ≤ x.bc ∧ x.bc ≤ maxLen
  lnil : x.bn = true → x.bl = 0 ∧ x.bc = 0
  hB : Bs x.S
  eq : x.S = p.S0 ++ Y.filter (fun y => y != 165)
def biBack (A : Option Addr) (F : Nat → FrIn) (n cap : Nat) (A2 : Option Addr) (Y : List Int) (m cap2 : Nat) (A3 : Option Addr) (Z : List Int) (r cap3 : Nat) (p : biP) (x : Empty) : Prop := False
def biLp (A : Option Addr) (F : Nat → FrIn) (n cap : Nat) (A2 : Option Addr) (Y : List Int) (m cap2 : Nat) (A3 : Option Addr) (Z : List Int) (r cap3 : Nat) : Lp := ⟨5, 2, fun s => match biNxP s with
  | some p => match biNxX s with
    | some x => some (loopT 2 3 false biRo (biSt A F n cap A2 Y m cap2 A3 Z r cap3 p) (biFin A F n cap A2 Y m cap2 A3 Z r cap3 p) (biBck A F n cap A2 Y m cap2 A3 Z r cap3 p) (biInv A F n cap A2 Y m cap2 A3 Z r cap3 p) (biPost A F n cap A2 Y m cap2 A3 Z r cap3 p) (biBack A F n cap A2 Y m cap2 A3 Z r cap3 p) s x)
    | none => none
  | none => none⟩
structure boP where
structure boX where
  S : List Int
  bl : Nat
  bn : Bool
  bc : Nat
  fs : List Fr
  fl : Nat
  fn : Bool
  fc : Nat
  i : Nat
structure boZ where
def boSt (A : Option Addr) (F : Nat → FrIn) (n cap : Nat) (A2 : Option Addr) (Y : List Int) (m cap2 : Nat) (A3 : Option Addr) (Z : List Int) (r cap3 : Nat) : boP → boX → ASt := fun ⟨⟩ ⟨S, bl, bn, bc, fs, fl, fn, fc, i⟩ => ⟨slots (List.replicate 98 .any) [(0, .v (.one (.xs A (frCell F) 2 n cap))), (1, .v (.one (.xr A2 [.u8] Y m cap2))), (2, .v (.one (.xr A3 [.u16] Z r cap3))), (6, .v (.one (.bool true false))), (7, .v (.one (.gs 0 bn 1 0 bl bc))), (8, .v (.one (.gs 1 fn 2 0 fl fc))), (34, .v (.one (.int false .i64 (n : Int)))), (35, .v (.one (.int false .i64 (i : Int))))], [⟨[.row bn [.u8] S bc], 5⟩, ⟨[.frs fn fs fc], 24⟩]⟩
def boFin (A : Option Addr) (F : Nat → FrIn) (n cap : Nat) (A2 : Option Addr) (Y : List Int) (m cap2 : Nat) (A3 : Option Addr) (Z : List Int) (r cap3 : Nat) : boP → boX → ASt := fun ⟨⟩ ⟨S, bl, bn, bc, fs, fl, fn, fc, i⟩ => ⟨slots (List.replicate 98 .any) [(0, .v (.one (.xs A (frCell F) 2 n cap))), (1, .v (.one (.xr A2 [.u8] Y m cap2))), (2, .v (.one (.xr A3 [.u16] Z r cap3))), (6, .v (.one (.bool true false))), (7, .v (.one (.gs 0 bn 1 0 bl bc))), (8, .v (.one (.gs 1 fn 2 0 fl fc))), (34, .v (.one (.int false .i64 (n : Int)))), (35, .v (.one (.int false .i64 (i : Int))))], [⟨[.row bn [.u8] S bc], 5⟩, ⟨[.frs fn fs fc], 24⟩]⟩
def boBck (A : Option Addr) (F : Nat → FrIn) (n cap : Nat) (A2 : Option Addr) (Y : List Int) (m cap2 : Nat) (A3 : Option Addr) (Z : List Int) (r cap3 : Nat) : boP → boZ → ASt := fun ⟨⟩ ⟨⟩ => ⟨slots (List.replicate 98 .any) [(6, .v (.one (.bool true true)))], []⟩
def boNxP : ASt → Option boP := fun s => some ⟨⟩
def boNxX : ASt → Option boX := fun s => match gX s 7 with | none => none | some S => match gL s 7 with | none => none | some bl => match gN s 7 with | none => none | some bn => match gC s 7 with | none => none | some bc => match gF s 8 with | none => none | some fs => match gL s 8 with | none => none | some fl => match gN s 8 with | none => none | some fn => match gC s 8 with | none => none | some fc => match (gI s 35).map Int.toNat with | none => none | some i => some ⟨S, bl, bn, bc, fs, fl, fn, fc, i⟩
def boNxZ : ASt → Option boZ := fun s => some ⟨⟩
def boRo : ASt → List (Option Nat) := (fun s => [sym.rowAt s 7, sym.rowAt s 8])
def boRf : ASt → List (Option Nat) := (fun s => [sym.rowAt s 7, sym.rowAt s 8])
def boRb : ASt → List (Option Nat) := (fun s => [])
structure boInv (A : Option Addr) (F : Nat → FrIn) (n cap : Nat) (A2 : Option Addr) (Y : List Int) (m cap2 : Nat) (A3 : Option Addr) (Z : List Int) (r cap3 : Nat) (p : boP) (x : boX) : Prop where
  big : n ≤ 20 ∧ m ≤ 60
  i1 : x.i ≤ n
  l1 : x.bl = x.S.length
  lc : x.bl ≤ x.bc ∧ x.bc ≤ maxLen
  lnil : x.bn = true → x.bl = 0 ∧ x.bc = 0
  hB : Bs x.S
  fl1 : x.fl = x.fs.length
  fd : x.fl ≤ x.fc ∧ x.fc ≤ maxLen
  fnil : x.fn = true → x.fl = 0 ∧ x.fc = 0
  lim : x.bl ≤ 200 * x.i ∧ x.fl ≤ x.i
  s1 : (scanL x.S).1 = pj x.fs
  s2 : (scanL x.S).2.2 = []
structure boPost (A : Option Addr) (F : Nat → FrIn) (n cap : Nat) (A2 : Option Addr) (Y : List Int) (m cap2 : Nat) (A3 : Option Addr) (Z : List Int) (r cap3 : Nat) (p : boP) (x : boX) : Prop where
  l1 : x.bl = x.S.length
  lc : x.bl ≤ x.bc ∧ x.bc ≤ maxLen
  lnil : x.bn = true → x.bl = 0 ∧ x.bc = 0
  hB : Bs x.S
  fl1 : x.fl = x.fs.length
  fd : x.fl ≤ x.fc ∧ x.fc ≤ maxLen
  fnil : x.fn = true → x.fl = 0 ∧ x.fc = 0
  lim : x.bl ≤ 4000 ∧ x.fl ≤ 20
  s1 : (scanL x.S).1 = pj x.fs
  s2 : (scanL x.S).2.2 = []
structure boBack (A : Option Addr) (F : Nat → FrIn) (n cap : Nat) (A2 : Option Addr) (Y : List Int) (m cap2 : Nat) (A3 : Option Addr) (Z : List Int) (r cap3 : Nat) (p : boP) (x : boZ) : Prop where
  ok : True
def boLp (A : Option Addr) (F : Nat → FrIn) (n cap : Nat) (A2 : Option Addr) (Y : List Int) (m cap2 : Nat) (A3 : Option Addr) (Z : List Int) (r cap3 : Nat) : Lp := ⟨5, 0, fun s => match boNxP s with
  | some p => match boNxX s with
    | some x => some (loopT 0 0 true boRo (boSt A F n cap A2 Y m cap2 A3 Z r cap3 p) (boFin A F n cap A2 Y m cap2 A3 Z r cap3 p) (boBck A F n cap A2 Y m cap2 A3 Z r cap3 p) (boInv A F n cap A2 Y m cap2 A3 Z r cap3 p) (boPost A F n cap A2 Y m cap2 A3 Z r cap3 p) (boBack A F n cap A2 Y m cap2 A3 Z r cap3 p) s x)
    | none => none
  | none => none⟩
theorem bistep_tree (w : World) (A : Option Addr) (F : Nat → FrIn) (n cap : Nat) (A2 : Option Addr) (Y : List Int) (m cap2 : Nat) (A3 : Option Addr) (Z : List Int) (r cap3 : Nat) (S0 : List Int) (i : Nat) (en : Bool) (el : Nat) (ec : Nat) (E : List Int) (i2 : Nat) (fs : List Fr) (fl : Nat) (fn : Bool) (fc : Nat) (S : List Int) (bl : Nat) (bn : Bool) (bc : Nat) (k : Nat) :
    roundT Try.prog w (flatT Try.prog) (ctrOf [awC]) (callT Try.prog w (flatT Try.prog) (ctrOf [awC]) (preOr (preOf w tab2) (fpreOf [concatC w, feedC w, framesC, rscanC w, sameFC, encC w, rencC w, fedC w])) (noLoop) 20) ((noLoop) 5) (roundOf (bodyAt Try.prog 5 2)) 2 3 biRo biRf biRb (biSt A F n cap A2 Y m cap2 A3 Z r cap3 ⟨S0, i, en, el, ec, E, i2, fs, fl, fn, fc⟩) (biFin A F n cap A2 Y m cap2 A3 Z r cap3 ⟨S0, i, en, el, ec, E, i2, fs, fl, fn, fc⟩) (biBck A F n cap A2 Y m cap2 A3 Z r cap3 ⟨S0, i, en, el, ec, E, i2, fs, fl, fn, fc⟩) biNxX biNxX biNxZ ⟨S, bl, bn, bc, k⟩ =
(.br (decide ((↑k : Int) < (↑m : Int)))
 (.chk (sym.XR w A2 [IntKind.u8] Y m ∧
  (0 : Int) ≤ (↑k : Int) ∧ (↑k : Int) < (↑m : Int) ∧ (0 : Nat) < [IntKind.u8].length)
 (.chk (sym.XC w A2 [IntKind.u8] Y ∧
  (0 : Nat) < (1 : Nat) ∧ (↑k : Int).toNat * [IntKind.u8].length + (1 : Nat) ≤ Y.length)
 (.br (Y.getD ((↑k : Int).toNat * [IntKind.u8].length + (0 : Nat)) (0 : Int) != (165 : Int))
  (.chk (sym.XR w A2 [IntKind.u8] Y m ∧
  (0 : Int) ≤ (↑k : Int) ∧ (↑k : Int) < (↑m : Int) ∧ (0 : Nat) < [IntKind.u8].length)
  (.chk (sym.XC w A2 [IntKind.u8] Y ∧
  (0 : Nat) < (1 : Nat) ∧ (↑k : Int).toNat * [IntKind.u8].length + (1 : Nat) ≤ Y.length)
  (.chk (True ∧
  (bn = bn ∧
      (0 : Nat) = (0 : Nat) ∧
        bc = bc ∧
          bl * [IntKind.u8].length ≤ S.length ∧ bl ≤ bc ∧ bc ≤ Go.maxLen ∧ (bn = true → bc = (0 : Nat))) ∧
    (bl + (1 : Nat)) * (1 : Nat) ≤ (140737488355328 : Nat))
  (.all fun x : sym.Grown bn (1 : Nat) (bl + (1 : Nat)) =>
   (.chk (A = A ∧
  frCell F = frCell F ∧ (2 : Nat) = (2 : Nat) ∧ n = n ∧ cap = cap)
   (.chk (A2 = A2 ∧ [IntKind.u8] = [IntKind.u8] ∧ Y = Y ∧ m = m ∧ cap2 = cap2)
   (.chk (A3 = A3 ∧ [IntKind.u16] = [IntKind.u16] ∧ Z = Z ∧ r = r ∧ cap3 = cap3)
   (.chk (false = false)
   (.chk (x.nl' = x.nl' ∧
  [IntKind.u8].length = (1 : Nat) ∧ (0 : Nat) = (0 : Nat) ∧ bl + (1 : Nat) = bl + (1 : Nat) ∧ x.cap = x.cap)
   (.chk (fn = fn ∧ (2 : Nat) = (2 : Nat) ∧ (0 : Nat) = (0 : Nat) ∧ fl = fl ∧ fc = fc)
   (.chk (IntKind.i64 = IntKind.i64 ∧ (↑i : Int) = (↑i : Int))
   (.chk (en = en ∧ (1 : Nat) = (1 : Nat) ∧ (0 : Nat) = (0 : Nat) ∧ el = el ∧ ec = ec)
   (.chk (IntKind.i64 = IntKind.i64 ∧ (↑n : Int) = (↑n : Int))
   (.chk (IntKind.i64 = IntKind.i64 ∧ (↑i2 : Int) = (↑i2 : Int))
   (.chk (IntKind.i64 = IntKind.i64 ∧ (↑m : Int) = (↑m : Int))
   (.chk (IntKind.i64 = IntKind.i64 ∧
  IntKind.i64.wrap ((↑k : Int) + (1 : Int)) = (↑(IntKind.i64.wrap ((↑k : Int) + (1 : Int))).toNat : Int))
   (.chk (fn = fn ∧ fs = fs ∧ fc = fc)
   (.chk (en = en ∧ [IntKind.u8] = [IntKind.u8] ∧ E = E ∧ ec = ec)
   (.chk (x.nl' = x.nl' ∧
  [IntKind.u8] = [IntKind.u8] ∧
    List.take (bl * [IntKind.u8].length) S ++
          [Y.getD ((↑k : Int).toNat * [IntKind.u8].length + (0 : Nat)) (0 : Int)] =
        List.take (bl * [IntKind.u8].length) S ++
          [Y.getD ((↑k : Int).toNat * [IntKind.u8].length + (0 : Nat)) (0 : Int)] ∧
      x.cap = x.cap)
   (.leaf (.inl ⟨List.take (bl * [IntKind.u8].length) S ++ [Y.getD ((↑k : Int).toNat * [IntKind.u8].length + (0 : Nat)) (0 : Int)], bl + (1 : Nat), x.nl', x.cap, (IntKind.i64.wrap ((↑k : Int) + (1 : Int))).toNat⟩)))))))))))))))))))))
  (.chk (A = A ∧
  frCell F = frCell F ∧ (2 : Nat) = (2 : Nat) ∧ n = n ∧ cap = cap)
  (.chk (A2 = A2 ∧ [IntKind.u8] = [IntKind.u8] ∧ Y = Y ∧ m = m ∧ cap2 = cap2)
  (.chk (A3 = A3 ∧ [IntKind.u16] = [IntKind.u16] ∧ Z = Z ∧ r = r ∧ cap3 = cap3)
  (.chk (false = false)
  (.chk (bn = bn ∧ (1 : Nat) = (1 : Nat) ∧ (0 : Nat) = (0 : Nat) ∧ bl = bl ∧ bc = bc)
  (.chk (fn = fn ∧ (2 : Nat) = (2 : Nat) ∧ (0 : Nat) = (0 : Nat) ∧ fl = fl ∧ fc = fc)
  (.chk (IntKind.i64 = IntKind.i64 ∧ (↑i : Int) = (↑i : Int))
  (.chk (en = en ∧ (1 : Nat) = (1 : Nat) ∧ (0 : Nat) = (0 : Nat) ∧ el = el ∧ ec = ec)
  (.chk (IntKind.i64 = IntKind.i64 ∧ (↑n : Int) = (↑n : Int))
  (.chk (IntKind.i64 = IntKind.i64 ∧ (↑i2 : Int) = (↑i2 : Int))
  (.chk (IntKind.i64 = IntKind.i64 ∧ (↑m : Int) = (↑m : Int))
  (.chk (IntKind.i64 = IntKind.i64 ∧
  IntKind.i64.wrap ((↑k : Int) + (1 : Int)) = (↑(IntKind.i64.wrap ((↑k : Int) + (1 : Int))).toNat : Int))
  (.chk (fn = fn ∧ fs = fs ∧ fc = fc)
  (.chk (en = en ∧ [IntKind.u8] = [IntKind.u8] ∧ E = E ∧ ec = ec)
  (.chk (bn = bn ∧ [IntKind.u8] = [IntKind.u8] ∧ S = S ∧ bc = bc)
  (.leaf (.inl ⟨S, bl, bn, bc, (IntKind.i64.wrap ((↑k : Int) + (1 : Int))).toNat⟩))))))))))))))))))))
 (.chk (A = A ∧
  frCell F = frCell F ∧ (2 : Nat) = (2 : Nat) ∧ n = n ∧ cap = cap)
 (.chk (A2 = A2 ∧ [IntKind.u8] = [IntKind.u8] ∧ Y = Y ∧ m = m ∧ cap2 = cap2)
 (.chk (A3 = A3 ∧ [IntKind.u16] = [IntKind.u16] ∧ Z = Z ∧ r = r ∧ cap3 = cap3)
 (.chk (false = false)
 (.chk (bn = bn ∧ (1 : Nat) = (1 : Nat) ∧ (0 : Nat) = (0 : Nat) ∧ bl = bl ∧ bc = bc)
 (.chk (fn = fn ∧ (2 : Nat) = (2 : Nat) ∧ (0 : Nat) = (0 : Nat) ∧ fl = fl ∧ fc = fc)
 (.chk (IntKind.i64 = IntKind.i64 ∧ (↑i : Int) = (↑i : Int))
 (.chk (en = en ∧ (1 : Nat) = (1 : Nat) ∧ (0 : Nat) = (0 : Nat) ∧ el = el ∧ ec = ec)
 (.chk (IntKind.i64 = IntKind.i64 ∧ (↑n : Int) = (↑n : Int))
 (.chk (IntKind.i64 = IntKind.i64 ∧ (↑i2 : Int) = (↑i2 : Int))
 (.chk (IntKind.i64 = IntKind.i64 ∧ (↑m : Int) = (↑m : Int))
 (.chk (IntKind.i64 = IntKind.i64 ∧ (↑k : Int) = (↑(↑k : Int).toNat : Int))
 (.chk (fn = fn ∧ fs = fs ∧ fc = fc)
 (.chk (en = en ∧ [IntKind.u8] = [IntKind.u8] ∧ E = E ∧ ec = ec)
 (.chk (bn = bn ∧ [IntKind.u8] = [IntKind.u8] ∧ S = S ∧ bc = bc)
 (.leaf (.inr (.inl ⟨S, bl, bn, bc, (↑k : Int).toNat⟩))))))))))))))))))) := by kernel_rfl
theorem bostep_tree (w : World) (A : Option Addr) (F : Nat → FrIn) (n cap : Nat) (A2 : Option Addr) (Y : List Int) (m cap2 : Nat) (A3 : Option Addr) (Z : List Int) (r cap3 : Nat) (S : List Int) (bl : Nat) (bn : Bool) (bc : Nat) (fs : List Fr) (fl : Nat) (fn : Bool) (fc : Nat) (i : Nat) :
    roundT Try.prog w (flatT Try.prog) (ctrOf [awC]) (callT Try.prog w (flatT Try.prog) (ctrOf [awC]) (preOr (preOf w tab2) (fpreOf [concatC w, feedC w, framesC, rscanC w, sameFC, encC w, rencC w, fedC w])) (lpOf Try.prog [biLp A F n cap A2 Y m cap2 A3 Z r cap3]) 20) ((lpOf Try.prog [biLp A F n cap A2 Y m cap2 A3 Z r cap3]) 5) (roundOf (bodyAt Try.prog 5 0)) 0 0 boRo boRf boRb (boSt A F n cap A2 Y m cap2 A3 Z r cap3 ⟨⟩) (boFin A F n cap A2 Y m cap2 A3 Z r cap3 ⟨⟩) (boBck A F n cap A2 Y m cap2 A3 Z r cap3 ⟨⟩) boNxX boNxX boNxZ ⟨S, bl, bn, bc, fs, fl, fn, fc, i⟩ =
(.br (decide ((↑i : Int) < (↑n : Int)))
 (.chk (sym.XOk w A (frCell F) (2 : Nat) n ∧
  (0 : Int) ≤ (↑i : Int) ∧ (↑i : Int) < (↑n : Int) ∧ (0 : Nat) < (2 : Nat))
 (.chk (sym.XOk w A (frCell F) (2 : Nat) n ∧
  (0 : Nat) < n ∧ (0 : Nat) < (2 : Nat))
 (.chk (sym.XOk w A (frCell F) (2 : Nat) n ∧
  (↑i : Int).toNat < n ∧ (2 : Nat) ≤ (2 : Nat))
 (.br (decide ((↑(F (↑i : Int).toNat).n : Int) > (200 : Int)))
  (.chk (true = true)
  (.leaf (.inr (.inr ⟨⟩))))
  (.chk (sym.XOk w A (frCell F) (2 : Nat) n ∧
  (0 : Int) ≤ (↑i : Int) ∧ (↑i : Int) < (↑n : Int) ∧ (0 : Nat) < (2 : Nat))
  (.chk (sym.XOk w A (frCell F) (2 : Nat) n ∧
  (0 : Nat) < (2 : Nat) ∧ (↑i : Int).toNat < n ∧ (2 : Nat) ≤ (2 : Nat))
  (.chk (sym.XR w (F (↑i : Int).toNat).a [IntKind.u8] (F (↑i : Int).toNat).xs
    (F (↑i : Int).toNat).n ∧
  (F (↑i : Int).toNat).n ≤ (F (↑i : Int).toNat).c ∧
    B (F (↑i : Int).toNat).s ∧
      Bs (F (↑i : Int).toNat).xs ∧ (F (↑i : Int).toNat).n ≤ (1000000 : Nat))
  (.br (decide ((F (↑i : Int).toNat).n > (64 : Nat)))
   (.br ((8 : Int) != (0 : Int))
    (.chk (A = A ∧
  frCell F = frCell F ∧ (2 : Nat) = (2 : Nat) ∧ n = n ∧ cap = cap)
    (.chk (A2 = A2 ∧ [IntKind.u8] = [IntKind.u8] ∧ Y = Y ∧ m = m ∧ cap2 = cap2)
    (.chk (A3 = A3 ∧ [IntKind.u16] = [IntKind.u16] ∧ Z = Z ∧ r = r ∧ cap3 = cap3)
    (.chk (false = false)
    (.chk (bn = bn ∧ (1 : Nat) = (1 : Nat) ∧ (0 : Nat) = (0 : Nat) ∧ bl = bl ∧ bc = bc)
    (.chk (fn = fn ∧ (2 : Nat) = (2 : Nat) ∧ (0 : Nat) = (0 : Nat) ∧ fl = fl ∧ fc = fc)
    (.chk (IntKind.i64 = IntKind.i64 ∧ (↑n : Int) = (↑n : Int))
    (.chk (IntKind.i64 = IntKind.i64 ∧
  IntKind.i64.wrap ((↑i : Int) + (1 : Int)) = (↑(IntKind.i64.wrap ((↑i : Int) + (1 : Int))).toNat : Int))
    (.chk (bn = bn ∧ [IntKind.u8] = [IntKind.u8] ∧ S = S ∧ bc = bc)
    (.chk (fn = fn ∧ fs = fs ∧ fc = fc)
    (.leaf (.inl ⟨S, bl, bn, bc, fs, fl, fn, fc, (IntKind.i64.wrap ((↑i : Int) + (1 : Int))).toNat⟩))))))))))))
    (.chk (sym.textAt Go.Proofs.Try.prog (5 : Go.FuncId) (2 : Nat) = sym.textAt Go.Proofs.Try.prog (5 : Go.FuncId) (2 : Nat))
    (.fail "heap")))
   (.all fun x : RowR ((F (↑i : Int).toNat).n + (5 : Nat)) =>
    (.br ((0 : Int) != (0 : Int))
     (.chk (A = A ∧
  frCell F = frCell F ∧ (2 : Nat) = (2 : Nat) ∧ n = n ∧ cap = cap)
     (.chk (A2 = A2 ∧ [IntKind.u8] = [IntKind.u8] ∧ Y = Y ∧ m = m ∧ cap2 = cap2)
     (.chk (A3 = A3 ∧ [IntKind.u16] = [IntKind.u16] ∧ Z = Z ∧ r = r ∧ cap3 = cap3)
     (.chk (false = false)
     (.chk (bn = bn ∧ (1 : Nat) = (1 : Nat) ∧ (0 : Nat) = (0 : Nat) ∧ bl = bl ∧ bc = bc)
     (.chk (fn = fn ∧ (2 : Nat) = (2 : Nat) ∧ (0 : Nat) = (0 : Nat) ∧ fl = fl ∧ fc = fc)
     (.chk (IntKind.i64 = IntKind.i64 ∧ (↑n : Int) = (↑n : Int))
     (.chk (IntKind.i64 = IntKind.i64 ∧
  IntKind.i64.wrap ((↑i : Int) + (1 : Int)) = (↑(IntKind.i64.wrap ((↑i : Int) + (1 : Int))).toNat : Int))
     (.chk (bn = bn ∧ [IntKind.u8] = [IntKind.u8] ∧ S = S ∧ bc = bc)
     (.chk (fn = fn ∧ fs = fs ∧ fc = fc)
     (.leaf (.inl ⟨S, bl, bn, bc, fs, fl, fn, fc, (IntKind.i64.wrap ((↑i : Int) + (1 : Int))).toNat⟩))))))))))))
     (.chk (sym.textAt Go.Proofs.Try.prog (5 : Go.FuncId) (2 : Nat) = sym.textAt Go.Proofs.Try.prog (5 : Go.FuncId) (2 : Nat))
     (.chk (A = A ∧
  frCell F = frCell F ∧ (2 : Nat) = (2 : Nat) ∧ n = n ∧ cap = cap)
     (.chk (A2 = A2 ∧ [IntKind.u8] = [IntKind.u8] ∧ Y = Y ∧ m = m ∧ cap2 = cap2)
     (.chk (A3 = A3 ∧ [IntKind.u16] = [IntKind.u16] ∧ Z = Z ∧ r = r ∧ cap3 = cap3)
     (.chk (false = false)
     (.chk (bn = bn ∧ (1 : Nat) = (1 : Nat) ∧ (0 : Nat) = (0 : Nat) ∧ bl = bl ∧ bc = bc)
     (.chk (fn = fn ∧ (2 : Nat) = (2 : Nat) ∧ (0 : Nat) = (0 : Nat) ∧ fl = fl ∧ fc = fc)
     (.chk (IntKind.i64 = IntKind.i64 ∧ (↑i : Int) = (↑(↑i : Int).toNat : Int))
     (.chk (x.nl = x.nl ∧
  (1 : Nat) = (1 : Nat) ∧
    (0 : Nat) = (0 : Nat) ∧ (F (↑i : Int).toNat).n + (5 : Nat) = (F (↑i : Int).toNat).n + (5 : Nat) ∧ x.cap = x.cap)
     (.chk (IntKind.i64 = IntKind.i64 ∧ (↑n : Int) = (↑n : Int))
     (.chk (IntKind.i64 = IntKind.i64 ∧ (↑i : Int) = (↑(↑i : Int).toNat : Int))
     (.chk (IntKind.i64 = IntKind.i64 ∧ (↑m : Int) = (↑m : Int))
     (.chk (IntKind.i64 = IntKind.i64 ∧ (0 : Int) = (↑(0 : Nat) : Int))
     (.chk (fn = fn ∧ fs = fs ∧ fc = fc)
     (.chk (x.nl = x.nl ∧
  [IntKind.u8] = [IntKind.u8] ∧
    encX (F (↑i : Int).toNat).s (F (↑i : Int).toNat).xs =
        encX (F (↑i : Int).toNat).s (F (↑i : Int).toNat).xs ∧
      x.cap = x.cap)
     (.chk (bn = bn ∧ [IntKind.u8] = [IntKind.u8] ∧ S = S ∧ bc = bc)
     (.chk (biInv A F n cap A2 Y m cap2 A3 Z r cap3
  { S0 := S, i := (↑i : Int).toNat, en := x.nl, el := (F (↑i : Int).toNat).n + (5 : Nat), ec := x.cap,
    E := encX (F (↑i : Int).toNat).s (F (↑i : Int).toNat).xs, i2 := (↑i : Int).toNat,
    fs := fs, fl := fl, fn := fn, fc := fc }
  { S := S, bl := bl, bn := bn, bc := bc, k := (0 : Nat) })
     (.all fun x_1 : sym.Got biX
  (biPost A F n cap A2 Y m cap2 A3 Z r cap3
    { S0 := S, i := (↑i : Int).toNat, en := x.nl, el := (F (↑i : Int).toNat).n + (5 : Nat), ec := x.cap,
      E := encX (F (↑i : Int).toNat).s (F (↑i : Int).toNat).xs, i2 := (↑i : Int).toNat,
      fs := fs, fl := fl, fn := fn, fc := fc }) =>
      (.chk ((x.nl = x.nl ∧
    ((0 : Nat) + ((F (↑i : Int).toNat).n + (5 : Nat))) * (1 : Nat) ≤
        (encX (F (↑i : Int).toNat).s (F (↑i : Int).toNat).xs).length ∧
      (F (↑i : Int).toNat).n + (5 : Nat) ≤ x.cap) ∧
  (x_1.1.3 = x_1.1.3 ∧
      (0 : Nat) = (0 : Nat) ∧
        x_1.1.4 = x_1.1.4 ∧
          x_1.1.2 * [IntKind.u8].length ≤ x_1.1.1.length ∧
            x_1.1.2 ≤ x_1.1.4 ∧ x_1.1.4 ≤ Go.maxLen ∧ (x_1.1.3 = true → x_1.1.4 = (0 : Nat))) ∧
    (x_1.1.2 + ((F (↑i : Int).toNat).n + (5 : Nat))) * (1 : Nat) ≤ (140737488355328 : Nat))
      (.all fun x_2 : sym.Grown x_1.1.3 ((F (↑i : Int).toNat).n + (5 : Nat))
  (x_1.1.2 + ((F (↑i : Int).toNat).n + (5 : Nat))) =>
       (.chk (sym.XOk w A (frCell F) (2 : Nat) n ∧
  (0 : Int) ≤ (↑(↑i : Int).toNat : Int) ∧ (↑(↑i : Int).toNat : Int) < (↑n : Int) ∧ (0 : Nat) < (2 : Nat))
       (.chk (sym.XOk w A (frCell F) (2 : Nat) n ∧
  (0 : Nat) < (2 : Nat) ∧ (↑(↑i : Int).toNat : Int).toNat < n ∧ (2 : Nat) ≤ (2 : Nat))
       (.chk (sym.XR w (F (↑(↑i : Int).toNat : Int).toNat).a [IntKind.u8]
  (F (↑(↑i : Int).toNat : Int).toNat).xs (F (↑(↑i : Int).toNat : Int).toNat).n)
       (.all fun x_3 : sym.FrOf (F (↑(↑i : Int).toNat : Int).toNat).s (F (↑(↑i : Int).toNat : Int).toNat).xs =>
        (.chk ((fn = fn ∧
    (0 : Nat) = (0 : Nat) ∧ fc = fc ∧ fl ≤ fs.length ∧ fl ≤ fc ∧ fc ≤ Go.maxLen ∧ (fn = true → fc = (0 : Nat))) ∧
  (fl + [x_3.val].length) * (32 : Nat) ≤ (140737488355328 : Nat))
        (.all fun x_4 : sym.Grown fn [x_3.val].length (fl + [x_3.val].length) =>
         (.chk (A = A ∧
  frCell F = frCell F ∧ (2 : Nat) = (2 : Nat) ∧ n = n ∧ cap = cap)
         (.chk (A2 = A2 ∧ [IntKind.u8] = [IntKind.u8] ∧ Y = Y ∧ m = m ∧ cap2 = cap2)
         (.chk (A3 = A3 ∧ [IntKind.u16] = [IntKind.u16] ∧ Z = Z ∧ r = r ∧ cap3 = cap3)
         (.chk (false = false)
         (.chk (x_2.nl' = x_2.nl' ∧
  [IntKind.u8].length = (1 : Nat) ∧
    (0 : Nat) = (0 : Nat) ∧
      x_1.1.2 + ((F (↑i : Int).toNat).n + (5 : Nat)) = x_1.1.2 + ((F (↑i : Int).toNat).n + (5 : Nat)) ∧
        x_2.cap = x_2.cap)
         (.chk (x_4.nl' = x_4.nl' ∧
  (2 : Nat) = (2 : Nat) ∧ (0 : Nat) = (0 : Nat) ∧ fl + [x_3.val].length = fl + [x_3.val].length ∧ x_4.cap = x_4.cap)
         (.chk (IntKind.i64 = IntKind.i64 ∧ (↑n : Int) = (↑n : Int))
         (.chk (IntKind.i64 = IntKind.i64 ∧
  IntKind.i64.wrap ((↑(↑i : Int).toNat : Int) + (1 : Int)) =
    (↑(IntKind.i64.wrap ((↑(↑i : Int).toNat : Int) + (1 : Int))).toNat : Int))
         (.chk (x_2.nl' = x_2.nl' ∧
  [IntKind.u8] = [IntKind.u8] ∧
    List.take (x_1.1.2 * [IntKind.u8].length) x_1.1.1 ++
          sym.cutL
            (encX (F (↑i : Int).toNat).s (F (↑i : Int).toNat).xs) (0 : Nat)
            ((0 : Nat) + ((F (↑i : Int).toNat).n + (5 : Nat))) (1 : Nat) =
        List.take (x_1.1.2 * [IntKind.u8].length) x_1.1.1 ++
          sym.cutL
            (encX (F (↑i : Int).toNat).s (F (↑i : Int).toNat).xs) (0 : Nat)
            ((0 : Nat) + ((F (↑i : Int).toNat).n + (5 : Nat))) (1 : Nat) ∧
      x_2.cap = x_2.cap)
         (.chk (x_4.nl' = x_4.nl' ∧ List.take fl fs ++ [x_3.val] = List.take fl fs ++ [x_3.val] ∧ x_4.cap = x_4.cap)
         (.leaf (.inl ⟨List.take (x_1.1.2 * [IntKind.u8].length) x_1.1.1 ++
  sym.cutL (encX (F (↑i : Int).toNat).s (F (↑i : Int).toNat).xs)
    (0 : Nat) ((0 : Nat) + ((F (↑i : Int).toNat).n + (5 : Nat))) (1 : Nat), x_1.1.2 + ((F (↑i : Int).toNat).n + (5 : Nat)), x_2.nl', x_2.cap, List.take fl fs ++ [x_3.val], fl + [x_3.val].length, x_4.nl', x_4.cap, (IntKind.i64.wrap ((↑(↑i : Int).toNat : Int) + (1 : Int))).toNat⟩))))))))))))))))))))))))))))))))))))))))))))))))
 (.chk (A = A ∧
  frCell F = frCell F ∧ (2 : Nat) = (2 : Nat) ∧ n = n ∧ cap = cap)
 (.chk (A2 = A2 ∧ [IntKind.u8] = [IntKind.u8] ∧ Y = Y ∧ m = m ∧ cap2 = cap2)
 (.chk (A3 = A3 ∧ [IntKind.u16] = [IntKind.u16] ∧ Z = Z ∧ r = r ∧ cap3 = cap3)
 (.chk (false = false)
 (.chk (bn = bn ∧ (1 : Nat) = (1 : Nat) ∧ (0 : Nat) = (0 : Nat) ∧ bl = bl ∧ bc = bc)
 (.chk (fn = fn ∧ (2 : Nat) = (2 : Nat) ∧ (0 : Nat) = (0 : Nat) ∧ fl = fl ∧ fc = fc)
 (.chk (IntKind.i64 = IntKind.i64 ∧ (↑n : Int) = (↑n : Int))
 (.chk (IntKind.i64 = IntKind.i64 ∧ (↑i : Int) = (↑(↑i : Int).toNat : Int))
 (.chk (bn = bn ∧ [IntKind.u8] = [IntKind.u8] ∧ S = S ∧ bc = bc)
 (.chk (fn = fn ∧ fs = fs ∧ fc = fc)
 (.leaf (.inr (.inl ⟨S, bl, bn, bc, fs, fl, fn, fc, (↑i : Int).toNat⟩)))))))))))))) := by kernel_rfl
theorem back_tree (w : World) (A : Option Addr) (F : Nat → FrIn) (n cap : Nat) (A2 : Option Addr) (Y : List Int) (m cap2 : Nat) (A3 : Option Addr) (Z : List Int) (r cap3 : Nat) :
    callV Try.prog w (flatT Try.prog) (ctrOf [awC]) (preOr (preOf w tab2) (fpreOf [concatC w, feedC w, framesC, rscanC w, sameFC, encC w, rencC w, fedC w])) (lpOf Try.prog [boLp A F n cap A2 Y m cap2 A3 Z r cap3]) 20 5 [.v (.one (.xs A (frCell F) 2 n cap)), .v (.one (.xr A2 [.u8] Y m cap2)), .v (.one (.xr A3 [.u16] Z r cap3))] =
(.br (decide ((↑n : Int) > (20 : Int))) (.leaf (.v (.one (.bool true true)))) (.br (decide ((↑m : Int) > (60 : Int))) (.leaf (.v (.one (.bool true true)))) (.br (decide ((↑r : Int) > (200 : Int))) (.leaf (.v (.one (.bool true true)))) (.chk (sym.textAt Go.Proofs.Try.prog (5 : Go.FuncId) (0 : Nat) = sym.textAt Go.Proofs.Try.prog (5 : Go.FuncId) (0 : Nat)) (.chk (A = A ∧ frCell F = frCell F ∧ (2 : Nat) = (2 : Nat) ∧ n = n ∧ cap = cap) (.chk (A2 = A2 ∧ [IntKind.u8] = [IntKind.u8] ∧ Y = Y ∧ m = m ∧ cap2 = cap2) (.chk (A3 = A3 ∧ [IntKind.u16] = [IntKind.u16] ∧ Z = Z ∧ r = r ∧ cap3 = cap3) (.chk (false = false) (.chk (true = true ∧ (0 : Nat) = (0 : Nat) ∧ (0 : Nat) = (0 : Nat)) (.chk (true = true ∧ (0 : Nat) = (0 : Nat) ∧ (0 : Nat) = (0 : Nat)) (.chk (IntKind.i64 = IntKind.i64 ∧ (↑n : Int) = (↑n : Int)) (.chk (IntKind.i64 = IntKind.i64 ∧ (0 : Int) = (↑(0 : Nat) : Int)) (.chk (true = true ∧ ([] : List Int) = []) (.chk (true = true ∧ ([] : List Fr) = []) (.chk (boInv A F n cap A2 Y m cap2 A3 Z r cap3 { } { S := [], bl := (0 : Nat), bn := true, bc := (0 : Nat), fs := [], fl := (0 : Nat), fn := true, fc := (0 : Nat), i := (0 : Nat) }) (.all fun x : Bool => (.br (x) (.all fun x_1 : sym.Got boX (boPost A F n cap A2 Y m cap2 A3 Z r cap3 { }) => (.chk (x_1.1.3 = x_1.1.3 ∧ x_1.1.1.length = x_1.1.2 ∧ x_1.1.2 ≤ x_1.1.4 ∧ Bs x_1.1.1 ∧ x_1.1.2 ≤ (1000000 : Nat) ∧ sym.XR w A3 [IntKind.u16] Z r ∧ (∀ (j : Nat), W (Z.getD j (0 : Int))) ∧ r ≤ (1000000 : Nat)) (.all fun x_2 : FeedR x_1.1.1 => (.chk (x_2.fn = x_2.fn ∧ x_1.1.7 = x_1.1.7 ∧ (0 : Nat) + x_2.fs.length ≤ x_2.fs.length ∧ (0 : Nat) + x_1.1.6 ≤ x_1.1.5.length ∧ (x_2.fn = true → x_2.fs.length = (0 : Nat)) ∧ (x_1.1.7 = true → x_1.1.6 = (0 : Nat)) ∧ x_2.fs.length ≤ (4000000 : Nat) ∧ ∀ (f : sym.Fr), f ∈ x_2.fs → f.xs.length ≤ (1000000 : Nat)) (.br (decide (pj (List.take x_2.fs.length (List.drop (0 : Nat) x_2.fs)) = pj (List.take x_1.1.6 (List.drop (0 : Nat) x_1.1.5)))) (.leaf (.v (.one (.bool false ((↑(scanL x_1.1.1).snd.snd.length : Int) == (0 : Int)))))) (.leaf (.v (.one (.bool true false))))))))) (.all fun x_1 : sym.Got boZ (boBack A F n cap A2 Y m cap2 A3 Z r cap3 { }) => (.leaf (.v (.one (.bool true true)))))))))))))))))))))) := by kernel_rfl
def biMu (A : Option Addr) (F : Nat → FrIn) (n cap : Nat) (A2 : Option Addr) (Y : List Int) (m cap2 : Nat) (A3 : Option Addr) (Z : List Int) (r cap3 : Nat) (p : biP) (x : biX) : Nat := m - x.k
set_option maxHeartbeats 1000000 in
theorem bi_step (w : World) (A : Option Addr) (F : Nat → FrIn) (n cap : Nat) (A2 : Option Addr) (Y : List Int) (m cap2 : Nat) (A3 : Option Addr) (Z : List Int) (r cap3 : Nat) (p : biP) (x : biX) (hX : XOk w A (frCell F) 2 n) (hF : ∀ i, i < n → B (F i).s ∧ XR w (F i).a [.u8] (F i).xs (F i).n ∧ (F i).n ≤ (F i).c ∧ Bs (F i).xs) (hY : XR w A2 [.u8] Y m) (hb : Bs Y) (h : biInv A F n cap A2 Y m cap2 A3 Z r cap3 p x) : Hid (roundT Try.prog w (flatT Try.prog) (ctrOf [awC]) (callT Try.prog w (flatT Try.prog) (ctrOf [awC]) (preOr (preOf w tab2) (fpreOf [concatC w, feedC w, framesC, rscanC w, sameFC, encC w, rencC w, fedC w])) (noLoop) 20) ((noLoop) 5) (roundOf (bodyAt Try.prog 5 2)) 2 3 biRo biRf biRb (biSt A F n cap A2 Y m cap2 A3 Z r cap3 p) (biFin A F n cap A2 Y m cap2 A3 Z r cap3 p) (biBck A F n cap A2 Y m cap2 A3 Z r cap3 p) biNxX biNxX biNxZ x) (Kept (biInv A F n cap A2 Y m cap2 A3 Z r cap3 p) (biPost A F n cap A2 Y m cap2 A3 Z r cap3 p) (biBack A F n cap A2 Y m cap2 A3 Z r cap3 p) (biMu A F n cap A2 Y m cap2 A3 Z r cap3 p) x) := by
  obtain ⟨S0, i, en, el, ec, E, i2, fs, fl, fn, fc⟩ := p
  obtain ⟨S, bl, bn, bc, k⟩ := x
  constructor
  rw [bistep_tree]
  simp only [T.holds, Kept, biMu, and_self, true_and, and_true]
  obtain ⟨⟨big, big2⟩, k1, l1, lc, lnil, hB, eq⟩ := h
  simp only at big big2 k1 l1 lc lnil hB eq
  have hYl : Y.length = m := by simpa using hY.1
  have hfl := filter_le Y k (fun y => y != 165)
  have hSl : S.length ≤ 100060 := by rw [eq, List.length_append]; omega
  have w1 : IntKind.i64.wrap ((k : Int) + 1) = ((k + 1 : Nat) : Int) := by rw [wi64 _ (by omega) (by omega)]; omega
  have htk : List.take bl S = S := List.take_of_length_le (by omega)
  simp only [w1, Int.toNat_natCast, List.length_singleton, Nat.mul_one, Nat.add_zero, htk, true_and, and_true, and_self]
  refine ⟨fun h => ?_, fun h => ?_⟩
  · have h' : k < m := by have := of_decide_eq_true h; omega
    have htf := take_filter (Y := Y) (k := k) (by omega) (fun y => y != 165)
    have c1 : XR w A2 [IntKind.u8] Y m ∧ 0 ≤ (k : Int) ∧ (k : Int) < (m : Int) ∧ 0 < 1 := ⟨hY, by omega, by omega, by decide⟩
    refine ⟨⟨hY, by omega, by omega, by decide⟩, ⟨hY.2, by decide, by omega⟩, fun h2 => ⟨⟨hY, by omega, by omega, by decide⟩, ⟨hY.2, by decide, by omega⟩, ⟨⟨by omega, lc.1, lc.2, fun h => (lnil h).2⟩, by omega⟩, fun x => ⟨⟨⟨big, big2⟩, by show k + 1 ≤ m; omega, ?_, ⟨x.le, x.max⟩, fun h => ?_, hB.append (Bs.one (hb k)), ?_⟩, by omega⟩⟩, fun h2 => ⟨⟨⟨big, big2⟩, by show k + 1 ≤ m; omega, l1, lc, lnil, hB, ?_⟩, by omega⟩⟩
    · show bl + 1 = (S ++ [_]).length
      rw [List.length_append, l1]
      rfl
    · exact (rowR x).nil h
    · show S ++ [Y.getD k 0] = S0 ++ _
      rw [htf, if_pos h2, ← List.append_assoc, ← eq]
    · show S = S0 ++ _
      rw [htf, if_neg (by rw [h2]; decide), List.append_nil, ← eq]
  · have h' : ¬ k < m := by have := of_decide_eq_false h; omega
    exact ⟨l1, lc, lnil, hB, by rw [eq, List.take_of_length_le (by omega)]⟩
theorem biLp_ok (w : World) (A : Option Addr) (F : Nat → FrIn) (n cap : Nat) (A2 : Option Addr) (Y : List Int) (m cap2 : Nat) (A3 : Option Addr) (Z : List Int) (r cap3 : Nat) (hX : XOk w A (frCell F) 2 n) (hF : ∀ i, i < n → B (F i).s ∧ XR w (F i).a [.u8] (F i).xs (F i).n ∧ (F i).n ≤ (F i).c ∧ Bs (F i).xs) (hY : XR w A2 [.u8] Y m) (hb : Bs Y) : (biLp A F n cap A2 Y m cap2 A3 Z r cap3).ok Try.prog w := by
  intro s t h
  unfold biLp at h
  simp only at h
  split at h
  · rename_i p _
    split at h
    · rename_i x _
      cases h
      exact loop_ok base2 (awT_ok w) (callT_ok base2.mixed base2.names base2.eqs (awT_ok w).ok (awT_ok w).there (pre5_ok w) (loops_none _ _) 20) ((loops_none _ _) 5) (c := roundOf (bodyAt Try.prog 5 2)) (by kernel_rfl) (id := 2) (n := 3) (hr := false) (ro := biRo) (rf := biRf) (rr := biRb) (st := biSt A F n cap A2 Y m cap2 A3 Z r cap3 p) (fin := biFin A F n cap A2 Y m cap2 A3 Z r cap3 p) (bck := biBck A F n cap A2 Y m cap2 A3 Z r cap3 p) (inv := biInv A F n cap A2 Y m cap2 A3 Z r cap3 p) (post := biPost A F n cap A2 Y m cap2 A3 Z r cap3 p) (back := biBack A F n cap A2 Y m cap2 A3 Z r cap3 p) (nx := biNxX) (fx := biNxX) (bx := biNxZ) (biMu A F n cap A2 Y m cap2 A3 Z r cap3 p) (nf := 4) (nf' := 4) (nf'' := 4) (fun x => by kernel_rfl) (fun y => by kernel_rfl) (fun z => nomatch z) (.inr fun z => nomatch z) (fun x hx => bi_step w A F n cap A2 Y m cap2 A3 Z r cap3 p x hX hF hY hb hx) s x
    · cases h
  · cases h
def boMu (A : Option Addr) (F : Nat → FrIn) (n cap : Nat) (A2 : Option Addr) (Y : List Int) (m cap2 : Nat) (A3 : Option Addr) (Z : List Int) (r cap3 : Nat) (p : boP) (x : boX) : Nat := n - x.i
set_option maxHeartbeats 1000000 in
theorem bo_step (w : World) (A : Option Addr) (F : Nat → FrIn) (n cap : Nat) (A2 : Option Addr) (Y : List Int) (m cap2 : Nat) (A3 : Option Addr) (Z : List Int) (r cap3 : Nat) (p : boP) (x : boX) (hX : XOk w A (frCell F) 2 n) (hF : ∀ i, i < n → B (F i).s ∧ XR w (F i).a [.u8] (F i).xs (F i).n ∧ (F i).n ≤ (F i).c ∧ Bs (F i).xs) (hY : XR w A2 [.u8] Y m) (hb : Bs Y) (h : boInv A F n cap A2 Y m cap2 A3 Z r cap3 p x) : Hid (roundT Try.prog w (flatT Try.prog) (ctrOf [awC]) (callT Try.prog w (flatT Try.prog) (ctrOf [awC]) (preOr (preOf w tab2) (fpreOf [concatC w, feedC w, framesC, rscanC w, sameFC, encC w, rencC w, fedC w])) (lpOf Try.prog [biLp A F n cap A2 Y m cap2 A3 Z r cap3]) 20) ((lpOf Try.prog [biLp A F n cap A2 Y m cap2 A3 Z r cap3]) 5) (roundOf (bodyAt Try.prog 5 0)) 0 0 boRo boRf boRb (boSt A F n cap A2 Y m cap2 A3 Z r cap3 p) (boFin A F n cap A2 Y m cap2 A3 Z r cap3 p) (boBck A F n cap A2 Y m cap2 A3 Z r cap3 p) boNxX boNxX boNxZ x) (Kept (boInv A F n cap A2 Y m cap2 A3 Z r cap3 p) (boPost A F n cap A2 Y m cap2 A3 Z r cap3 p) (boBack A F n cap A2 Y m cap2 A3 Z r cap3 p) (boMu A F n cap A2 Y m cap2 A3 Z r cap3 p) x) := by
  obtain ⟨⟩ := p
  obtain ⟨S, bl, bn, bc, fs, fl, fn, fc, i⟩ := x
  constructor
  rw [bostep_tree]
  simp only [T.holds, Kept, boMu, and_self, true_and, and_true]
  obtain ⟨⟨big, big2⟩, i1, l1, lc, lnil, hB, fl1, fd, fnil, lim, s1, s2⟩ := h
  simp only at big big2 i1 l1 lc lnil hB fl1 fd fnil lim s1 s2
  subst fl1
  have w1 : IntKind.i64.wrap ((i : Int) + 1) = ((i + 1 : Nat) : Int) := by rw [wi64 _ (by omega) (by omega)]; omega
  have hYl : Y.length = m := by simpa using hY.1
  simp only [w1, Int.toNat_natCast, List.length_singleton, Nat.mul_one, Nat.add_zero, true_and, and_true, and_self]
  refine ⟨fun h => ?_, fun h => ?_⟩
  · have h' : i < n := by have := of_decide_eq_true h; omega
    obtain ⟨fs0, fx, fc0, fb⟩ := hF i h'
    have cX : XOk w A (frCell F) 2 n ∧ 0 ≤ (i : Int) ∧ (i : Int) < (n : Int) ∧ 0 < 2 := ⟨hX, by omega, by omega, by decide⟩
    have nxt : boInv A F n cap A2 Y m cap2 A3 Z r cap3 ⟨⟩ ⟨S, bl, bn, bc, fs, fs.length, fn, fc, i + 1⟩ := ⟨⟨big, big2⟩, by show i + 1 ≤ n; omega, l1, lc, lnil, hB, rfl, fd, fnil, by show bl ≤ 200 * (i + 1) ∧ fs.length ≤ i + 1; omega, s1, s2⟩
    refine ⟨cX, ⟨hX, by omega, by decide⟩, ⟨hX, h', by decide⟩, fun _ => ⟨trivial⟩, fun h2 => ⟨cX, ⟨hX, by decide, h', by decide⟩, ⟨fx, fc0, fs0, fb, by have := of_decide_eq_false h2; omega⟩, fun h3 => ⟨fun _ => ⟨nxt, by omega⟩, fun h => absurd h (by decide)⟩, fun h3 x => ⟨fun h => absurd h (by decide), fun _ => ⟨rfl, ⟨⟨big2, by show S.length ≤ 100000; omega⟩, Nat.zero_le _, l1, lc, lnil, hB, ?_⟩, fun y => ?_⟩⟩⟩⟩
    · show S = S ++ (Y.take 0).filter _
      rw [List.take_zero]
      simp
    have n64 : (F i).n ≤ 64 := by have := of_decide_eq_false h3; omega
    have hxl : (F i).xs.length = (F i).n := by simpa using fx.1
    have hel : (encX (F i).s (F i).xs).length = (F i).n + 5 := by rw [encX_length, hxl]
    have hce : sym.cutL (encX (F i).s (F i).xs) 0 (0 + ((F i).n + 5)) 1 = encX (F i).s (F i).xs := by
      rw [cut1, List.drop_zero]
      exact List.take_of_length_le (by omega)
    have hBe : Bs (encX (F i).s (F i).xs) := by
      obtain ⟨k0, k1⟩ := crcL_W ((F i).s :: ((F i).xs.length : Int) :: (F i).xs)
      unfold encX
      refine ((Bs.cons ⟨by decide, by decide⟩ (Bs.cons fs0 (Bs.one ⟨by omega, by omega⟩))).append fb).append (Bs.cons ⟨by omega, by omega⟩ (Bs.one ⟨by omega, by omega⟩))
    have m1 := y.so.l1
    have m2 := y.so.lc
    have m3 := y.so.lnil
    have m4 := y.so.hB
    have m5 := y.so.eq
    generalize y.it = z at *
    obtain ⟨S', bl', bn', bc', k'⟩ := z
    simp only at m1 m2 m3 m4 m5
    have hfl := filter_le Y m (fun y => y != 165)
    rw [List.take_of_length_le (by omega)] at hfl
    have hSl : S'.length ≤ S.length + m := by rw [m5, List.length_append]; omega
    have hj : ∀ x ∈ Y.filter (fun y => y != 165), x ≠ 165 := fun x hx => by
      have := (List.mem_filter.1 hx).2
      exact bne_iff_ne.1 this
    have sm := scan_more (s := (F i).s) s2 hj hxl n64
    rw [← m5] at sm
    have htk : List.take bl' S' = S' := List.take_of_length_le (by omega)
    have htf : List.take fs.length fs = fs := List.take_of_length_le (Nat.le_refl _)
    dsimp only
    refine ⟨⟨⟨by omega, x.le⟩, ⟨by omega, m2.1, m2.2, fun h => (m3 h).2⟩, by omega⟩, fun x2 => ⟨cX, ⟨hX, by decide, h', by decide⟩, fx, fun x3 => ⟨⟨⟨Nat.le_refl _, fd.1, fd.2, fun h => (fnil h).2⟩, by omega⟩, fun x4 => ⟨?_, by omega⟩⟩⟩⟩
    rw [hce, htk, htf]
    have x2l := x2.le
    have x4l := x4.le
    obtain ⟨v, v1, v2⟩ := x3
    refine ⟨⟨big, big2⟩, by show i + 1 ≤ n; omega, ?_, ⟨x2l, x2.max⟩, fun h => (rowR x2).nil h, m4.append hBe, ?_, ⟨x4l, x4.max⟩, fun h => (rowR x4).nil h, ?_, ?_, sm.2⟩
    · show bl' + ((F i).n + 5) = (S' ++ encX (F i).s (F i).xs).length
      rw [List.length_append, hel, m1]
    · show fs.length + 1 = (fs ++ [v]).length
      rw [List.length_append]
      rfl
    · show bl' + ((F i).n + 5) ≤ 200 * (i + 1) ∧ fs.length + 1 ≤ i + 1
      omega
    · show (scanL (S' ++ encX (F i).s (F i).xs)).1 = pj (fs ++ [v])
      rw [sm.1, s1, pj_append, ← v1, ← v2]
      rfl
  · exact ⟨l1, lc, lnil, hB, rfl, fd, fnil, by show bl ≤ 4000 ∧ fs.length ≤ 20; omega, s1, s2⟩
theorem boLp_ok (w : World) (A : Option Addr) (F : Nat → FrIn) (n cap : Nat) (A2 : Option Addr) (Y : List Int) (m cap2 : Nat) (A3 : Option Addr) (Z : List Int) (r cap3 : Nat) (hX : XOk w A (frCell F) 2 n) (hF : ∀ i, i < n → B (F i).s ∧ XR w (F i).a [.u8] (F i).xs (F i).n ∧ (F i).n ≤ (F i).c ∧ Bs (F i).xs) (hY : XR w A2 [.u8] Y m) (hb : Bs Y) : (boLp A F n cap A2 Y m cap2 A3 Z r cap3).ok Try.prog w := by
  intro s t h
  unfold boLp at h
  simp only at h
  split at h
  · rename_i p _
    split at h
    · rename_i x _
      cases h
      exact loop_ok base2 (awT_ok w) (callT_ok base2.mixed base2.names base2.eqs (awT_ok w).ok (awT_ok w).there (pre5_ok w) ((lps_ok (ls := [biLp A F n cap A2 Y m cap2 A3 Z r cap3]) fun l hl => by (simp only [List.mem_cons, List.not_mem_nil, or_false] at hl; subst hl; exact biLp_ok w A F n cap A2 Y m cap2 A3 Z r cap3 hX hF hY hb))) 20) (((lps_ok (ls := [biLp A F n cap A2 Y m cap2 A3 Z r cap3]) fun l hl => by (simp only [List.mem_cons, List.not_mem_nil, or_false] at hl; subst hl; exact biLp_ok w A F n cap A2 Y m cap2 A3 Z r cap3 hX hF hY hb))) 5) (c := roundOf (bodyAt Try.prog 5 0)) (by kernel_rfl) (id := 0) (n := 0) (hr := true) (ro := boRo) (rf := boRf) (rr := boRb) (st := boSt A F n cap A2 Y m cap2 A3 Z r cap3 p) (fin := boFin A F n cap A2 Y m cap2 A3 Z r cap3 p) (bck := boBck A F n cap A2 Y m cap2 A3 Z r cap3 p) (inv := boInv A F n cap A2 Y m cap2 A3 Z r cap3 p) (post := boPost A F n cap A2 Y m cap2 A3 Z r cap3 p) (back := boBack A F n cap A2 Y m cap2 A3 Z r cap3 p) (nx := boNxX) (fx := boNxX) (bx := boNxZ) (boMu A F n cap A2 Y m cap2 A3 Z r cap3 p) (nf := 2) (nf' := 2) (nf'' := 0) (fun x => by kernel_rfl) (fun y => by kernel_rfl) (fun z => by kernel_rfl) (.inl rfl) (fun x hx => bo_step w A F n cap A2 Y m cap2 A3 Z r cap3 p x hX hF hY hb hx) s x
    · cases h
  · cases h
theorem back_walk (w : World) (A : Option Addr) (F : Nat → FrIn) (n cap : Nat) (A2 : Option Addr) (Y : List Int) (m cap2 : Nat) (A3 : Option Addr) (Z : List Int) (r cap3 : Nat) (hX : XOk w A (frCell F) 2 n) (hF : ∀ i, i < n → B (F i).s ∧ XR w (F i).a [.u8] (F i).xs (F i).n ∧ (F i).n ≤ (F i).c ∧ Bs (F i).xs) (hc : n ≤ cap) (hY : XR w A2 [.u8] Y m) (hc2 : m ≤ cap2) (hb : Bs Y) (hZ : XR w A3 [.u16] Z r) (hc3 : r ≤ cap3) (hW : ∀ j, W (Z.getD j 0)) : Calls Try.prog 5 #[.slice A n cap, .slice A2 m cap2, .slice A3 r cap3] w fun e w' => e = .returned (.bool true) ∧ Below w.heap.size w w' := by
  refine val_eq base2 (awT_ok w) (pre5_ok w) (lps_ok (ls := [boLp A F n cap A2 Y m cap2 A3 Z r cap3]) fun l hl => by (simp only [List.mem_cons, List.not_mem_nil, or_false] at hl; subst hl; exact boLp_ok w A F n cap A2 Y m cap2 A3 Z r cap3 hX hF hY hb)) (back_tree w A F n cap A2 Y m cap2 A3 Z r cap3) rfl ?_
  refine ⟨fun _ => ⟨rfl, rfl⟩, fun h1 => ⟨fun _ => ⟨rfl, rfl⟩, fun h2 => ⟨fun _ => ⟨rfl, rfl⟩, fun h3 => ?_⟩⟩⟩
  have n20 : n ≤ 20 := by have := of_decide_eq_false h1; omega
  have m60 : m ≤ 60 := by have := of_decide_eq_false h2; omega
  have r200 : r ≤ 200 := by have := of_decide_eq_false h3; omega
  simp only [T.holds, true_and, and_true, and_self, List.drop_zero, Nat.zero_add]
  have start : boInv A F n cap A2 Y m cap2 A3 Z r cap3 ⟨⟩ ⟨[], 0, true, 0, [], 0, true, 0, 0⟩ := ⟨⟨n20, m60⟩, Nat.zero_le _, rfl, ⟨Nat.le_refl _, by show 0 ≤ maxLen; decide⟩, fun _ => ⟨rfl, rfl⟩, Bs.nil, rfl, ⟨Nat.le_refl _, by show 0 ≤ maxLen; decide⟩, fun _ => ⟨rfl, rfl⟩, by decide, rfl, rfl⟩
  refine ⟨rfl, start, fun bb => ⟨fun _ y => ?_, fun _ y => ⟨rfl, rfl⟩⟩⟩
  have l1 := y.so.l1
  have lc := y.so.lc
  have hB := y.so.hB
  have fl1 := y.so.fl1
  have fnil := y.so.fnil
  have lim := y.so.lim
  have s1 := y.so.s1
  have s2 := y.so.s2
  generalize y.it = z at *
  obtain ⟨S, bl, bn, bc, fs, fl, fn, fc, i⟩ := z
  simp only at l1 lc hB fl1 fnil lim s1 s2
  subst fl1
  dsimp only
  refine ⟨⟨l1.symm, lc.1, hB, by omega, hZ, hW, by omega⟩, fun x => ?_⟩
  have hxl := pj_all x.eq
  have hsl := (scan_in S).1
  refine ⟨⟨Nat.le_refl _, Nat.le_refl _, fun h => (x.fnil h).1, fun h => (fnil h).1, by omega, fun f hf => by have := pj_small x.eq f hf; omega⟩, fun _ => ⟨rfl, ?_⟩, fun h => ?_⟩
  · rw [s2]
    rfl
  · rw [List.take_length, List.take_length, x.eq, s1] at h
    simp at h
end Go.Proofs.Ytmenafkmkcodlaa
