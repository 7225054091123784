/-
  The contract of bytes that are fed in pieces. Rows have at most 1000000 bytes, and there are at most 1000000 cuts.
-/
import Derived.Test.YtmenafkmkcodlaaR8
namespace Go.Proofs.Ytmenafkmkcodlaa
open Go.RowKit sym
set_option linter.unusedVariables false
set_option linter.unusedSimpArgs false
set_option maxRecDepth 100000
/-- The row that a block's cell is of. -/
def hgX (s : ASt) (r q : Nat) : Option (List Int) := match hS s r q with
  | some (.gs r' _ _ _ _ _) => match s.h[r']? with
    | some k => match k.cells with
      | [.row _ _ xs _] => some xs
      | _ => none
    | none => none
  | some .nos => some []
  | _ => none
def hgN (s : ASt) (r q : Nat) : Option Bool := match hS s r q with
  | some (.gs _ nl _ _ _ _) => some nl
  | some .nos => some true
  | _ => none
def hgL (s : ASt) (r q : Nat) : Option Nat := match hS s r q with
  | some (.gs _ _ _ _ len _) => some len
  | some .nos => some 0
  | _ => none
def hgC (s : ASt) (r q : Nat) : Option Nat := match hS s r q with
  | some (.gs _ _ _ _ _ cap) => some cap
  | some .nos => some 0
  | _ => none
theorem pre4_ok (w : World) : PreOk Try.prog w (preOr (preOf w tab2) (fpreOf [concatC w, feedC w, framesC, rscanC w, sameFC])) := preOr_ok (preOf_ok (tab2_ok w)) (fpreOf_ok fun c hc => by
  simp only [List.mem_cons, List.not_mem_nil, or_false] at hc
  rcases hc with rfl | rfl | rfl | rfl | rfl
  · exact concatC_ok w
  · exact feedC_ok w
  · exact framesC_ok w
  · exact rscanC_ok w
  · exact sameFC_ok w)
theorem cutOP {X : List Int} {a q cap : Nat} (h1 : a ≤ q) (h2 : q ≤ X.length) (hc : X.length ≤ cap) : sym.cutL X (sym.cutO 0 cap a) (sym.cutO 0 cap a + (q - a)) 1 = (X.drop a).take (q - a) ∧ sym.cutO 0 cap a + (q - a) ≤ X.length := by
  rw [sym.cutO_eq, cut1]
  by_cases h : cap = a
  · rw [if_pos h]
    have hl : q - a = 0 := by omega
    rw [hl]
    exact ⟨by simp, by omega⟩
  · rw [if_neg h, Nat.zero_add, show a + (q - a) - a = q - a by omega]
    exact ⟨rfl, by omega⟩
structure dxP where
structure dxX where
  fs : List Fr
  fl : Nat
  fn : Bool
  fc : Nat
  Lx : List Int
  ln : Nat
  nl : Bool
  lc : Nat
  sk : Int
  at_ : Nat
  i : Nat
def dxSt (L : Nat → Option Obj) (O : Nat → Bool) (A : Option Addr) (X : List Int) (n cap : Nat) (A2 : Option Addr) (Y : List Int) (m cap2 : Nat) : dxP → dxX → ASt := fun ⟨⟩ ⟨fs, fl, fn, fc, Lx, ln, nl, lc, sk, at_, i⟩ => ⟨slots (List.replicate 53 .any) [(0, .v (.one (.xr A [.u8] X n cap))), (1, .v (.one (.xr A2 [.u16] Y m cap2))), (4, .v (.one .nos)), (5, .v (.one .nil)), (6, .v (.one (.ptr 1 0))), (7, .v (.one (.gs 2 fn 2 0 fl fc))), (8, .v (.one (.int false .i64 (at_ : Int)))), (13, .v (.one (.xr A2 [.u16] Y m cap2))), (14, .v (.one (.int false .i64 (m : Int)))), (15, .v (.one (.int false .i64 (i : Int))))], [⟨[.keep L O], 0⟩, ⟨[.gs 3 nl 1 0 ln lc, .int false .i64 sk], 46⟩, ⟨[.frs fn fs fc], 24⟩, ⟨[.row nl [.u8] Lx lc], 5⟩]⟩
def dxFin (L : Nat → Option Obj) (O : Nat → Bool) (A : Option Addr) (X : List Int) (n cap : Nat) (A2 : Option Addr) (Y : List Int) (m cap2 : Nat) : dxP → dxX → ASt := fun ⟨⟩ ⟨fs, fl, fn, fc, Lx, ln, nl, lc, sk, at_, i⟩ => ⟨slots (List.replicate 53 .any) [(0, .v (.one (.xr A [.u8] X n cap))), (1, .v (.one (.xr A2 [.u16] Y m cap2))), (4, .v (.one .nos)), (5, .v (.one .nil)), (6, .v (.one (.ptr 1 0))), (7, .v (.one (.gs 2 fn 2 0 fl fc))), (8, .v (.one (.int false .i64 (at_ : Int)))), (13, .v (.one (.xr A2 [.u16] Y m cap2))), (14, .v (.one (.int false .i64 (m : Int)))), (15, .v (.one (.int false .i64 (i : Int))))], [⟨[.keep L O], 0⟩, ⟨[.gs 3 nl 1 0 ln lc, .int false .i64 sk], 46⟩, ⟨[.frs fn fs fc], 24⟩, ⟨[.row nl [.u8] Lx lc], 5⟩]⟩
def dxBck (L : Nat → Option Obj) (O : Nat → Bool) (A : Option Addr) (X : List Int) (n cap : Nat) (A2 : Option Addr) (Y : List Int) (m cap2 : Nat) : dxP → Empty → ASt := fun _ z => nomatch z
def dxNxP : ASt → Option dxP := fun s => some ⟨⟩
def dxNxX : ASt → Option dxX := fun s => match gF s 7 with | none => none | some fs => match gL s 7 with | none => none | some fl => match gN s 7 with | none => none | some fn => match gC s 7 with | none => none | some fc => match hgX s 1 0 with | none => none | some Lx => match hgL s 1 0 with | none => none | some ln => match hgN s 1 0 with | none => none | some nl => match hgC s 1 0 with | none => none | some lc => match hI s 1 1 with | none => none | some sk => match (gI s 8).map Int.toNat with | none => none | some at_ => match (gI s 15).map Int.toNat with | none => none | some i => some ⟨fs, fl, fn, fc, Lx, ln, nl, lc, sk, at_, i⟩
def dxNxZ : ASt → Option Empty := fun _ => none
def dxRo : ASt → List (Option Nat) := (fun s => [sym.rowAt s 7, sym.rowIn s 1 0])
def dxRf : ASt → List (Option Nat) := (fun s => [sym.rowAt s 7, sym.rowIn s 1 0])
def dxRb : ASt → List (Option Nat) := (fun s => [sym.rowAt s 7, sym.rowIn s 1 0])
structure dxInv (L : Nat → Option Obj) (O : Nat → Bool) (A : Option Addr) (X : List Int) (n cap : Nat) (A2 : Option Addr) (Y : List Int) (m cap2 : Nat) (p : dxP) (x : dxX) : Prop where
  i1 : x.i ≤ m
  a1 : x.at_ ≤ n
  fl1 : x.fl = x.fs.length
  fd : x.fl ≤ x.fc ∧ x.fc ≤ maxLen
  fnil : x.fn = true → x.fl = 0 ∧ x.fc = 0
  ll : x.ln = x.Lx.length
  ld : x.ln ≤ x.lc ∧ x.lc ≤ maxLen
  lnil : x.nl = true → x.ln = 0 ∧ x.lc = 0
  e1 : pj x.fs = (scanL (X.take x.at_)).1
  e2 : x.sk = ((scanL (X.take x.at_)).2.1 : Nat)
  e3 : x.Lx = (scanL (X.take x.at_)).2.2
structure dxPost (L : Nat → Option Obj) (O : Nat → Bool) (A : Option Addr) (X : List Int) (n cap : Nat) (A2 : Option Addr) (Y : List Int) (m cap2 : Nat) (p : dxP) (x : dxX) : Prop where
  a1 : x.at_ ≤ n
  fl1 : x.fl = x.fs.length
  fd : x.fl ≤ x.fc ∧ x.fc ≤ maxLen
  fnil : x.fn = true → x.fl = 0 ∧ x.fc = 0
  ll : x.ln = x.Lx.length
  ld : x.ln ≤ x.lc ∧ x.lc ≤ maxLen
  lnil : x.nl = true → x.ln = 0 ∧ x.lc = 0
  e1 : pj x.fs = (scanL (X.take x.at_)).1
  e2 : x.sk = ((scanL (X.take x.at_)).2.1 : Nat)
  e3 : x.Lx = (scanL (X.take x.at_)).2.2
def dxBack (L : Nat → Option Obj) (O : Nat → Bool) (A : Option Addr) (X : List Int) (n cap : Nat) (A2 : Option Addr) (Y : List Int) (m cap2 : Nat) (p : dxP) (x : Empty) : Prop := False
def dxLp (L : Nat → Option Obj) (O : Nat → Bool) (A : Option Addr) (X : List Int) (n cap : Nat) (A2 : Option Addr) (Y : List Int) (m cap2 : Nat) : Lp := ⟨15, 0, fun s => match dxNxP s with
  | some p => match dxNxX s with
    | some x => some (loopT 0 2 false dxRo (dxSt L O A X n cap A2 Y m cap2 p) (dxFin L O A X n cap A2 Y m cap2 p) (dxBck L O A X n cap A2 Y m cap2 p) (dxInv L O A X n cap A2 Y m cap2 p) (dxPost L O A X n cap A2 Y m cap2 p) (dxBack L O A X n cap A2 Y m cap2 p) s x)
    | none => none
  | none => none⟩
theorem dxstep_tree (w : World) (L : Nat → Option Obj) (O : Nat → Bool) (A : Option Addr) (X : List Int) (n cap : Nat) (A2 : Option Addr) (Y : List Int) (m cap2 : Nat) (fs : List Fr) (fl : Nat) (fn : Bool) (fc : Nat) (Lx : List Int) (ln : Nat) (nl : Bool) (lc : Nat) (sk : Int) (at_ : Nat) (i : Nat) :
    roundT Try.prog w (flatT Try.prog) (noCtr) (callT Try.prog w (flatT Try.prog) (noCtr) (preOr (preOf w tab2) (fpreOf [concatC w, feedC w, framesC, rscanC w, sameFC])) (noLoop) 20) ((noLoop) 15) (roundOf (bodyAt Try.prog 15 0)) 0 2 dxRo dxRf dxRb (dxSt L O A X n cap A2 Y m cap2 ⟨⟩) (dxFin L O A X n cap A2 Y m cap2 ⟨⟩) (dxBck L O A X n cap A2 Y m cap2 ⟨⟩) dxNxX dxNxX dxNxZ ⟨fs, fl, fn, fc, Lx, ln, nl, lc, sk, at_, i⟩ =
(.br (decide ((↑i : Int) < (↑m : Int))) (.chk (sym.XR w A2 [IntKind.u16] Y m ∧ (0 : Int) ≤ (↑i : Int) ∧ (↑i : Int) < (↑m : Int) ∧ (0 : Nat) < [IntKind.u16].length) (.chk (sym.XC w A2 [IntKind.u16] Y ∧ (0 : Nat) < (1 : Nat) ∧ (↑i : Int).toNat * [IntKind.u16].length + (1 : Nat) ≤ Y.length) (.chk ((0 : Int) ≤ (↑at_ : Int) ∧ (↑at_ : Int) ≤ pcE n at_ (Y.getD ((↑i : Int).toNat * [IntKind.u16].length + (0 : Nat)) (0 : Int)) ∧ pcE n at_ (Y.getD ((↑i : Int).toNat * [IntKind.u16].length + (0 : Nat)) (0 : Int)) ≤ (↑n : Int) ∧ n ≤ cap) (.chk (sym.XR w (sym.cutA A cap (↑at_ : Int).toNat [IntKind.u8].length) [IntKind.u8] (sym.cutL X (↑at_ : Int).toNat (pcE n at_ (Y.getD ((↑i : Int).toNat * [IntKind.u16].length + (0 : Nat)) (0 : Int))).toNat [IntKind.u8].length) ((pcE n at_ (Y.getD ((↑i : Int).toNat * [IntKind.u16].length + (0 : Nat)) (0 : Int))).toNat - (↑at_ : Int).toNat) ∧ (pcE n at_ (Y.getD ((↑i : Int).toNat * [IntKind.u16].length + (0 : Nat)) (0 : Int))).toNat - (↑at_ : Int).toNat ≤ cap - (↑at_ : Int).toNat ∧ nl = nl ∧ lc = lc ∧ Lx.length = ln ∧ ln ≤ lc ∧ ln ≤ (1000000 : Nat) ∧ (pcE n at_ (Y.getD ((↑i : Int).toNat * [IntKind.u16].length + (0 : Nat)) (0 : Int))).toNat - (↑at_ : Int).toNat ≤ (1000000 : Nat) ∧ Bs (sym.cutL X (↑at_ : Int).toNat (pcE n at_ (Y.getD ((↑i : Int).toNat * [IntKind.u16].length + (0 : Nat)) (0 : Int))).toNat [IntKind.u8].length) ∧ Bs Lx ∧ (0 : Int) ≤ sk ∧ sk ≤ (1000000000 : Int)) (.all fun x : FeedR (Lx ++ sym.cutL X (↑at_ : Int).toNat (pcE n at_ (Y.getD ((↑i : Int).toNat * [IntKind.u16].length + (0 : Nat)) (0 : Int))).toNat [IntKind.u8].length) => (.chk (x.fn = x.fn ∧ x.fs.length = x.fs.length ∧ (x.fn = true → x.fs.length = (0 : Nat)) ∧ x.fs.length ≤ (4000000 : Nat)) (.all fun x_1 : FrsR (pj x.fs) => (.chk (x_1.fn = x_1.fn ∧ (0 : Nat) + x_1.fs.length ≤ x_1.fs.length) (.chk ((fn = fn ∧ (0 : Nat) = (0 : Nat) ∧ fc = fc ∧ fl ≤ fs.length ∧ fl ≤ fc ∧ fc ≤ Go.maxLen ∧ (fn = true → fc = (0 : Nat))) ∧ (fl + (List.take x_1.fs.length (List.drop (0 : Nat) x_1.fs)).length) * (32 : Nat) ≤ (140737488355328 : Nat)) (.all fun x_2 : sym.Grown fn (List.take x_1.fs.length (List.drop (0 : Nat) x_1.fs)).length (fl + (List.take x_1.fs.length (List.drop (0 : Nat) x_1.fs)).length) => (.chk (A = A ∧ [IntKind.u8] = [IntKind.u8] ∧ X = X ∧ n = n ∧ cap = cap) (.chk (A2 = A2 ∧ [IntKind.u16] = [IntKind.u16] ∧ Y = Y ∧ m = m ∧ cap2 = cap2) (.chk (x_2.nl' = x_2.nl' ∧ (2 : Nat) = (2 : Nat) ∧ (0 : Nat) = (0 : Nat) ∧ fl + (List.take x_1.fs.length (List.drop (0 : Nat) x_1.fs)).length = fl + (List.take x_1.fs.length (List.drop (0 : Nat) x_1.fs)).length ∧ x_2.cap = x_2.cap) (.chk (IntKind.i64 = IntKind.i64 ∧ pcE n at_ (Y.getD ((↑i : Int).toNat * [IntKind.u16].length + (0 : Nat)) (0 : Int)) = (↑(pcE n at_ (Y.getD ((↑i : Int).toNat * [IntKind.u16].length + (0 : Nat)) (0 : Int))).toNat : Int)) (.chk (A2 = A2 ∧ [IntKind.u16] = [IntKind.u16] ∧ Y = Y ∧ m = m ∧ cap2 = cap2) (.chk (IntKind.i64 = IntKind.i64 ∧ (↑m : Int) = (↑m : Int)) (.chk (IntKind.i64 = IntKind.i64 ∧ IntKind.i64.wrap ((↑i : Int) + (1 : Int)) = (↑(IntKind.i64.wrap ((↑i : Int) + (1 : Int))).toNat : Int)) (.chk (L = L ∧ O = O) (.chk (x.nl = x.nl ∧ (1 : Nat) = (1 : Nat) ∧ (0 : Nat) = (0 : Nat) ∧ (scanL (Lx ++ sym.cutL X (↑at_ : Int).toNat (pcE n at_ (Y.getD ((↑i : Int).toNat * [IntKind.u16].length + (0 : Nat)) (0 : Int))).toNat [IntKind.u8].length)).snd.snd.length = (scanL (Lx ++ sym.cutL X (↑at_ : Int).toNat (pcE n at_ (Y.getD ((↑i : Int).toNat * [IntKind.u16].length + (0 : Nat)) (0 : Int))).toNat [IntKind.u8].length)).snd.snd.length ∧ x.cap = x.cap) (.chk (IntKind.i64 = IntKind.i64 ∧ sk + (↑(scanL (Lx ++ sym.cutL X (↑at_ : Int).toNat (pcE n at_ (Y.getD ((↑i : Int).toNat * [IntKind.u16].length + (0 : Nat)) (0 : Int))).toNat [IntKind.u8].length)).snd.fst : Int) = sk + (↑(scanL (Lx ++ sym.cutL X (↑at_ : Int).toNat (pcE n at_ (Y.getD ((↑i : Int).toNat * [IntKind.u16].length + (0 : Nat)) (0 : Int))).toNat [IntKind.u8].length)).snd.fst : Int)) (.chk (x_2.nl' = x_2.nl' ∧ List.take fl fs ++ List.take x_1.fs.length (List.drop (0 : Nat) x_1.fs) = List.take fl fs ++ List.take x_1.fs.length (List.drop (0 : Nat) x_1.fs) ∧ x_2.cap = x_2.cap) (.chk (x.nl = x.nl ∧ [IntKind.u8] = [IntKind.u8] ∧ (scanL (Lx ++ sym.cutL X (↑at_ : Int).toNat (pcE n at_ (Y.getD ((↑i : Int).toNat * [IntKind.u16].length + (0 : Nat)) (0 : Int))).toNat [IntKind.u8].length)).snd.snd = (scanL (Lx ++ sym.cutL X (↑at_ : Int).toNat (pcE n at_ (Y.getD ((↑i : Int).toNat * [IntKind.u16].length + (0 : Nat)) (0 : Int))).toNat [IntKind.u8].length)).snd.snd ∧ x.cap = x.cap) (.leaf (.inl ⟨List.take fl fs ++ List.take x_1.fs.length (List.drop (0 : Nat) x_1.fs), fl + (List.take x_1.fs.length (List.drop (0 : Nat) x_1.fs)).length, x_2.nl', x_2.cap, (scanL (Lx ++ sym.cutL X (↑at_ : Int).toNat (pcE n at_ (Y.getD ((↑i : Int).toNat * [IntKind.u16].length + (0 : Nat)) (0 : Int))).toNat [IntKind.u8].length)).snd.snd, (scanL (Lx ++ sym.cutL X (↑at_ : Int).toNat (pcE n at_ (Y.getD ((↑i : Int).toNat * [IntKind.u16].length + (0 : Nat)) (0 : Int))).toNat [IntKind.u8].length)).snd.snd.length, x.nl, x.cap, sk + (↑(scanL (Lx ++ sym.cutL X (↑at_ : Int).toNat (pcE n at_ (Y.getD ((↑i : Int).toNat * [IntKind.u16].length + (0 : Nat)) (0 : Int))).toNat [IntKind.u8].length)).snd.fst : Int), (pcE n at_ (Y.getD ((↑i : Int).toNat * [IntKind.u16].length + (0 : Nat)) (0 : Int))).toNat, (IntKind.i64.wrap ((↑i : Int) + (1 : Int))).toNat⟩)))))))))))))))))))))))) (.chk (A = A ∧ [IntKind.u8] = [IntKind.u8] ∧ X = X ∧ n = n ∧ cap = cap) (.chk (A2 = A2 ∧ [IntKind.u16] = [IntKind.u16] ∧ Y = Y ∧ m = m ∧ cap2 = cap2) (.chk (fn = fn ∧ (2 : Nat) = (2 : Nat) ∧ (0 : Nat) = (0 : Nat) ∧ fl = fl ∧ fc = fc) (.chk (IntKind.i64 = IntKind.i64 ∧ (↑at_ : Int) = (↑(↑at_ : Int).toNat : Int)) (.chk (A2 = A2 ∧ [IntKind.u16] = [IntKind.u16] ∧ Y = Y ∧ m = m ∧ cap2 = cap2) (.chk (IntKind.i64 = IntKind.i64 ∧ (↑m : Int) = (↑m : Int)) (.chk (IntKind.i64 = IntKind.i64 ∧ (↑i : Int) = (↑(↑i : Int).toNat : Int)) (.chk (L = L ∧ O = O) (.chk (nl = nl ∧ (1 : Nat) = (1 : Nat) ∧ (0 : Nat) = (0 : Nat) ∧ ln = ln ∧ lc = lc) (.chk (IntKind.i64 = IntKind.i64 ∧ sk = sk) (.chk (fn = fn ∧ fs = fs ∧ fc = fc) (.chk (nl = nl ∧ [IntKind.u8] = [IntKind.u8] ∧ Lx = Lx ∧ lc = lc) (.leaf (.inr (.inl ⟨fs, fl, fn, fc, Lx, ln, nl, lc, sk, (↑at_ : Int).toNat, (↑i : Int).toNat⟩)))))))))))))))) := by kernel_rfl
theorem fedx_tree (w : World) (L : Nat → Option Obj) (O : Nat → Bool) (A : Option Addr) (X : List Int) (n cap : Nat) (A2 : Option Addr) (Y : List Int) (m cap2 : Nat) :
    callT Try.prog w (flatT Try.prog) noCtr (preOr (preOf w tab2) (fpreOf [concatC w, feedC w, framesC, rscanC w, sameFC])) (lpOf Try.prog [dxLp L O A X n cap A2 Y m cap2]) 20 15 [.v (.one (.xr A [.u8] X n cap)), .v (.one (.xr A2 [.u16] Y m cap2))] [⟨[.keep L O], 0⟩] =
(.chk (sym.textAt Go.Proofs.Try.prog (15 : Go.FuncId) (0 : Nat) = sym.textAt Go.Proofs.Try.prog (15 : Go.FuncId) (0 : Nat)) (.chk (A = A ∧ [IntKind.u8] = [IntKind.u8] ∧ X = X ∧ n = n ∧ cap = cap) (.chk (A2 = A2 ∧ [IntKind.u16] = [IntKind.u16] ∧ Y = Y ∧ m = m ∧ cap2 = cap2) (.chk (true = true ∧ (0 : Nat) = (0 : Nat) ∧ (0 : Nat) = (0 : Nat)) (.chk (IntKind.i64 = IntKind.i64 ∧ (0 : Int) = (↑(0 : Nat) : Int)) (.chk (A2 = A2 ∧ [IntKind.u16] = [IntKind.u16] ∧ Y = Y ∧ m = m ∧ cap2 = cap2) (.chk (IntKind.i64 = IntKind.i64 ∧ (↑m : Int) = (↑m : Int)) (.chk (IntKind.i64 = IntKind.i64 ∧ (0 : Int) = (↑(0 : Nat) : Int)) (.chk (L = L ∧ O = O) (.chk (true = true ∧ (0 : Nat) = (0 : Nat) ∧ (0 : Nat) = (0 : Nat)) (.chk (IntKind.i64 = IntKind.i64 ∧ (0 : Int) = (0 : Int)) (.chk (true = true ∧ ([] : List Fr) = []) (.chk (true = true ∧ ([] : List Int) = []) (.chk (dxInv L O A X n cap A2 Y m cap2 { } { fs := [], fl := (0 : Nat), fn := true, fc := (0 : Nat), Lx := [], ln := (0 : Nat), nl := true, lc := (0 : Nat), sk := (0 : Int), at_ := (0 : Nat), i := (0 : Nat) }) (.all fun x : sym.Got dxX (dxPost L O A X n cap A2 Y m cap2 { }) => (.chk ((0 : Int) ≤ (↑x.1.10 : Int) ∧ (↑x.1.10 : Int) ≤ (↑n : Int) ∧ (↑n : Int) ≤ (↑n : Int) ∧ n ≤ cap) (.chk (sym.XR w (sym.cutA A cap (↑x.1.10 : Int).toNat [IntKind.u8].length) [IntKind.u8] (sym.cutL X (↑x.1.10 : Int).toNat n [IntKind.u8].length) (n - (↑x.1.10 : Int).toNat) ∧ n - (↑x.1.10 : Int).toNat ≤ cap - (↑x.1.10 : Int).toNat ∧ x.1.7 = x.1.7 ∧ x.1.8 = x.1.8 ∧ x.1.5.length = x.1.6 ∧ x.1.6 ≤ x.1.8 ∧ x.1.6 ≤ (1000000 : Nat) ∧ n - (↑x.1.10 : Int).toNat ≤ (1000000 : Nat) ∧ Bs (sym.cutL X (↑x.1.10 : Int).toNat n [IntKind.u8].length) ∧ Bs x.1.5 ∧ (0 : Int) ≤ x.1.9 ∧ x.1.9 ≤ (1000000000 : Int)) (.all fun x_1 : FeedR (x.1.5 ++ sym.cutL X (↑x.1.10 : Int).toNat n [IntKind.u8].length) => (.chk (x_1.fn = x_1.fn ∧ x_1.fs.length = x_1.fs.length ∧ (x_1.fn = true → x_1.fs.length = (0 : Nat)) ∧ x_1.fs.length ≤ (4000000 : Nat)) (.all fun x_2 : FrsR (pj x_1.fs) => (.chk (x_2.fn = x_2.fn ∧ (0 : Nat) + x_2.fs.length ≤ x_2.fs.length) (.chk ((x.1.3 = x.1.3 ∧ (0 : Nat) = (0 : Nat) ∧ x.1.4 = x.1.4 ∧ x.1.2 ≤ x.1.1.length ∧ x.1.2 ≤ x.1.4 ∧ x.1.4 ≤ Go.maxLen ∧ (x.1.3 = true → x.1.4 = (0 : Nat))) ∧ (x.1.2 + (List.take x_2.fs.length (List.drop (0 : Nat) x_2.fs)).length) * (32 : Nat) ≤ (140737488355328 : Nat)) (.all fun x_3 : sym.Grown x.1.3 (List.take x_2.fs.length (List.drop (0 : Nat) x_2.fs)).length (x.1.2 + (List.take x_2.fs.length (List.drop (0 : Nat) x_2.fs)).length) => (.leaf ((.tuple [(.one (.gs 7 (x_3.nl') 2 0 (x.1.2 + (List.take x_2.fs.length (List.drop (0 : Nat) x_2.fs)).length) (x_3.cap))), (.one (.ptr 1 0))]), [⟨[(.keep (L) (O))], 0⟩, ⟨[(.gs 5 (x_1.nl) 1 0 ((scanL (x.1.5 ++ sym.cutL X (↑x.1.10 : Int).toNat n [IntKind.u8].length)).snd.snd.length) (x_1.cap)), (.int false .i64 (x.1.9 + (↑(scanL (x.1.5 ++ sym.cutL X (↑x.1.10 : Int).toNat n [IntKind.u8].length)).snd.fst : Int)))], 46⟩, ⟨[.dead], 24⟩, ⟨[.dead], 5⟩, ⟨[(.frs (x_1.fn) (x_1.fs) (x_1.fc))], 29⟩, ⟨[(.row (x_1.nl) ([IntKind.u8]) ((scanL (x.1.5 ++ sym.cutL X (↑x.1.10 : Int).toNat n [IntKind.u8].length)).snd.snd) (x_1.cap))], 5⟩, ⟨[(.frs (x_2.fn) (x_2.fs) (x_2.fc))], 24⟩, ⟨[(.frs (x_3.nl') (List.take x.1.2 x.1.1 ++ List.take x_2.fs.length (List.drop (0 : Nat) x_2.fs)) (x_3.cap))], 24⟩]))))))))))))))))))))))))) := by kernel_rfl
def dxMu (L : Nat → Option Obj) (O : Nat → Bool) (A : Option Addr) (X : List Int) (n cap : Nat) (A2 : Option Addr) (Y : List Int) (m cap2 : Nat) (p : dxP) (x : dxX) : Nat := m - x.i
set_option maxHeartbeats 1000000 in
theorem dx_step (w : World) (L : Nat → Option Obj) (O : Nat → Bool) (A : Option Addr) (X : List Int) (n cap : Nat) (A2 : Option Addr) (Y : List Int) (m cap2 : Nat) (p : dxP) (x : dxX) (hX : XR w A [.u8] X n) (hc : n ≤ cap) (hB : Bs X) (big : n ≤ 1000000) (hY : XR w A2 [.u16] Y m) (hYW : ∀ j, W (Y.getD j 0)) (big2 : m ≤ 1000000) (h : dxInv L O A X n cap A2 Y m cap2 p x) : Hid (roundT Try.prog w (flatT Try.prog) (noCtr) (callT Try.prog w (flatT Try.prog) (noCtr) (preOr (preOf w tab2) (fpreOf [concatC w, feedC w, framesC, rscanC w, sameFC])) (noLoop) 20) ((noLoop) 15) (roundOf (bodyAt Try.prog 15 0)) 0 2 dxRo dxRf dxRb (dxSt L O A X n cap A2 Y m cap2 p) (dxFin L O A X n cap A2 Y m cap2 p) (dxBck L O A X n cap A2 Y m cap2 p) dxNxX dxNxX dxNxZ x) (Kept (dxInv L O A X n cap A2 Y m cap2 p) (dxPost L O A X n cap A2 Y m cap2 p) (dxBack L O A X n cap A2 Y m cap2 p) (dxMu L O A X n cap A2 Y m cap2 p) x) := by
  obtain ⟨⟩ := p
  obtain ⟨fs, fl, fn, fc, Lx, ln, nl, lc, sk, at_, i⟩ := x
  constructor
  rw [dxstep_tree]
  simp only [T.holds, Kept, dxMu, and_self, true_and, and_true]
  obtain ⟨i1, a1, fl1, fd, fnil, ll, ld, lnil, e1, e2, e3⟩ := h
  simp only at i1 a1 fl1 fd fnil ll ld lnil e1 e2 e3
  subst fl1 ll
  have hXl : X.length = n := by simpa using hX.1
  have hYl : Y.length = m := by simpa using hY.1
  obtain ⟨s1, s2, s3, s4, s5⟩ := scan_in (X.take at_)
  rw [List.length_take] at s1 s2 s3
  have hfl : fs.length ≤ at_ := by
    have := congrArg List.length e1
    rw [pj_length] at this
    omega
  have hLl : Lx.length ≤ at_ := by rw [e3]; omega
  have hBL : Bs Lx := by rw [e3]; exact scan_B (hB.take _)
  have htk : fs.take fs.length = fs := List.take_of_length_le (Nat.le_refl _)
  have t1 : ((i : Nat) : Int).toNat = i := Int.toNat_natCast i
  have t2 : ((at_ : Nat) : Int).toNat = at_ := Int.toNat_natCast at_
  refine ⟨fun hlt => ?_, fun hge => ?_⟩
  · have hlt : i < m := by have := of_decide_eq_true hlt; omega
    have hcw := hYW (i * [IntKind.u16].length + 0)
    have w1 : IntKind.i64.wrap ((i : Int) + 1) = ((i + 1 : Nat) : Int) := by rw [wi64 _ (by omega) (by omega)]; omega
    obtain ⟨qa, qb⟩ := pcN_in (n := n) (c := Y.getD (i * [IntKind.u16].length + 0) 0) a1
    have hpe := pcE_is (n := n) (at_ := at_) hcw a1 big
    rw [t1, t2, hpe]
    generalize pcN n at_ (Y.getD (i * [IntKind.u16].length + 0) 0) = q at *
    rw [Int.toNat_natCast q]
    have hcl : sym.cutL X at_ q [IntKind.u8].length = (X.drop at_).take (q - at_) := cut1 X at_ q
    have hcut := xr_cut (l := at_) (h := q) hX hc (by omega) (by omega)
    rw [hcl] at hcut
    rw [hcl]
    have hst := scan_take (X := X) qa
    rw [← e3] at hst
    have hBp : Bs ((X.drop at_).take (q - at_)) := (hB.drop _).take _
    have hpl : ((X.drop at_).take (q - at_)).length = q - at_ := by rw [List.length_take, List.length_drop]; omega
    generalize (X.drop at_).take (q - at_) = PC at *
    obtain ⟨p1, p2, p3, p4, p5⟩ := scan_in (Lx ++ PC)
    rw [List.length_append, hpl] at p1 p2 p3
    simp only [w1, Int.toNat_natCast, true_and, and_true]
    refine ⟨⟨hY, by omega, by omega, by decide⟩, ⟨hY.2, by decide, by simp; omega⟩, ⟨by omega, by omega, by omega, hc⟩, ⟨hcut, by omega, ld.1, by omega, by omega, hBp, hBL, by omega, by omega⟩, fun r => ⟨⟨fun h => (r.fnil h).1, ?_⟩, fun r1 => ⟨?_, ?_, fun g => ⟨?_, by omega⟩⟩⟩⟩
    · have := congrArg List.length r.eq
      rw [pj_length] at this
      omega
    · omega
    · have hr := congrArg List.length r.eq
      have hr1 := congrArg List.length r1.eq
      rw [pj_length] at hr hr1
      rw [pj_length] at hr1
      refine ⟨⟨Nat.le_refl _, fd.1, fd.2, fun h => (fnil h).2⟩, ?_⟩
      simp only [List.drop_zero, List.length_take]
      omega
    · have htr : (r1.fs.drop 0).take r1.fs.length = r1.fs := by rw [List.drop_zero, List.take_of_length_le (Nat.le_refl _)]
      refine ⟨by show i + 1 ≤ m; omega, qb, ?_, ⟨g.le, g.max⟩, fun h => ?_, rfl, r.ld, r.lnil, ?_, ?_, ?_⟩
      · show fs.length + ((r1.fs.drop 0).take r1.fs.length).length = (fs.take fs.length ++ (r1.fs.drop 0).take r1.fs.length).length
        rw [List.length_append, htk]
      · exact (rowR g).nil h
      · show pj (fs.take fs.length ++ (r1.fs.drop 0).take r1.fs.length) = (scanL (X.take q)).1
        rw [htr, htk, pj_append, r1.eq, r.eq, e1, hst]
      · show sk + ((scanL (Lx ++ PC)).2.1 : Nat) = ((scanL (X.take q)).2.1 : Nat)
        rw [e2, hst]
        simp only
        omega
      · show (scanL (Lx ++ PC)).2.2 = (scanL (X.take q)).2.2
        rw [hst]
  · simp only [Int.toNat_natCast, true_and, and_true]
    exact ⟨a1, rfl, fd, fnil, rfl, ld, lnil, e1, e2, e3⟩
theorem dxLp_ok (w : World) (L : Nat → Option Obj) (O : Nat → Bool) (A : Option Addr) (X : List Int) (n cap : Nat) (A2 : Option Addr) (Y : List Int) (m cap2 : Nat) (hX : XR w A [.u8] X n) (hc : n ≤ cap) (hB : Bs X) (big : n ≤ 1000000) (hY : XR w A2 [.u16] Y m) (hYW : ∀ j, W (Y.getD j 0)) (big2 : m ≤ 1000000) : (dxLp L O A X n cap A2 Y m cap2).ok Try.prog w := by
  intro s t h
  unfold dxLp at h
  simp only at h
  split at h
  · rename_i p _
    split at h
    · rename_i x _
      cases h
      exact loop_ok base2 (ctrs_none _ w) (callT_ok base2.mixed base2.names base2.eqs (ctrs_none _ w).ok (ctrs_none _ w).there (pre4_ok w) (loops_none _ _) 20) ((loops_none _ _) 15) (c := roundOf (bodyAt Try.prog 15 0)) (by kernel_rfl) (id := 0) (n := 2) (hr := false) (ro := dxRo) (rf := dxRf) (rr := dxRb) (st := dxSt L O A X n cap A2 Y m cap2 p) (fin := dxFin L O A X n cap A2 Y m cap2 p) (bck := dxBck L O A X n cap A2 Y m cap2 p) (inv := dxInv L O A X n cap A2 Y m cap2 p) (post := dxPost L O A X n cap A2 Y m cap2 p) (back := dxBack L O A X n cap A2 Y m cap2 p) (nx := dxNxX) (fx := dxNxX) (bx := dxNxZ) (dxMu L O A X n cap A2 Y m cap2 p) (nf := 4) (nf' := 4) (nf'' := 4) (fun x => by kernel_rfl) (fun y => by kernel_rfl) (fun z => nomatch z) (.inr fun z => nomatch z) (fun x hx => dx_step w L O A X n cap A2 Y m cap2 p x hX hc hB big hY hYW big2 hx) s x
    · cases h
  · cases h
structure dgP where
structure dgX where
  fs : List Fr
  fl : Nat
  fn : Bool
  fc : Nat
  Lx : List Int
  ln : Nat
  nl : Bool
  lc : Nat
  sk : Int
  at_ : Nat
  i : Nat
def dgSt (L : Nat → Option Obj) (O : Nat → Bool) (bn : Bool) (X : List Int) (n cap bc : Nat) (A2 : Option Addr) (Y : List Int) (m cap2 : Nat) : dgP → dgX → ASt := fun ⟨⟩ ⟨fs, fl, fn, fc, Lx, ln, nl, lc, sk, at_, i⟩ => ⟨slots (List.replicate 53 .any) [(0, .v (.one (.gs 1 bn 1 0 n cap))), (1, .v (.one (.xr A2 [.u16] Y m cap2))), (4, .v (.one .nos)), (5, .v (.one .nil)), (6, .v (.one (.ptr 2 0))), (7, .v (.one (.gs 3 fn 2 0 fl fc))), (8, .v (.one (.int false .i64 (at_ : Int)))), (13, .v (.one (.xr A2 [.u16] Y m cap2))), (14, .v (.one (.int false .i64 (m : Int)))), (15, .v (.one (.int false .i64 (i : Int))))], [⟨[.keep L O], 0⟩, ⟨[.row bn [.u8] X bc], 5⟩, ⟨[.gs 4 nl 1 0 ln lc, .int false .i64 sk], 46⟩, ⟨[.frs fn fs fc], 24⟩, ⟨[.row nl [.u8] Lx lc], 5⟩]⟩
def dgFin (L : Nat → Option Obj) (O : Nat → Bool) (bn : Bool) (X : List Int) (n cap bc : Nat) (A2 : Option Addr) (Y : List Int) (m cap2 : Nat) : dgP → dgX → ASt := fun ⟨⟩ ⟨fs, fl, fn, fc, Lx, ln, nl, lc, sk, at_, i⟩ => ⟨slots (List.replicate 53 .any) [(0, .v (.one (.gs 1 bn 1 0 n cap))), (1, .v (.one (.xr A2 [.u16] Y m cap2))), (4, .v (.one .nos)), (5, .v (.one .nil)), (6, .v (.one (.ptr 2 0))), (7, .v (.one (.gs 3 fn 2 0 fl fc))), (8, .v (.one (.int false .i64 (at_ : Int)))), (13, .v (.one (.xr A2 [.u16] Y m cap2))), (14, .v (.one (.int false .i64 (m : Int)))), (15, .v (.one (.int false .i64 (i : Int))))], [⟨[.keep L O], 0⟩, ⟨[.row bn [.u8] X bc], 5⟩, ⟨[.gs 4 nl 1 0 ln lc, .int false .i64 sk], 46⟩, ⟨[.frs fn fs fc], 24⟩, ⟨[.row nl [.u8] Lx lc], 5⟩]⟩
def dgBck (L : Nat → Option Obj) (O : Nat → Bool) (bn : Bool) (X : List Int) (n cap bc : Nat) (A2 : Option Addr) (Y : List Int) (m cap2 : Nat) : dgP → Empty → ASt := fun _ z => nomatch z
def dgNxP : ASt → Option dgP := fun s => some ⟨⟩
def dgNxX : ASt → Option dgX := fun s => match gF s 7 with | none => none | some fs => match gL s 7 with | none => none | some fl => match gN s 7 with | none => none | some fn => match gC s 7 with | none => none | some fc => match hgX s 2 0 with | none => none | some Lx => match hgL s 2 0 with | none => none | some ln => match hgN s 2 0 with | none => none | some nl => match hgC s 2 0 with | none => none | some lc => match hI s 2 1 with | none => none | some sk => match (gI s 8).map Int.toNat with | none => none | some at_ => match (gI s 15).map Int.toNat with | none => none | some i => some ⟨fs, fl, fn, fc, Lx, ln, nl, lc, sk, at_, i⟩
def dgNxZ : ASt → Option Empty := fun _ => none
def dgRo : ASt → List (Option Nat) := (fun s => [sym.rowAt s 7, sym.rowIn s 2 0])
def dgRf : ASt → List (Option Nat) := (fun s => [sym.rowAt s 7, sym.rowIn s 2 0])
def dgRb : ASt → List (Option Nat) := (fun s => [sym.rowAt s 7, sym.rowIn s 2 0])
structure dgInv (L : Nat → Option Obj) (O : Nat → Bool) (bn : Bool) (X : List Int) (n cap bc : Nat) (A2 : Option Addr) (Y : List Int) (m cap2 : Nat) (p : dgP) (x : dgX) : Prop where
  i1 : x.i ≤ m
  a1 : x.at_ ≤ n
  fl1 : x.fl = x.fs.length
  fd : x.fl ≤ x.fc ∧ x.fc ≤ maxLen
  fnil : x.fn = true → x.fl = 0 ∧ x.fc = 0
  ll : x.ln = x.Lx.length
  ld : x.ln ≤ x.lc ∧ x.lc ≤ maxLen
  lnil : x.nl = true → x.ln = 0 ∧ x.lc = 0
  e1 : pj x.fs = (scanL (X.take x.at_)).1
  e2 : x.sk = ((scanL (X.take x.at_)).2.1 : Nat)
  e3 : x.Lx = (scanL (X.take x.at_)).2.2
structure dgPost (L : Nat → Option Obj) (O : Nat → Bool) (bn : Bool) (X : List Int) (n cap bc : Nat) (A2 : Option Addr) (Y : List Int) (m cap2 : Nat) (p : dgP) (x : dgX) : Prop where
  a1 : x.at_ ≤ n
  fl1 : x.fl = x.fs.length
  fd : x.fl ≤ x.fc ∧ x.fc ≤ maxLen
  fnil : x.fn = true → x.fl = 0 ∧ x.fc = 0
  ll : x.ln = x.Lx.length
  ld : x.ln ≤ x.lc ∧ x.lc ≤ maxLen
  lnil : x.nl = true → x.ln = 0 ∧ x.lc = 0
  e1 : pj x.fs = (scanL (X.take x.at_)).1
  e2 : x.sk = ((scanL (X.take x.at_)).2.1 : Nat)
  e3 : x.Lx = (scanL (X.take x.at_)).2.2
def dgBack (L : Nat → Option Obj) (O : Nat → Bool) (bn : Bool) (X : List Int) (n cap bc : Nat) (A2 : Option Addr) (Y : List Int) (m cap2 : Nat) (p : dgP) (x : Empty) : Prop := False
def dgLp (L : Nat → Option Obj) (O : Nat → Bool) (bn : Bool) (X : List Int) (n cap bc : Nat) (A2 : Option Addr) (Y : List Int) (m cap2 : Nat) : Lp := ⟨15, 0, fun s => match dgNxP s with
  | some p => match dgNxX s with
    | some x => some (loopT 0 3 false dgRo (dgSt L O bn X n cap bc A2 Y m cap2 p) (dgFin L O bn X n cap bc A2 Y m cap2 p) (dgBck L O bn X n cap bc A2 Y m cap2 p) (dgInv L O bn X n cap bc A2 Y m cap2 p) (dgPost L O bn X n cap bc A2 Y m cap2 p) (dgBack L O bn X n cap bc A2 Y m cap2 p) s x)
    | none => none
  | none => none⟩
theorem dgstep_tree (w : World) (L : Nat → Option Obj) (O : Nat → Bool) (bn : Bool) (X : List Int) (n cap bc : Nat) (A2 : Option Addr) (Y : List Int) (m cap2 : Nat) (fs : List Fr) (fl : Nat) (fn : Bool) (fc : Nat) (Lx : List Int) (ln : Nat) (nl : Bool) (lc : Nat) (sk : Int) (at_ : Nat) (i : Nat) :
    roundT Try.prog w (flatT Try.prog) (noCtr) (callT Try.prog w (flatT Try.prog) (noCtr) (preOr (preOf w tab2) (fpreOf [concatC w, feedC w, framesC, rscanC w, sameFC])) (noLoop) 20) ((noLoop) 15) (roundOf (bodyAt Try.prog 15 0)) 0 3 dgRo dgRf dgRb (dgSt L O bn X n cap bc A2 Y m cap2 ⟨⟩) (dgFin L O bn X n cap bc A2 Y m cap2 ⟨⟩) (dgBck L O bn X n cap bc A2 Y m cap2 ⟨⟩) dgNxX dgNxX dgNxZ ⟨fs, fl, fn, fc, Lx, ln, nl, lc, sk, at_, i⟩ =
(.br (decide ((↑i : Int) < (↑m : Int))) (.chk (sym.XR w A2 [IntKind.u16] Y m ∧ (0 : Int) ≤ (↑i : Int) ∧ (↑i : Int) < (↑m : Int) ∧ (0 : Nat) < [IntKind.u16].length) (.chk (sym.XC w A2 [IntKind.u16] Y ∧ (0 : Nat) < (1 : Nat) ∧ (↑i : Int).toNat * [IntKind.u16].length + (1 : Nat) ≤ Y.length) (.chk ((0 : Int) ≤ (↑at_ : Int) ∧ (↑at_ : Int) ≤ pcE n at_ (Y.getD ((↑i : Int).toNat * [IntKind.u16].length + (0 : Nat)) (0 : Int)) ∧ pcE n at_ (Y.getD ((↑i : Int).toNat * [IntKind.u16].length + (0 : Nat)) (0 : Int)) ≤ (↑cap : Int)) (.chk (bn = bn ∧ sym.cutO (0 : Nat) cap (↑at_ : Int).toNat + ((pcE n at_ (Y.getD ((↑i : Int).toNat * [IntKind.u16].length + (0 : Nat)) (0 : Int))).toNat - (↑at_ : Int).toNat) ≤ X.length ∧ (pcE n at_ (Y.getD ((↑i : Int).toNat * [IntKind.u16].length + (0 : Nat)) (0 : Int))).toNat - (↑at_ : Int).toNat ≤ cap - (↑at_ : Int).toNat ∧ nl = nl ∧ lc = lc ∧ Lx.length = ln ∧ ln ≤ lc ∧ ln ≤ (1000000 : Nat) ∧ (pcE n at_ (Y.getD ((↑i : Int).toNat * [IntKind.u16].length + (0 : Nat)) (0 : Int))).toNat - (↑at_ : Int).toNat ≤ (1000000 : Nat) ∧ Bs X ∧ Bs Lx ∧ (0 : Int) ≤ sk ∧ sk ≤ (1000000000 : Int)) (.all fun x : FeedR (Lx ++ sym.cutL X (sym.cutO (0 : Nat) cap (↑at_ : Int).toNat) (sym.cutO (0 : Nat) cap (↑at_ : Int).toNat + ((pcE n at_ (Y.getD ((↑i : Int).toNat * [IntKind.u16].length + (0 : Nat)) (0 : Int))).toNat - (↑at_ : Int).toNat)) (1 : Nat)) => (.chk (x.fn = x.fn ∧ x.fs.length = x.fs.length ∧ (x.fn = true → x.fs.length = (0 : Nat)) ∧ x.fs.length ≤ (4000000 : Nat)) (.all fun x_1 : FrsR (pj x.fs) => (.chk (x_1.fn = x_1.fn ∧ (0 : Nat) + x_1.fs.length ≤ x_1.fs.length) (.chk ((fn = fn ∧ (0 : Nat) = (0 : Nat) ∧ fc = fc ∧ fl ≤ fs.length ∧ fl ≤ fc ∧ fc ≤ Go.maxLen ∧ (fn = true → fc = (0 : Nat))) ∧ (fl + (List.take x_1.fs.length (List.drop (0 : Nat) x_1.fs)).length) * (32 : Nat) ≤ (140737488355328 : Nat)) (.all fun x_2 : sym.Grown fn (List.take x_1.fs.length (List.drop (0 : Nat) x_1.fs)).length (fl + (List.take x_1.fs.length (List.drop (0 : Nat) x_1.fs)).length) => (.chk (bn = bn ∧ (1 : Nat) = (1 : Nat) ∧ (0 : Nat) = (0 : Nat) ∧ n = n ∧ cap = cap) (.chk (A2 = A2 ∧ [IntKind.u16] = [IntKind.u16] ∧ Y = Y ∧ m = m ∧ cap2 = cap2) (.chk (x_2.nl' = x_2.nl' ∧ (2 : Nat) = (2 : Nat) ∧ (0 : Nat) = (0 : Nat) ∧ fl + (List.take x_1.fs.length (List.drop (0 : Nat) x_1.fs)).length = fl + (List.take x_1.fs.length (List.drop (0 : Nat) x_1.fs)).length ∧ x_2.cap = x_2.cap) (.chk (IntKind.i64 = IntKind.i64 ∧ pcE n at_ (Y.getD ((↑i : Int).toNat * [IntKind.u16].length + (0 : Nat)) (0 : Int)) = (↑(pcE n at_ (Y.getD ((↑i : Int).toNat * [IntKind.u16].length + (0 : Nat)) (0 : Int))).toNat : Int)) (.chk (A2 = A2 ∧ [IntKind.u16] = [IntKind.u16] ∧ Y = Y ∧ m = m ∧ cap2 = cap2) (.chk (IntKind.i64 = IntKind.i64 ∧ (↑m : Int) = (↑m : Int)) (.chk (IntKind.i64 = IntKind.i64 ∧ IntKind.i64.wrap ((↑i : Int) + (1 : Int)) = (↑(IntKind.i64.wrap ((↑i : Int) + (1 : Int))).toNat : Int)) (.chk (L = L ∧ O = O) (.chk (bn = bn ∧ [IntKind.u8] = [IntKind.u8] ∧ X = X ∧ bc = bc) (.chk (x.nl = x.nl ∧ (1 : Nat) = (1 : Nat) ∧ (0 : Nat) = (0 : Nat) ∧ (scanL (Lx ++ sym.cutL X (sym.cutO (0 : Nat) cap (↑at_ : Int).toNat) (sym.cutO (0 : Nat) cap (↑at_ : Int).toNat + ((pcE n at_ (Y.getD ((↑i : Int).toNat * [IntKind.u16].length + (0 : Nat)) (0 : Int))).toNat - (↑at_ : Int).toNat)) (1 : Nat))).snd.snd.length = (scanL (Lx ++ sym.cutL X (sym.cutO (0 : Nat) cap (↑at_ : Int).toNat) (sym.cutO (0 : Nat) cap (↑at_ : Int).toNat + ((pcE n at_ (Y.getD ((↑i : Int).toNat * [IntKind.u16].length + (0 : Nat)) (0 : Int))).toNat - (↑at_ : Int).toNat)) (1 : Nat))).snd.snd.length ∧ x.cap = x.cap) (.chk (IntKind.i64 = IntKind.i64 ∧ sk + (↑(scanL (Lx ++ sym.cutL X (sym.cutO (0 : Nat) cap (↑at_ : Int).toNat) (sym.cutO (0 : Nat) cap (↑at_ : Int).toNat + ((pcE n at_ (Y.getD ((↑i : Int).toNat * [IntKind.u16].length + (0 : Nat)) (0 : Int))).toNat - (↑at_ : Int).toNat)) (1 : Nat))).snd.fst : Int) = sk + (↑(scanL (Lx ++ sym.cutL X (sym.cutO (0 : Nat) cap (↑at_ : Int).toNat) (sym.cutO (0 : Nat) cap (↑at_ : Int).toNat + ((pcE n at_ (Y.getD ((↑i : Int).toNat * [IntKind.u16].length + (0 : Nat)) (0 : Int))).toNat - (↑at_ : Int).toNat)) (1 : Nat))).snd.fst : Int)) (.chk (x_2.nl' = x_2.nl' ∧ List.take fl fs ++ List.take x_1.fs.length (List.drop (0 : Nat) x_1.fs) = List.take fl fs ++ List.take x_1.fs.length (List.drop (0 : Nat) x_1.fs) ∧ x_2.cap = x_2.cap) (.chk (x.nl = x.nl ∧ [IntKind.u8] = [IntKind.u8] ∧ (scanL (Lx ++ sym.cutL X (sym.cutO (0 : Nat) cap (↑at_ : Int).toNat) (sym.cutO (0 : Nat) cap (↑at_ : Int).toNat + ((pcE n at_ (Y.getD ((↑i : Int).toNat * [IntKind.u16].length + (0 : Nat)) (0 : Int))).toNat - (↑at_ : Int).toNat)) (1 : Nat))).snd.snd = (scanL (Lx ++ sym.cutL X (sym.cutO (0 : Nat) cap (↑at_ : Int).toNat) (sym.cutO (0 : Nat) cap (↑at_ : Int).toNat + ((pcE n at_ (Y.getD ((↑i : Int).toNat * [IntKind.u16].length + (0 : Nat)) (0 : Int))).toNat - (↑at_ : Int).toNat)) (1 : Nat))).snd.snd ∧ x.cap = x.cap) (.leaf (.inl ⟨List.take fl fs ++ List.take x_1.fs.length (List.drop (0 : Nat) x_1.fs), fl + (List.take x_1.fs.length (List.drop (0 : Nat) x_1.fs)).length, x_2.nl', x_2.cap, (scanL (Lx ++ sym.cutL X (sym.cutO (0 : Nat) cap (↑at_ : Int).toNat) (sym.cutO (0 : Nat) cap (↑at_ : Int).toNat + ((pcE n at_ (Y.getD ((↑i : Int).toNat * [IntKind.u16].length + (0 : Nat)) (0 : Int))).toNat - (↑at_ : Int).toNat)) (1 : Nat))).snd.snd, (scanL (Lx ++ sym.cutL X (sym.cutO (0 : Nat) cap (↑at_ : Int).toNat) (sym.cutO (0 : Nat) cap (↑at_ : Int).toNat + ((pcE n at_ (Y.getD ((↑i : Int).toNat * [IntKind.u16].length + (0 : Nat)) (0 : Int))).toNat - (↑at_ : Int).toNat)) (1 : Nat))).snd.snd.length, x.nl, x.cap, sk + (↑(scanL (Lx ++ sym.cutL X (sym.cutO (0 : Nat) cap (↑at_ : Int).toNat) (sym.cutO (0 : Nat) cap (↑at_ : Int).toNat + ((pcE n at_ (Y.getD ((↑i : Int).toNat * [IntKind.u16].length + (0 : Nat)) (0 : Int))).toNat - (↑at_ : Int).toNat)) (1 : Nat))).snd.fst : Int), (pcE n at_ (Y.getD ((↑i : Int).toNat * [IntKind.u16].length + (0 : Nat)) (0 : Int))).toNat, (IntKind.i64.wrap ((↑i : Int) + (1 : Int))).toNat⟩))))))))))))))))))))))))) (.chk (bn = bn ∧ (1 : Nat) = (1 : Nat) ∧ (0 : Nat) = (0 : Nat) ∧ n = n ∧ cap = cap) (.chk (A2 = A2 ∧ [IntKind.u16] = [IntKind.u16] ∧ Y = Y ∧ m = m ∧ cap2 = cap2) (.chk (fn = fn ∧ (2 : Nat) = (2 : Nat) ∧ (0 : Nat) = (0 : Nat) ∧ fl = fl ∧ fc = fc) (.chk (IntKind.i64 = IntKind.i64 ∧ (↑at_ : Int) = (↑(↑at_ : Int).toNat : Int)) (.chk (A2 = A2 ∧ [IntKind.u16] = [IntKind.u16] ∧ Y = Y ∧ m = m ∧ cap2 = cap2) (.chk (IntKind.i64 = IntKind.i64 ∧ (↑m : Int) = (↑m : Int)) (.chk (IntKind.i64 = IntKind.i64 ∧ (↑i : Int) = (↑(↑i : Int).toNat : Int)) (.chk (L = L ∧ O = O) (.chk (bn = bn ∧ [IntKind.u8] = [IntKind.u8] ∧ X = X ∧ bc = bc) (.chk (nl = nl ∧ (1 : Nat) = (1 : Nat) ∧ (0 : Nat) = (0 : Nat) ∧ ln = ln ∧ lc = lc) (.chk (IntKind.i64 = IntKind.i64 ∧ sk = sk) (.chk (fn = fn ∧ fs = fs ∧ fc = fc) (.chk (nl = nl ∧ [IntKind.u8] = [IntKind.u8] ∧ Lx = Lx ∧ lc = lc) (.leaf (.inr (.inl ⟨fs, fl, fn, fc, Lx, ln, nl, lc, sk, (↑at_ : Int).toNat, (↑i : Int).toNat⟩))))))))))))))))) := by kernel_rfl
theorem fedg_tree (w : World) (L : Nat → Option Obj) (O : Nat → Bool) (bn : Bool) (X : List Int) (n cap bc : Nat) (A2 : Option Addr) (Y : List Int) (m cap2 : Nat) :
    callT Try.prog w (flatT Try.prog) noCtr (preOr (preOf w tab2) (fpreOf [concatC w, feedC w, framesC, rscanC w, sameFC])) (lpOf Try.prog [dgLp L O bn X n cap bc A2 Y m cap2]) 20 15 [.v (.one (.gs 1 bn 1 0 n cap)), .v (.one (.xr A2 [.u16] Y m cap2))] [⟨[.keep L O], 0⟩, ⟨[.row bn [.u8] X bc], 5⟩] =
(.chk (sym.textAt Go.Proofs.Try.prog (15 : Go.FuncId) (0 : Nat) = sym.textAt Go.Proofs.Try.prog (15 : Go.FuncId) (0 : Nat)) (.chk (bn = bn ∧ (1 : Nat) = (1 : Nat) ∧ (0 : Nat) = (0 : Nat) ∧ n = n ∧ cap = cap) (.chk (A2 = A2 ∧ [IntKind.u16] = [IntKind.u16] ∧ Y = Y ∧ m = m ∧ cap2 = cap2) (.chk (true = true ∧ (0 : Nat) = (0 : Nat) ∧ (0 : Nat) = (0 : Nat)) (.chk (IntKind.i64 = IntKind.i64 ∧ (0 : Int) = (↑(0 : Nat) : Int)) (.chk (A2 = A2 ∧ [IntKind.u16] = [IntKind.u16] ∧ Y = Y ∧ m = m ∧ cap2 = cap2) (.chk (IntKind.i64 = IntKind.i64 ∧ (↑m : Int) = (↑m : Int)) (.chk (IntKind.i64 = IntKind.i64 ∧ (0 : Int) = (↑(0 : Nat) : Int)) (.chk (L = L ∧ O = O) (.chk (bn = bn ∧ [IntKind.u8] = [IntKind.u8] ∧ X = X ∧ bc = bc) (.chk (true = true ∧ (0 : Nat) = (0 : Nat) ∧ (0 : Nat) = (0 : Nat)) (.chk (IntKind.i64 = IntKind.i64 ∧ (0 : Int) = (0 : Int)) (.chk (true = true ∧ ([] : List Fr) = []) (.chk (true = true ∧ ([] : List Int) = []) (.chk (dgInv L O bn X n cap bc A2 Y m cap2 { } { fs := [], fl := (0 : Nat), fn := true, fc := (0 : Nat), Lx := [], ln := (0 : Nat), nl := true, lc := (0 : Nat), sk := (0 : Int), at_ := (0 : Nat), i := (0 : Nat) }) (.all fun x : sym.Got dgX (dgPost L O bn X n cap bc A2 Y m cap2 { }) => (.chk ((0 : Int) ≤ (↑x.1.10 : Int) ∧ (↑x.1.10 : Int) ≤ (↑n : Int) ∧ (↑n : Int) ≤ (↑cap : Int)) (.chk (bn = bn ∧ sym.cutO (0 : Nat) cap (↑x.1.10 : Int).toNat + (n - (↑x.1.10 : Int).toNat) ≤ X.length ∧ n - (↑x.1.10 : Int).toNat ≤ cap - (↑x.1.10 : Int).toNat ∧ x.1.7 = x.1.7 ∧ x.1.8 = x.1.8 ∧ x.1.5.length = x.1.6 ∧ x.1.6 ≤ x.1.8 ∧ x.1.6 ≤ (1000000 : Nat) ∧ n - (↑x.1.10 : Int).toNat ≤ (1000000 : Nat) ∧ Bs X ∧ Bs x.1.5 ∧ (0 : Int) ≤ x.1.9 ∧ x.1.9 ≤ (1000000000 : Int)) (.all fun x_1 : FeedR (x.1.5 ++ sym.cutL X (sym.cutO (0 : Nat) cap (↑x.1.10 : Int).toNat) (sym.cutO (0 : Nat) cap (↑x.1.10 : Int).toNat + (n - (↑x.1.10 : Int).toNat)) (1 : Nat)) => (.chk (x_1.fn = x_1.fn ∧ x_1.fs.length = x_1.fs.length ∧ (x_1.fn = true → x_1.fs.length = (0 : Nat)) ∧ x_1.fs.length ≤ (4000000 : Nat)) (.all fun x_2 : FrsR (pj x_1.fs) => (.chk (x_2.fn = x_2.fn ∧ (0 : Nat) + x_2.fs.length ≤ x_2.fs.length) (.chk ((x.1.3 = x.1.3 ∧ (0 : Nat) = (0 : Nat) ∧ x.1.4 = x.1.4 ∧ x.1.2 ≤ x.1.1.length ∧ x.1.2 ≤ x.1.4 ∧ x.1.4 ≤ Go.maxLen ∧ (x.1.3 = true → x.1.4 = (0 : Nat))) ∧ (x.1.2 + (List.take x_2.fs.length (List.drop (0 : Nat) x_2.fs)).length) * (32 : Nat) ≤ (140737488355328 : Nat)) (.all fun x_3 : sym.Grown x.1.3 (List.take x_2.fs.length (List.drop (0 : Nat) x_2.fs)).length (x.1.2 + (List.take x_2.fs.length (List.drop (0 : Nat) x_2.fs)).length) => (.leaf ((.tuple [(.one (.gs 8 (x_3.nl') 2 0 (x.1.2 + (List.take x_2.fs.length (List.drop (0 : Nat) x_2.fs)).length) (x_3.cap))), (.one (.ptr 2 0))]), [⟨[(.keep (L) (O))], 0⟩, ⟨[(.row (bn) ([IntKind.u8]) (X) (bc))], 5⟩, ⟨[(.gs 6 (x_1.nl) 1 0 ((scanL (x.1.5 ++ sym.cutL X (sym.cutO (0 : Nat) cap (↑x.1.10 : Int).toNat) (sym.cutO (0 : Nat) cap (↑x.1.10 : Int).toNat + (n - (↑x.1.10 : Int).toNat)) (1 : Nat))).snd.snd.length) (x_1.cap)), (.int false .i64 (x.1.9 + (↑(scanL (x.1.5 ++ sym.cutL X (sym.cutO (0 : Nat) cap (↑x.1.10 : Int).toNat) (sym.cutO (0 : Nat) cap (↑x.1.10 : Int).toNat + (n - (↑x.1.10 : Int).toNat)) (1 : Nat))).snd.fst : Int)))], 46⟩, ⟨[.dead], 24⟩, ⟨[.dead], 5⟩, ⟨[(.frs (x_1.fn) (x_1.fs) (x_1.fc))], 29⟩, ⟨[(.row (x_1.nl) ([IntKind.u8]) ((scanL (x.1.5 ++ sym.cutL X (sym.cutO (0 : Nat) cap (↑x.1.10 : Int).toNat) (sym.cutO (0 : Nat) cap (↑x.1.10 : Int).toNat + (n - (↑x.1.10 : Int).toNat)) (1 : Nat))).snd.snd) (x_1.cap))], 5⟩, ⟨[(.frs (x_2.fn) (x_2.fs) (x_2.fc))], 24⟩, ⟨[(.frs (x_3.nl') (List.take x.1.2 x.1.1 ++ List.take x_2.fs.length (List.drop (0 : Nat) x_2.fs)) (x_3.cap))], 24⟩])))))))))))))))))))))))))) := by kernel_rfl
def dgMu (L : Nat → Option Obj) (O : Nat → Bool) (bn : Bool) (X : List Int) (n cap bc : Nat) (A2 : Option Addr) (Y : List Int) (m cap2 : Nat) (p : dgP) (x : dgX) : Nat := m - x.i
set_option maxHeartbeats 1000000 in
theorem dg_step (w : World) (L : Nat → Option Obj) (O : Nat → Bool) (bn : Bool) (X : List Int) (n cap bc : Nat) (A2 : Option Addr) (Y : List Int) (m cap2 : Nat) (p : dgP) (x : dgX) (hX : X.length = n) (hc : n ≤ cap) (hB : Bs X) (big : n ≤ 1000000) (hY : XR w A2 [.u16] Y m) (hYW : ∀ j, W (Y.getD j 0)) (big2 : m ≤ 1000000) (h : dgInv L O bn X n cap bc A2 Y m cap2 p x) : Hid (roundT Try.prog w (flatT Try.prog) (noCtr) (callT Try.prog w (flatT Try.prog) (noCtr) (preOr (preOf w tab2) (fpreOf [concatC w, feedC w, framesC, rscanC w, sameFC])) (noLoop) 20) ((noLoop) 15) (roundOf (bodyAt Try.prog 15 0)) 0 3 dgRo dgRf dgRb (dgSt L O bn X n cap bc A2 Y m cap2 p) (dgFin L O bn X n cap bc A2 Y m cap2 p) (dgBck L O bn X n cap bc A2 Y m cap2 p) dgNxX dgNxX dgNxZ x) (Kept (dgInv L O bn X n cap bc A2 Y m cap2 p) (dgPost L O bn X n cap bc A2 Y m cap2 p) (dgBack L O bn X n cap bc A2 Y m cap2 p) (dgMu L O bn X n cap bc A2 Y m cap2 p) x) := by
  obtain ⟨⟩ := p
  obtain ⟨fs, fl, fn, fc, Lx, ln, nl, lc, sk, at_, i⟩ := x
  constructor
  rw [dgstep_tree]
  simp only [T.holds, Kept, dgMu, and_self, true_and, and_true]
  obtain ⟨i1, a1, fl1, fd, fnil, ll, ld, lnil, e1, e2, e3⟩ := h
  simp only at i1 a1 fl1 fd fnil ll ld lnil e1 e2 e3
  subst fl1 ll
  have hXl : X.length = n := hX
  have hYl : Y.length = m := by simpa using hY.1
  obtain ⟨s1, s2, s3, s4, s5⟩ := scan_in (X.take at_)
  rw [List.length_take] at s1 s2 s3
  have hfl : fs.length ≤ at_ := by
    have := congrArg List.length e1
    rw [pj_length] at this
    omega
  have hLl : Lx.length ≤ at_ := by rw [e3]; omega
  have hBL : Bs Lx := by rw [e3]; exact scan_B (hB.take _)
  have htk : fs.take fs.length = fs := List.take_of_length_le (Nat.le_refl _)
  have t1 : ((i : Nat) : Int).toNat = i := Int.toNat_natCast i
  have t2 : ((at_ : Nat) : Int).toNat = at_ := Int.toNat_natCast at_
  refine ⟨fun hlt => ?_, fun hge => ?_⟩
  · have hlt : i < m := by have := of_decide_eq_true hlt; omega
    have hcw := hYW (i * [IntKind.u16].length + 0)
    have w1 : IntKind.i64.wrap ((i : Int) + 1) = ((i + 1 : Nat) : Int) := by rw [wi64 _ (by omega) (by omega)]; omega
    obtain ⟨qa, qb⟩ := pcN_in (n := n) (c := Y.getD (i * [IntKind.u16].length + 0) 0) a1
    have hpe := pcE_is (n := n) (at_ := at_) hcw a1 big
    rw [t1, t2, hpe]
    generalize pcN n at_ (Y.getD (i * [IntKind.u16].length + 0) 0) = q at *
    rw [Int.toNat_natCast q]
    obtain ⟨hcl, hcb⟩ := cutOP (X := X) (a := at_) (q := q) (cap := cap) (by omega) (by omega) (by omega)
    rw [hcl]
    have hst := scan_take (X := X) qa
    rw [← e3] at hst
    have hBp : Bs ((X.drop at_).take (q - at_)) := (hB.drop _).take _
    have hpl : ((X.drop at_).take (q - at_)).length = q - at_ := by rw [List.length_take, List.length_drop]; omega
    generalize (X.drop at_).take (q - at_) = PC at *
    obtain ⟨p1, p2, p3, p4, p5⟩ := scan_in (Lx ++ PC)
    rw [List.length_append, hpl] at p1 p2 p3
    simp only [w1, Int.toNat_natCast, true_and, and_true]
    refine ⟨⟨hY, by omega, by omega, by decide⟩, ⟨hY.2, by decide, by simp; omega⟩, ⟨by omega, by omega, by omega⟩, ⟨hcb, by omega, ld.1, by omega, by omega, hB, hBL, by omega, by omega⟩, fun r => ⟨⟨fun h => (r.fnil h).1, ?_⟩, fun r1 => ⟨?_, ?_, fun g => ⟨?_, by omega⟩⟩⟩⟩
    · have := congrArg List.length r.eq
      rw [pj_length] at this
      omega
    · omega
    · have hr := congrArg List.length r.eq
      have hr1 := congrArg List.length r1.eq
      rw [pj_length] at hr hr1
      rw [pj_length] at hr1
      refine ⟨⟨Nat.le_refl _, fd.1, fd.2, fun h => (fnil h).2⟩, ?_⟩
      simp only [List.drop_zero, List.length_take]
      omega
    · have htr : (r1.fs.drop 0).take r1.fs.length = r1.fs := by rw [List.drop_zero, List.take_of_length_le (Nat.le_refl _)]
      refine ⟨by show i + 1 ≤ m; omega, qb, ?_, ⟨g.le, g.max⟩, fun h => ?_, rfl, r.ld, r.lnil, ?_, ?_, ?_⟩
      · show fs.length + ((r1.fs.drop 0).take r1.fs.length).length = (fs.take fs.length ++ (r1.fs.drop 0).take r1.fs.length).length
        rw [List.length_append, htk]
      · exact (rowR g).nil h
      · show pj (fs.take fs.length ++ (r1.fs.drop 0).take r1.fs.length) = (scanL (X.take q)).1
        rw [htr, htk, pj_append, r1.eq, r.eq, e1, hst]
      · show sk + ((scanL (Lx ++ PC)).2.1 : Nat) = ((scanL (X.take q)).2.1 : Nat)
        rw [e2, hst]
        simp only
        omega
      · show (scanL (Lx ++ PC)).2.2 = (scanL (X.take q)).2.2
        rw [hst]
  · simp only [Int.toNat_natCast, true_and, and_true]
    exact ⟨a1, rfl, fd, fnil, rfl, ld, lnil, e1, e2, e3⟩
theorem dgLp_ok (w : World) (L : Nat → Option Obj) (O : Nat → Bool) (bn : Bool) (X : List Int) (n cap bc : Nat) (A2 : Option Addr) (Y : List Int) (m cap2 : Nat) (hX : X.length = n) (hc : n ≤ cap) (hB : Bs X) (big : n ≤ 1000000) (hY : XR w A2 [.u16] Y m) (hYW : ∀ j, W (Y.getD j 0)) (big2 : m ≤ 1000000) : (dgLp L O bn X n cap bc A2 Y m cap2).ok Try.prog w := by
  intro s t h
  unfold dgLp at h
  simp only at h
  split at h
  · rename_i p _
    split at h
    · rename_i x _
      cases h
      exact loop_ok base2 (ctrs_none _ w) (callT_ok base2.mixed base2.names base2.eqs (ctrs_none _ w).ok (ctrs_none _ w).there (pre4_ok w) (loops_none _ _) 20) ((loops_none _ _) 15) (c := roundOf (bodyAt Try.prog 15 0)) (by kernel_rfl) (id := 0) (n := 3) (hr := false) (ro := dgRo) (rf := dgRf) (rr := dgRb) (st := dgSt L O bn X n cap bc A2 Y m cap2 p) (fin := dgFin L O bn X n cap bc A2 Y m cap2 p) (bck := dgBck L O bn X n cap bc A2 Y m cap2 p) (inv := dgInv L O bn X n cap bc A2 Y m cap2 p) (post := dgPost L O bn X n cap bc A2 Y m cap2 p) (back := dgBack L O bn X n cap bc A2 Y m cap2 p) (nx := dgNxX) (fx := dgNxX) (bx := dgNxZ) (dgMu L O bn X n cap bc A2 Y m cap2 p) (nf := 5) (nf' := 5) (nf'' := 5) (fun x => by kernel_rfl) (fun y => by kernel_rfl) (fun z => nomatch z) (.inr fun z => nomatch z) (fun x hx => dg_step w L O bn X n cap bc A2 Y m cap2 p x hX hc hB big hY hYW big2 hx) s x
    · cases h
  · cases h
def fedL (X : List Int) (r : FeedR X) (i : Nat) : List Blk := [⟨[.frs r.fn r.fs r.fc], 24⟩, ⟨[.gs i r.nl 1 0 (scanL X).2.2.length r.cap, .int false .i64 ((scanL X).2.1 : Nat)], 46⟩, ⟨[.row r.nl [.u8] (scanL X).2.2 r.cap], 5⟩]
def fedC (w0 : World) : FCtr := ⟨15, fun args h => match args, h with
  | [.v (.one (.xr A [.u8] X n cap)), .v (.one (.xr A2 [.u16] Y m cap2))], [] => some (.chk (XR w0 A [.u8] X n ∧ n ≤ cap ∧ Bs X ∧ n ≤ 1000000 ∧ XR w0 A2 [.u16] Y m ∧ (∀ j, W (Y.getD j 0)) ∧ m ≤ 1000000) (.all fun r : FeedR X => .leaf (.tuple [.one (.gs 1 r.fn 2 0 r.fs.length r.fc), .one (.ptr 2 0)], fedL X r 3)))
  | [.v (.one (.gs 1 bn 1 0 n cap)), .v (.one (.xr A2 [.u16] Y m cap2))], [⟨[.row bn' [.u8] X bc], 5⟩] => some (.chk (bn' = bn ∧ X.length = n ∧ n ≤ cap ∧ Bs X ∧ n ≤ 1000000 ∧ XR w0 A2 [.u16] Y m ∧ (∀ j, W (Y.getD j 0)) ∧ m ≤ 1000000) (.all fun r : FeedR X => .leaf (.tuple [.one (.gs 2 r.fn 2 0 r.fs.length r.fc), .one (.ptr 3 0)], ⟨[.row bn' [.u8] X bc], 5⟩ :: fedL X r 4)))
  | _, _ => none⟩
set_option maxHeartbeats 1000000 in
theorem fedC_ok (w0 : World) : (fedC w0).Ok Try.prog w0 := by
  refine fctr_ok base2 (ctrs_none _ _) (pre4_ok w0) (n := 20) fun args h t h0 => ?_
  unfold fedC at h0
  simp only at h0
  split at h0
  · rename_i A X n cap A2 Y m cap2
    cases h0
    intro L O K hK
    obtain ⟨⟨hX, hc, hB, big, hY, hYW, big2⟩, hK⟩ := hK
    refine ⟨lpOf Try.prog [dxLp L O A X n cap A2 Y m cap2], lps_ok fun l hl => ?_, ?_⟩
    · simp only [List.mem_cons, List.not_mem_nil, or_false] at hl
      subst hl
      exact dxLp_ok w0 L O A X n cap A2 Y m cap2 hX hc hB big hY hYW big2
    show T.holds (callT Try.prog w0 (flatT Try.prog) noCtr (preOr (preOf w0 tab2) (fpreOf [concatC w0, feedC w0, framesC, rscanC w0, sameFC])) (lpOf Try.prog [dxLp L O A X n cap A2 Y m cap2]) 20 15 [.v (.one (.xr A [.u8] X n cap)), .v (.one (.xr A2 [.u16] Y m cap2))] [⟨[.keep L O], 0⟩]) _
    rw [fedx_tree]
    have hXl : X.length = n := by simpa using hX.1
    simp only [T.holds, true_and, and_true, and_self]
    refine ⟨rfl, rfl, ⟨Nat.zero_le _, Nat.zero_le _, rfl, ⟨Nat.le_refl _, by show 0 ≤ maxLen; decide⟩, fun _ => ⟨rfl, rfl⟩, rfl, ⟨Nat.le_refl _, by show 0 ≤ maxLen; decide⟩, fun _ => ⟨rfl, rfl⟩, by rw [List.take_zero]; rfl, by rw [List.take_zero]; rfl, by rw [List.take_zero]; rfl⟩, fun y => ?_⟩
    have a1 := y.so.a1
    have fl1 := y.so.fl1
    have fd := y.so.fd
    have fnil := y.so.fnil
    have ll := y.so.ll
    have ld := y.so.ld
    have lnil := y.so.lnil
    have e1 := y.so.e1
    have e2 := y.so.e2
    have e3 := y.so.e3
    generalize y.it = z at *
    obtain ⟨fs, fl, fn, fc, Lx, ln, nl, lc, sk, at_, i⟩ := z
    simp only at a1 fl1 fd fnil ll ld lnil e1 e2 e3
    subst fl1 ll
    obtain ⟨s1, s2, s3, s4, s5⟩ := scan_in (X.take at_)
    rw [List.length_take] at s1 s2 s3
    have hfl : fs.length ≤ at_ := by
      have := congrArg List.length e1
      rw [pj_length] at this
      omega
    have hLl : Lx.length ≤ at_ := by rw [e3]; omega
    have hBL : Bs Lx := by rw [e3]; exact scan_B (hB.take _)
    have htk : fs.take fs.length = fs := List.take_of_length_le (Nat.le_refl _)
    have t2 : ((at_ : Nat) : Int).toNat = at_ := Int.toNat_natCast at_
    dsimp only
    rw [t2]
    have hce : sym.cutL X at_ n [IntKind.u8].length = (X.drop at_).take (n - at_) := cut1 X at_ n
    have hcut := xr_cut (l := at_) (h := n) hX hc a1 (Nat.le_refl _)
    rw [hce] at hcut
    rw [hce]
    have hst := scan_take (X := X) a1
    rw [← e3, List.take_of_length_le (l := X) (by omega)] at hst
    have hBp : Bs ((X.drop at_).take (n - at_)) := (hB.drop _).take _
    have hpl : ((X.drop at_).take (n - at_)).length = n - at_ := by rw [List.length_take, List.length_drop]; omega
    generalize (X.drop at_).take (n - at_) = PC at *
    obtain ⟨p1, p2, p3, p4, p5⟩ := scan_in (Lx ++ PC)
    rw [List.length_append, hpl] at p1 p2 p3
    refine ⟨⟨by omega, by omega, by omega, hc⟩, ⟨hcut, by omega, rfl, ld.1, by omega, by omega, hBp, hBL, by omega, by omega⟩, fun r => ⟨⟨fun h => (r.fnil h).1, ?_⟩, fun r1 => ⟨?_, ?_, fun g => ?_⟩⟩⟩
    · have := congrArg List.length r.eq
      rw [pj_length] at this
      omega
    · omega
    · have hr := congrArg List.length r.eq
      have hr1 := congrArg List.length r1.eq
      rw [pj_length] at hr hr1
      rw [pj_length] at hr1
      refine ⟨⟨Nat.le_refl _, fd.1, fd.2, fun h => (fnil h).2⟩, ?_⟩
      simp only [List.drop_zero, List.length_take]
      omega
    · have htr : (r1.fs.drop 0).take r1.fs.length = r1.fs := by rw [List.drop_zero, List.take_of_length_le (Nat.le_refl _)]
      have hlen : fs.length + ((r1.fs.drop 0).take r1.fs.length).length = (fs.take fs.length ++ (r1.fs.drop 0).take r1.fs.length).length := by rw [List.length_append, htk]
      have q1 : pj (fs.take fs.length ++ (r1.fs.drop 0).take r1.fs.length) = (scanL X).1 := by rw [htr, htk, pj_append, r1.eq, r.eq, e1, hst]
      have q2 : sk + ((scanL (Lx ++ PC)).2.1 : Nat) = ((scanL X).2.1 : Nat) := by
        rw [e2, hst]
        simp only
        omega
      have q3 : (scanL (Lx ++ PC)).2.2 = (scanL X).2.2 := by rw [hst]
      refine ⟨_, _, hK ⟨fs.take fs.length ++ (r1.fs.drop 0).take r1.fs.length, g.nl', g.cap, r.nl, r.cap, q1, by rw [← hlen]; exact ⟨g.le, g.max⟩, by rw [← hlen]; exact (rowR g).nil, by rw [← q3]; exact r.lnil, by rw [← q3]; exact r.ld⟩, as_end [some 7, some 1, some 5] ?_ (by kernel_rfl) (fun h => by cases h)⟩
      have q4 : (scanL (Lx ++ PC)).2.2.length = (scanL X).2.2.length := by rw [q3]
      repeat' (first | exact trivial | exact rfl | exact q2 | exact q3 | exact q4 | exact hlen | (refine And.intro ?_ ?_))
  · rename_i bn n cap A2 Y m cap2 bn' X bc
    cases h0
    intro L O K hK
    obtain ⟨⟨rfl, hX, hc, hB, big, hY, hYW, big2⟩, hK⟩ := hK
    refine ⟨lpOf Try.prog [dgLp L O bn' X n cap bc A2 Y m cap2], lps_ok fun l hl => ?_, ?_⟩
    · simp only [List.mem_cons, List.not_mem_nil, or_false] at hl
      subst hl
      exact dgLp_ok w0 L O bn' X n cap bc A2 Y m cap2 hX hc hB big hY hYW big2
    show T.holds (callT Try.prog w0 (flatT Try.prog) noCtr (preOr (preOf w0 tab2) (fpreOf [concatC w0, feedC w0, framesC, rscanC w0, sameFC])) (lpOf Try.prog [dgLp L O bn' X n cap bc A2 Y m cap2]) 20 15 [.v (.one (.gs 1 bn' 1 0 n cap)), .v (.one (.xr A2 [.u16] Y m cap2))] [⟨[.keep L O], 0⟩, ⟨[.row bn' [.u8] X bc], 5⟩]) _
    rw [fedg_tree]
    have hXl : X.length = n := hX
    simp only [T.holds, true_and, and_true, and_self]
    refine ⟨rfl, rfl, ⟨Nat.zero_le _, Nat.zero_le _, rfl, ⟨Nat.le_refl _, by show 0 ≤ maxLen; decide⟩, fun _ => ⟨rfl, rfl⟩, rfl, ⟨Nat.le_refl _, by show 0 ≤ maxLen; decide⟩, fun _ => ⟨rfl, rfl⟩, by rw [List.take_zero]; rfl, by rw [List.take_zero]; rfl, by rw [List.take_zero]; rfl⟩, fun y => ?_⟩
    have a1 := y.so.a1
    have fl1 := y.so.fl1
    have fd := y.so.fd
    have fnil := y.so.fnil
    have ll := y.so.ll
    have ld := y.so.ld
    have lnil := y.so.lnil
    have e1 := y.so.e1
    have e2 := y.so.e2
    have e3 := y.so.e3
    generalize y.it = z at *
    obtain ⟨fs, fl, fn, fc, Lx, ln, nl, lc, sk, at_, i⟩ := z
    simp only at a1 fl1 fd fnil ll ld lnil e1 e2 e3
    subst fl1 ll
    obtain ⟨s1, s2, s3, s4, s5⟩ := scan_in (X.take at_)
    rw [List.length_take] at s1 s2 s3
    have hfl : fs.length ≤ at_ := by
      have := congrArg List.length e1
      rw [pj_length] at this
      omega
    have hLl : Lx.length ≤ at_ := by rw [e3]; omega
    have hBL : Bs Lx := by rw [e3]; exact scan_B (hB.take _)
    have htk : fs.take fs.length = fs := List.take_of_length_le (Nat.le_refl _)
    have t2 : ((at_ : Nat) : Int).toNat = at_ := Int.toNat_natCast at_
    dsimp only
    rw [t2]
    obtain ⟨hcl, hcb⟩ := cutOP (X := X) (a := at_) (q := n) (cap := cap) a1 (by omega) (by omega)
    rw [hcl]
    have hst := scan_take (X := X) a1
    rw [← e3, List.take_of_length_le (l := X) (by omega)] at hst
    have hBp : Bs ((X.drop at_).take (n - at_)) := (hB.drop _).take _
    have hpl : ((X.drop at_).take (n - at_)).length = n - at_ := by rw [List.length_take, List.length_drop]; omega
    generalize (X.drop at_).take (n - at_) = PC at *
    obtain ⟨p1, p2, p3, p4, p5⟩ := scan_in (Lx ++ PC)
    rw [List.length_append, hpl] at p1 p2 p3
    refine ⟨⟨by omega, by omega, by omega⟩, ⟨hcb, by omega, rfl, ld.1, by omega, by omega, hB, hBL, by omega, by omega⟩, fun r => ⟨⟨fun h => (r.fnil h).1, ?_⟩, fun r1 => ⟨?_, ?_, fun g => ?_⟩⟩⟩
    · have := congrArg List.length r.eq
      rw [pj_length] at this
      omega
    · omega
    · have hr := congrArg List.length r.eq
      have hr1 := congrArg List.length r1.eq
      rw [pj_length] at hr hr1
      rw [pj_length] at hr1
      refine ⟨⟨Nat.le_refl _, fd.1, fd.2, fun h => (fnil h).2⟩, ?_⟩
      simp only [List.drop_zero, List.length_take]
      omega
    · have htr : (r1.fs.drop 0).take r1.fs.length = r1.fs := by rw [List.drop_zero, List.take_of_length_le (Nat.le_refl _)]
      have hlen : fs.length + ((r1.fs.drop 0).take r1.fs.length).length = (fs.take fs.length ++ (r1.fs.drop 0).take r1.fs.length).length := by rw [List.length_append, htk]
      have q1 : pj (fs.take fs.length ++ (r1.fs.drop 0).take r1.fs.length) = (scanL X).1 := by rw [htr, htk, pj_append, r1.eq, r.eq, e1, hst]
      have q2 : sk + ((scanL (Lx ++ PC)).2.1 : Nat) = ((scanL X).2.1 : Nat) := by
        rw [e2, hst]
        simp only
        omega
      have q3 : (scanL (Lx ++ PC)).2.2 = (scanL X).2.2 := by rw [hst]
      refine ⟨_, _, hK ⟨fs.take fs.length ++ (r1.fs.drop 0).take r1.fs.length, g.nl', g.cap, r.nl, r.cap, q1, by rw [← hlen]; exact ⟨g.le, g.max⟩, by rw [← hlen]; exact (rowR g).nil, by rw [← q3]; exact r.lnil, by rw [← q3]; exact r.ld⟩, as_end [some 8, some 2, some 6] ?_ (by kernel_rfl) (fun h => by cases h)⟩
      have q4 : (scanL (Lx ++ PC)).2.2.length = (scanL X).2.2.length := by rw [q3]
      repeat' (first | exact trivial | exact rfl | exact q2 | exact q3 | exact q4 | exact hlen | (refine And.intro ?_ ?_))
  · cases h0
end Go.Proofs.Ytmenafkmkcodlaa
