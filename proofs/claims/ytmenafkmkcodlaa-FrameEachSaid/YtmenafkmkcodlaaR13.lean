/-
  Each piece tells its frames: the law walked.
-/
import Derived.Test.YtmenafkmkcodlaaR11
namespace Go.Proofs.Ytmenafkmkcodlaa
open Go.RowKit sym
set_option linter.unusedVariables false
set_option linter.unusedSimpArgs false
set_option maxRecDepth 100000
structure eaP where
structure eaX where
  Lx : List Int
  ln : Nat
  nl : Bool
  lc : Nat
  sk : Int
  at_ : Nat
  told : Nat
  i : Nat
def eaSt (A : Option Addr) (X : List Int) (n cap : Nat) (A2 : Option Addr) (Y : List Int) (m cap2 : Nat) : eaP → eaX → ASt := fun ⟨⟩ ⟨Lx, ln, nl, lc, sk, at_, told, i⟩ => ⟨slots (List.replicate 95 .any) [(0, .v (.one (.xr A [.u8] X n cap))), (1, .v (.one (.xr A2 [.u16] Y m cap2))), (4, .v (.one (.bool true false))), (5, .v (.one (.ptr 0 0))), (6, .v (.one (.int false .i64 (at_ : Int)))), (7, .v (.one (.int false .i64 (told : Int)))), (29, .v (.one (.xr A2 [.u16] Y m cap2))), (30, .v (.one (.int false .i64 (m : Int)))), (31, .v (.one (.int false .i64 (i : Int))))], [⟨[.gs 1 nl 1 0 ln lc, .int false .i64 sk], 46⟩, ⟨[.row nl [.u8] Lx lc], 5⟩]⟩
def eaFin (A : Option Addr) (X : List Int) (n cap : Nat) (A2 : Option Addr) (Y : List Int) (m cap2 : Nat) : eaP → eaX → ASt := fun ⟨⟩ ⟨Lx, ln, nl, lc, sk, at_, told, i⟩ => ⟨slots (List.replicate 95 .any) [(0, .v (.one (.xr A [.u8] X n cap))), (1, .v (.one (.xr A2 [.u16] Y m cap2))), (4, .v (.one (.bool true false))), (5, .v (.one (.ptr 0 0))), (6, .v (.one (.int false .i64 (at_ : Int)))), (7, .v (.one (.int false .i64 (told : Int)))), (29, .v (.one (.xr A2 [.u16] Y m cap2))), (30, .v (.one (.int false .i64 (m : Int)))), (31, .v (.one (.int false .i64 (i : Int))))], [⟨[.gs 1 nl 1 0 ln lc, .int false .i64 sk], 46⟩, ⟨[.row nl [.u8] Lx lc], 5⟩]⟩
def eaBck (A : Option Addr) (X : List Int) (n cap : Nat) (A2 : Option Addr) (Y : List Int) (m cap2 : Nat) : eaP → Empty → ASt := fun _ z => nomatch z
def eaNxP : ASt → Option eaP := fun s => some ⟨⟩
def eaNxX : ASt → Option eaX := fun s => match hgX s 0 0 with | none => none | some Lx => match hgL s 0 0 with | none => none | some ln => match hgN s 0 0 with | none => none | some nl => match hgC s 0 0 with | none => none | some lc => match hI s 0 1 with | none => none | some sk => match (gI s 6).map Int.toNat with | none => none | some at_ => match (gI s 7).map Int.toNat with | none => none | some told => match (gI s 31).map Int.toNat with | none => none | some i => some ⟨Lx, ln, nl, lc, sk, at_, told, i⟩
def eaNxZ : ASt → Option Empty := fun _ => none
def eaRo : ASt → List (Option Nat) := (fun s => [sym.rowIn s 0 0])
def eaRf : ASt → List (Option Nat) := (fun s => [sym.rowIn s 0 0])
def eaRb : ASt → List (Option Nat) := (fun s => [sym.rowIn s 0 0])
structure eaInv (A : Option Addr) (X : List Int) (n cap : Nat) (A2 : Option Addr) (Y : List Int) (m cap2 : Nat) (p : eaP) (x : eaX) : Prop where
  big : n ≤ 3000
  big2 : m ≤ 60
  i1 : x.i ≤ m
  a1 : x.at_ ≤ n
  ll : x.ln = x.Lx.length
  ld : x.ln ≤ x.lc ∧ x.lc ≤ maxLen
  lnil : x.nl = true → x.ln = 0 ∧ x.lc = 0
  t1 : x.told = (scanL (X.take x.at_)).1.length
  e2 : x.sk = ((scanL (X.take x.at_)).2.1 : Nat)
  e3 : x.Lx = (scanL (X.take x.at_)).2.2
structure eaPost (A : Option Addr) (X : List Int) (n cap : Nat) (A2 : Option Addr) (Y : List Int) (m cap2 : Nat) (p : eaP) (x : eaX) : Prop where
  ll : x.ln = x.Lx.length
  ld : x.ln ≤ x.lc ∧ x.lc ≤ maxLen
  lnil : x.nl = true → x.ln = 0 ∧ x.lc = 0
def eaBack (A : Option Addr) (X : List Int) (n cap : Nat) (A2 : Option Addr) (Y : List Int) (m cap2 : Nat) (p : eaP) (x : Empty) : Prop := False
def eaLp (A : Option Addr) (X : List Int) (n cap : Nat) (A2 : Option Addr) (Y : List Int) (m cap2 : Nat) : Lp := ⟨8, 0, fun s => match eaNxP s with
  | some p => match eaNxX s with
    | some x => some (loopT 0 1 false eaRo (eaSt A X n cap A2 Y m cap2 p) (eaFin A X n cap A2 Y m cap2 p) (eaBck A X n cap A2 Y m cap2 p) (eaInv A X n cap A2 Y m cap2 p) (eaPost A X n cap A2 Y m cap2 p) (eaBack A X n cap A2 Y m cap2 p) s x)
    | none => none
  | none => none⟩
theorem eastep_tree (w : World) (A : Option Addr) (X : List Int) (n cap : Nat) (A2 : Option Addr) (Y : List Int) (m cap2 : Nat) (Lx : List Int) (ln : Nat) (nl : Bool) (lc : Nat) (sk : Int) (at_ : Nat) (told : Nat) (i : Nat) :
    roundT Try.prog w (flatT Try.prog) (ctrOf [awC]) (callT Try.prog w (flatT Try.prog) (ctrOf [awC]) (preOr (preOf w tab2) (fpreOf [concatC w, feedC w, framesC, rscanC w, sameFC, encC w, rencC w, fedC w])) (noLoop) 20) ((noLoop) 8) (roundOf (bodyAt Try.prog 8 0)) 0 1 eaRo eaRf eaRb (eaSt A X n cap A2 Y m cap2 ⟨⟩) (eaFin A X n cap A2 Y m cap2 ⟨⟩) (eaBck A X n cap A2 Y m cap2 ⟨⟩) eaNxX eaNxX eaNxZ ⟨Lx, ln, nl, lc, sk, at_, told, i⟩ =
(.br (decide ((↑i : Int) < (↑m : Int))) (.chk (sym.XR w A2 [IntKind.u16] Y m ∧ (0 : Int) ≤ (↑i : Int) ∧ (↑i : Int) < (↑m : Int) ∧ (0 : Nat) < [IntKind.u16].length) (.chk (sym.XC w A2 [IntKind.u16] Y ∧ (0 : Nat) < (1 : Nat) ∧ (↑i : Int).toNat * [IntKind.u16].length + (1 : Nat) ≤ Y.length) (.chk ((0 : Int) ≤ (↑at_ : Int) ∧ (↑at_ : Int) ≤ pcE n at_ (Y.getD ((↑i : Int).toNat * [IntKind.u16].length + (0 : Nat)) (0 : Int)) ∧ pcE n at_ (Y.getD ((↑i : Int).toNat * [IntKind.u16].length + (0 : Nat)) (0 : Int)) ≤ (↑n : Int) ∧ n ≤ cap) (.chk (sym.XR w (sym.cutA A cap (↑at_ : Int).toNat [IntKind.u8].length) [IntKind.u8] (sym.cutL X (↑at_ : Int).toNat (pcE n at_ (Y.getD ((↑i : Int).toNat * [IntKind.u16].length + (0 : Nat)) (0 : Int))).toNat [IntKind.u8].length) ((pcE n at_ (Y.getD ((↑i : Int).toNat * [IntKind.u16].length + (0 : Nat)) (0 : Int))).toNat - (↑at_ : Int).toNat) ∧ (pcE n at_ (Y.getD ((↑i : Int).toNat * [IntKind.u16].length + (0 : Nat)) (0 : Int))).toNat - (↑at_ : Int).toNat ≤ cap - (↑at_ : Int).toNat ∧ nl = nl ∧ lc = lc ∧ Lx.length = ln ∧ ln ≤ lc ∧ ln ≤ (1000000 : Nat) ∧ (pcE n at_ (Y.getD ((↑i : Int).toNat * [IntKind.u16].length + (0 : Nat)) (0 : Int))).toNat - (↑at_ : Int).toNat ≤ (1000000 : Nat) ∧ Bs (sym.cutL X (↑at_ : Int).toNat (pcE n at_ (Y.getD ((↑i : Int).toNat * [IntKind.u16].length + (0 : Nat)) (0 : Int))).toNat [IntKind.u8].length) ∧ Bs Lx ∧ (0 : Int) ≤ sk ∧ sk ≤ (1000000000 : Int)) (.all fun x : FeedR (Lx ++ sym.cutL X (↑at_ : Int).toNat (pcE n at_ (Y.getD ((↑i : Int).toNat * [IntKind.u16].length + (0 : Nat)) (0 : Int))).toNat [IntKind.u8].length) => (.chk (x.fn = x.fn ∧ x.fs.length = x.fs.length ∧ (x.fn = true → x.fs.length = (0 : Nat)) ∧ x.fs.length ≤ (4000000 : Nat)) (.all fun x_1 : FrsR (pj x.fs) => (.chk ((0 : Int) ≤ (↑(0 : Nat) : Int) ∧ (↑(0 : Nat) : Int) ≤ pcE n at_ (Y.getD ((↑i : Int).toNat * [IntKind.u16].length + (0 : Nat)) (0 : Int)) ∧ pcE n at_ (Y.getD ((↑i : Int).toNat * [IntKind.u16].length + (0 : Nat)) (0 : Int)) ≤ (↑n : Int) ∧ n ≤ cap) (.chk (sym.XR w (sym.cutA A cap (0 : Nat) [IntKind.u8].length) [IntKind.u8] (sym.cutL X (0 : Nat) (pcE n at_ (Y.getD ((↑i : Int).toNat * [IntKind.u16].length + (0 : Nat)) (0 : Int))).toNat [IntKind.u8].length) ((pcE n at_ (Y.getD ((↑i : Int).toNat * [IntKind.u16].length + (0 : Nat)) (0 : Int))).toNat - (0 : Nat)) ∧ (pcE n at_ (Y.getD ((↑i : Int).toNat * [IntKind.u16].length + (0 : Nat)) (0 : Int))).toNat - (0 : Nat) ≤ cap - (0 : Nat) ∧ (pcE n at_ (Y.getD ((↑i : Int).toNat * [IntKind.u16].length + (0 : Nat)) (0 : Int))).toNat - (0 : Nat) ≤ (2000000 : Nat) ∧ Bs (sym.cutL X (0 : Nat) (pcE n at_ (Y.getD ((↑i : Int).toNat * [IntKind.u16].length + (0 : Nat)) (0 : Int))).toNat [IntKind.u8].length)) (.all fun x_2 : FrsR (scanL (sym.cutL X (0 : Nat) (pcE n at_ (Y.getD ((↑i : Int).toNat * [IntKind.u16].length + (0 : Nat)) (0 : Int))).toNat [IntKind.u8].length)).fst => (.br (IntKind.i64.wrap ((↑told : Int) + (↑x_1.fs.length : Int)) != (↑x_2.fs.length : Int)) (.fail "ret") (.chk ((0 : Int) ≤ (↑told : Int) ∧ (↑told : Int) ≤ (↑x_2.fs.length : Int) ∧ (↑x_2.fs.length : Int) ≤ (↑x_2.fc : Int)) (.chk (x_1.fn = x_1.fn ∧ x_2.fn = x_2.fn ∧ (0 : Nat) + x_1.fs.length ≤ x_1.fs.length ∧ sym.cutO (0 : Nat) x_2.fc (↑told : Int).toNat + (x_2.fs.length - (↑told : Int).toNat) ≤ x_2.fs.length ∧ (x_1.fn = true → x_1.fs.length = (0 : Nat)) ∧ (x_2.fn = true → x_2.fs.length - (↑told : Int).toNat = (0 : Nat)) ∧ x_1.fs.length ≤ (4000000 : Nat) ∧ ∀ (f : sym.Fr), f ∈ x_1.fs → f.xs.length ≤ (1000000 : Nat)) (.br (!decide (pj (List.take x_1.fs.length (List.drop (0 : Nat) x_1.fs)) = pj (List.take (x_2.fs.length - (↑told : Int).toNat) (List.drop (sym.cutO (0 : Nat) x_2.fc (↑told : Int).toNat) x_2.fs)))) (.fail "ret") (.br (sk + (↑(scanL (Lx ++ sym.cutL X (↑at_ : Int).toNat (pcE n at_ (Y.getD ((↑i : Int).toNat * [IntKind.u16].length + (0 : Nat)) (0 : Int))).toNat [IntKind.u8].length)).snd.fst : Int) != (↑(scanL (sym.cutL X (0 : Nat) (pcE n at_ (Y.getD ((↑i : Int).toNat * [IntKind.u16].length + (0 : Nat)) (0 : Int))).toNat [IntKind.u8].length)).snd.fst : Int)) (.fail "ret") (.br ((↑(scanL (Lx ++ sym.cutL X (↑at_ : Int).toNat (pcE n at_ (Y.getD ((↑i : Int).toNat * [IntKind.u16].length + (0 : Nat)) (0 : Int))).toNat [IntKind.u8].length)).snd.snd.length : Int) != (↑(scanL (sym.cutL X (0 : Nat) (pcE n at_ (Y.getD ((↑i : Int).toNat * [IntKind.u16].length + (0 : Nat)) (0 : Int))).toNat [IntKind.u8].length)).snd.snd.length : Int)) (.fail "ret") (.chk (A = A ∧ [IntKind.u8] = [IntKind.u8] ∧ X = X ∧ n = n ∧ cap = cap) (.chk (A2 = A2 ∧ [IntKind.u16] = [IntKind.u16] ∧ Y = Y ∧ m = m ∧ cap2 = cap2) (.chk (false = false) (.chk (IntKind.i64 = IntKind.i64 ∧ pcE n at_ (Y.getD ((↑i : Int).toNat * [IntKind.u16].length + (0 : Nat)) (0 : Int)) = (↑(pcE n at_ (Y.getD ((↑i : Int).toNat * [IntKind.u16].length + (0 : Nat)) (0 : Int))).toNat : Int)) (.chk (IntKind.i64 = IntKind.i64 ∧ (↑x_2.fs.length : Int) = (↑(↑x_2.fs.length : Int).toNat : Int)) (.chk (A2 = A2 ∧ [IntKind.u16] = [IntKind.u16] ∧ Y = Y ∧ m = m ∧ cap2 = cap2) (.chk (IntKind.i64 = IntKind.i64 ∧ (↑m : Int) = (↑m : Int)) (.chk (IntKind.i64 = IntKind.i64 ∧ IntKind.i64.wrap ((↑i : Int) + (1 : Int)) = (↑(IntKind.i64.wrap ((↑i : Int) + (1 : Int))).toNat : Int)) (.chk (x.nl = x.nl ∧ (1 : Nat) = (1 : Nat) ∧ (0 : Nat) = (0 : Nat) ∧ (scanL (Lx ++ sym.cutL X (↑at_ : Int).toNat (pcE n at_ (Y.getD ((↑i : Int).toNat * [IntKind.u16].length + (0 : Nat)) (0 : Int))).toNat [IntKind.u8].length)).snd.snd.length = (scanL (Lx ++ sym.cutL X (↑at_ : Int).toNat (pcE n at_ (Y.getD ((↑i : Int).toNat * [IntKind.u16].length + (0 : Nat)) (0 : Int))).toNat [IntKind.u8].length)).snd.snd.length ∧ x.cap = x.cap) (.chk (IntKind.i64 = IntKind.i64 ∧ sk + (↑(scanL (Lx ++ sym.cutL X (↑at_ : Int).toNat (pcE n at_ (Y.getD ((↑i : Int).toNat * [IntKind.u16].length + (0 : Nat)) (0 : Int))).toNat [IntKind.u8].length)).snd.fst : Int) = sk + (↑(scanL (Lx ++ sym.cutL X (↑at_ : Int).toNat (pcE n at_ (Y.getD ((↑i : Int).toNat * [IntKind.u16].length + (0 : Nat)) (0 : Int))).toNat [IntKind.u8].length)).snd.fst : Int)) (.chk (x.nl = x.nl ∧ [IntKind.u8] = [IntKind.u8] ∧ (scanL (Lx ++ sym.cutL X (↑at_ : Int).toNat (pcE n at_ (Y.getD ((↑i : Int).toNat * [IntKind.u16].length + (0 : Nat)) (0 : Int))).toNat [IntKind.u8].length)).snd.snd = (scanL (Lx ++ sym.cutL X (↑at_ : Int).toNat (pcE n at_ (Y.getD ((↑i : Int).toNat * [IntKind.u16].length + (0 : Nat)) (0 : Int))).toNat [IntKind.u8].length)).snd.snd ∧ x.cap = x.cap) (.leaf (.inl ⟨(scanL (Lx ++ sym.cutL X (↑at_ : Int).toNat (pcE n at_ (Y.getD ((↑i : Int).toNat * [IntKind.u16].length + (0 : Nat)) (0 : Int))).toNat [IntKind.u8].length)).snd.snd, (scanL (Lx ++ sym.cutL X (↑at_ : Int).toNat (pcE n at_ (Y.getD ((↑i : Int).toNat * [IntKind.u16].length + (0 : Nat)) (0 : Int))).toNat [IntKind.u8].length)).snd.snd.length, x.nl, x.cap, sk + (↑(scanL (Lx ++ sym.cutL X (↑at_ : Int).toNat (pcE n at_ (Y.getD ((↑i : Int).toNat * [IntKind.u16].length + (0 : Nat)) (0 : Int))).toNat [IntKind.u8].length)).snd.fst : Int), (pcE n at_ (Y.getD ((↑i : Int).toNat * [IntKind.u16].length + (0 : Nat)) (0 : Int))).toNat, (↑x_2.fs.length : Int).toNat, (IntKind.i64.wrap ((↑i : Int) + (1 : Int))).toNat⟩))))))))))))))))))))))))))))) (.chk (A = A ∧ [IntKind.u8] = [IntKind.u8] ∧ X = X ∧ n = n ∧ cap = cap) (.chk (A2 = A2 ∧ [IntKind.u16] = [IntKind.u16] ∧ Y = Y ∧ m = m ∧ cap2 = cap2) (.chk (false = false) (.chk (IntKind.i64 = IntKind.i64 ∧ (↑at_ : Int) = (↑(↑at_ : Int).toNat : Int)) (.chk (IntKind.i64 = IntKind.i64 ∧ (↑told : Int) = (↑(↑told : Int).toNat : Int)) (.chk (A2 = A2 ∧ [IntKind.u16] = [IntKind.u16] ∧ Y = Y ∧ m = m ∧ cap2 = cap2) (.chk (IntKind.i64 = IntKind.i64 ∧ (↑m : Int) = (↑m : Int)) (.chk (IntKind.i64 = IntKind.i64 ∧ (↑i : Int) = (↑(↑i : Int).toNat : Int)) (.chk (nl = nl ∧ (1 : Nat) = (1 : Nat) ∧ (0 : Nat) = (0 : Nat) ∧ ln = ln ∧ lc = lc) (.chk (IntKind.i64 = IntKind.i64 ∧ sk = sk) (.chk (nl = nl ∧ [IntKind.u8] = [IntKind.u8] ∧ Lx = Lx ∧ lc = lc) (.leaf (.inr (.inl ⟨Lx, ln, nl, lc, sk, (↑at_ : Int).toNat, (↑told : Int).toNat, (↑i : Int).toNat⟩))))))))))))))) := by kernel_rfl
theorem each_tree (w : World) (A : Option Addr) (X : List Int) (n cap : Nat) (A2 : Option Addr) (Y : List Int) (m cap2 : Nat) :
    callV Try.prog w (flatT Try.prog) (ctrOf [awC]) (preOr (preOf w tab2) (fpreOf [concatC w, feedC w, framesC, rscanC w, sameFC, encC w, rencC w, fedC w])) (lpOf Try.prog [eaLp A X n cap A2 Y m cap2]) 20 8 [.v (.one (.xr A [.u8] X n cap)), .v (.one (.xr A2 [.u16] Y m cap2))] =
(.br (decide ((↑n : Int) > (3000 : Int))) (.leaf (.v (.one (.bool true true)))) (.br (decide ((↑m : Int) > (60 : Int))) (.leaf (.v (.one (.bool true true)))) (.chk (sym.textAt Go.Proofs.Try.prog (8 : Go.FuncId) (0 : Nat) = sym.textAt Go.Proofs.Try.prog (8 : Go.FuncId) (0 : Nat)) (.chk (A = A ∧ [IntKind.u8] = [IntKind.u8] ∧ X = X ∧ n = n ∧ cap = cap) (.chk (A2 = A2 ∧ [IntKind.u16] = [IntKind.u16] ∧ Y = Y ∧ m = m ∧ cap2 = cap2) (.chk (false = false) (.chk (IntKind.i64 = IntKind.i64 ∧ (0 : Int) = (↑(0 : Nat) : Int)) (.chk (IntKind.i64 = IntKind.i64 ∧ (0 : Int) = (↑(0 : Nat) : Int)) (.chk (A2 = A2 ∧ [IntKind.u16] = [IntKind.u16] ∧ Y = Y ∧ m = m ∧ cap2 = cap2) (.chk (IntKind.i64 = IntKind.i64 ∧ (↑m : Int) = (↑m : Int)) (.chk (IntKind.i64 = IntKind.i64 ∧ (0 : Int) = (↑(0 : Nat) : Int)) (.chk (true = true ∧ (0 : Nat) = (0 : Nat) ∧ (0 : Nat) = (0 : Nat)) (.chk (IntKind.i64 = IntKind.i64 ∧ (0 : Int) = (0 : Int)) (.chk (true = true ∧ ([] : List Int) = []) (.chk (eaInv A X n cap A2 Y m cap2 { } { Lx := [], ln := (0 : Nat), nl := true, lc := (0 : Nat), sk := (0 : Int), at_ := (0 : Nat), told := (0 : Nat), i := (0 : Nat) }) (.all fun x : sym.Got eaX (eaPost A X n cap A2 Y m cap2 { }) => (.leaf (.v (.one (.bool true true)))))))))))))))))))) := by kernel_rfl
theorem told_cut {l : List Fr} {F G : List (Int × List Int)} {told fc : Nat} (h : pj l = F ++ G) (ht : told = F.length) (hc : l.length ≤ fc) : pj ((l.drop (sym.cutO 0 fc told)).take (l.length - told)) = G ∧ sym.cutO 0 fc told + (l.length - told) ≤ l.length := by
  have hl : l.length = told + G.length := by
    have := congrArg List.length h
    rw [pj_length, List.length_append] at this
    omega
  rw [sym.cutO_eq]
  by_cases e : fc = told
  · rw [if_pos e]
    have h0 : l.length - told = 0 := by omega
    have hG : G = [] := List.eq_nil_of_length_eq_zero (by omega)
    rw [h0, hG]
    exact ⟨rfl, by omega⟩
  · rw [if_neg e, Nat.zero_add]
    refine ⟨?_, by omega⟩
    rw [show pj ((l.drop told).take (l.length - told)) = ((pj l).drop told).take (l.length - told) by unfold pj; rw [List.map_take, List.map_drop], h, ht, List.drop_left]
    exact List.take_of_length_le (by rw [← ht]; omega)
def eaMu (A : Option Addr) (X : List Int) (n cap : Nat) (A2 : Option Addr) (Y : List Int) (m cap2 : Nat) (p : eaP) (x : eaX) : Nat := m - x.i
set_option maxHeartbeats 1000000 in
theorem ea_step (w : World) (A : Option Addr) (X : List Int) (n cap : Nat) (A2 : Option Addr) (Y : List Int) (m cap2 : Nat) (p : eaP) (x : eaX) (hX : XR w A [.u8] X n) (hc : n ≤ cap) (hB : Bs X) (hY : XR w A2 [.u16] Y m) (hYW : ∀ j, W (Y.getD j 0)) (h : eaInv A X n cap A2 Y m cap2 p x) : Hid (roundT Try.prog w (flatT Try.prog) (ctrOf [awC]) (callT Try.prog w (flatT Try.prog) (ctrOf [awC]) (preOr (preOf w tab2) (fpreOf [concatC w, feedC w, framesC, rscanC w, sameFC, encC w, rencC w, fedC w])) (noLoop) 20) ((noLoop) 8) (roundOf (bodyAt Try.prog 8 0)) 0 1 eaRo eaRf eaRb (eaSt A X n cap A2 Y m cap2 p) (eaFin A X n cap A2 Y m cap2 p) (eaBck A X n cap A2 Y m cap2 p) eaNxX eaNxX eaNxZ x) (Kept (eaInv A X n cap A2 Y m cap2 p) (eaPost A X n cap A2 Y m cap2 p) (eaBack A X n cap A2 Y m cap2 p) (eaMu A X n cap A2 Y m cap2 p) x) := by
  obtain ⟨⟩ := p
  obtain ⟨Lx, ln, nl, lc, sk, at_, told, i⟩ := x
  constructor
  rw [eastep_tree]
  simp only [T.holds, Kept, eaMu, and_self, true_and, and_true]
  obtain ⟨big, big2, i1, a1, ll, ld, lnil, t0, e2, e3⟩ := h
  simp only at i1 a1 ll ld lnil t0 e2 e3
  subst ll
  have hXl : X.length = n := by simpa using hX.1
  have hYl : Y.length = m := by simpa using hY.1
  obtain ⟨s1, s2, s3, s4, s5⟩ := scan_in (X.take at_)
  rw [List.length_take] at s1 s2 s3
  have hLl : Lx.length ≤ at_ := by rw [e3]; omega
  have hBL : Bs Lx := by rw [e3]; exact scan_B (hB.take _)
  have t1 : ((i : Nat) : Int).toNat = i := Int.toNat_natCast i
  have t2 : ((at_ : Nat) : Int).toNat = at_ := Int.toNat_natCast at_
  refine ⟨fun hlt => ?_, fun hge => ?_⟩
  · have hlt : i < m := by have := of_decide_eq_true hlt; omega
    have hcw := hYW (i * [IntKind.u16].length + 0)
    have w1 : IntKind.i64.wrap ((i : Int) + 1) = ((i + 1 : Nat) : Int) := by rw [wi64 _ (by omega) (by omega)]; omega
    obtain ⟨qa, qb⟩ := pcN_in (n := n) (c := Y.getD (i * [IntKind.u16].length + 0) 0) a1
    have hpe := pcE_is (n := n) (at_ := at_) hcw a1 (by omega)
    rw [t1, t2, hpe]
    generalize pcN n at_ (Y.getD (i * [IntKind.u16].length + 0) 0) = q at *
    rw [Int.toNat_natCast q]
    have hcl : sym.cutL X at_ q [IntKind.u8].length = (X.drop at_).take (q - at_) := cut1 X at_ q
    have hc0 : sym.cutL X 0 q [IntKind.u8].length = X.take q := by rw [List.length_singleton, cut1]; rfl
    have hcut := xr_cut (l := at_) (h := q) hX hc (by omega) (by omega)
    have hcut0 := xr_cut (l := 0) (h := q) hX hc (Nat.zero_le _) (by omega)
    rw [hcl] at hcut
    rw [hc0] at hcut0
    rw [hcl, hc0]
    have hst := scan_take (X := X) qa
    rw [← e3] at hst
    have hBp : Bs ((X.drop at_).take (q - at_)) := (hB.drop _).take _
    have hpl : ((X.drop at_).take (q - at_)).length = q - at_ := by rw [List.length_take, List.length_drop]; omega
    generalize (X.drop at_).take (q - at_) = PC at *
    obtain ⟨p1, p2, p3, p4, p5⟩ := scan_in (Lx ++ PC)
    rw [List.length_append, hpl] at p1 p2 p3
    simp only [w1, Int.toNat_natCast, true_and, and_true]
    refine ⟨⟨hY, by omega, by omega, by decide⟩, ⟨hY.2, by decide, by simp; omega⟩, ⟨by omega, by omega, by omega, hc⟩, ⟨hcut, by omega, ld.1, by omega, by omega, hBp, hBL, by omega, by omega⟩, fun r => ⟨⟨fun h => (r.fnil h).1, ?_⟩, fun r1 => ⟨⟨by omega, by omega, by omega, hc⟩, ⟨hcut0, by omega, by omega, hB.take _⟩, fun r2 => ?_⟩⟩⟩
    · have := congrArg List.length r.eq
      rw [pj_length] at this
      omega
    have l0 := congrArg List.length r.eq
    have l1 := congrArg List.length r1.eq
    rw [pj_length] at l0 l1
    rw [pj_length] at l1
    have g2 := r2.eq.trans (congrArg Prod.fst hst)
    simp only at g2
    have l2 := congrArg List.length g2
    rw [pj_length, List.length_append] at l2
    obtain ⟨k1, k2⟩ := told_cut g2 t0 r2.fd.1
    have wt : IntKind.i64.wrap ((told : Int) + (r1.fs.length : Int)) = ((r2.fs.length : Nat) : Int) := by rw [wi64 _ (by omega) (by omega)]; omega
    have hd : pj (List.take r1.fs.length (List.drop 0 r1.fs)) = pj (List.take (r2.fs.length - told) (List.drop (sym.cutO 0 r2.fc told) r2.fs)) := by
      rw [k1, List.drop_zero, List.take_length, r1.eq, r.eq]
    have hsk : sk + (((scanL (Lx ++ PC)).2.1 : Nat) : Int) = (((scanL (X.take q)).2.1 : Nat) : Int) := by
      rw [hst, e2]
      simp only
      omega
    have hw : (scanL (Lx ++ PC)).2.2 = (scanL (X.take q)).2.2 := by rw [hst]
    have hsm : ∀ f ∈ r1.fs, f.xs.length ≤ 1000000 := fun f hf => by
      have h1 : (f.s, f.xs) ∈ pj r1.fs := List.mem_map_of_mem hf
      rw [r1.eq, r.eq] at h1
      have := p4 _ h1
      simp only at this
      omega
    simp only [wt, hsk, hw, hd, bne_self_eq_false, decide_true, Bool.not_true, Bool.false_eq_true, false_implies, true_implies, forall_const, true_and, and_true]
    have l3 := congrArg List.length r2.eq
    rw [pj_length] at l3
    have rld := r.ld
    have rnil := r.lnil
    rw [hw] at rld rnil
    exact ⟨⟨by omega, by omega, by have := r2.fd.1; omega⟩, ⟨by omega, k2, fun h => (r1.fnil h).1, fun h => by have := (r2.fnil h).1; omega, by omega, hsm⟩, ⟨big, big2, by show i + 1 ≤ m; omega, qb, rfl, rld, rnil, l3, rfl, rfl⟩, by omega⟩
  · simp only [Int.toNat_natCast, true_and, and_true]
    exact ⟨rfl, ld, lnil⟩
theorem eaLp_ok (w : World) (A : Option Addr) (X : List Int) (n cap : Nat) (A2 : Option Addr) (Y : List Int) (m cap2 : Nat) (hX : XR w A [.u8] X n) (hc : n ≤ cap) (hB : Bs X) (hY : XR w A2 [.u16] Y m) (hYW : ∀ j, W (Y.getD j 0)) : (eaLp A X n cap A2 Y m cap2).ok Try.prog w := by
  intro s t h
  unfold eaLp at h
  simp only at h
  split at h
  · rename_i p _
    split at h
    · rename_i x _
      cases h
      exact loop_ok base2 (awT_ok w) (callT_ok base2.mixed base2.names base2.eqs (awT_ok w).ok (awT_ok w).there (pre5_ok w) (loops_none _ _) 20) ((loops_none _ _) 8) (c := roundOf (bodyAt Try.prog 8 0)) (by kernel_rfl) (id := 0) (n := 1) (hr := false) (ro := eaRo) (rf := eaRf) (rr := eaRb) (st := eaSt A X n cap A2 Y m cap2 p) (fin := eaFin A X n cap A2 Y m cap2 p) (bck := eaBck A X n cap A2 Y m cap2 p) (inv := eaInv A X n cap A2 Y m cap2 p) (post := eaPost A X n cap A2 Y m cap2 p) (back := eaBack A X n cap A2 Y m cap2 p) (nx := eaNxX) (fx := eaNxX) (bx := eaNxZ) (eaMu A X n cap A2 Y m cap2 p) (nf := 2) (nf' := 2) (nf'' := 2) (fun x => by kernel_rfl) (fun y => by kernel_rfl) (fun z => nomatch z) (.inr fun z => nomatch z) (fun x hx => ea_step w A X n cap A2 Y m cap2 p x hX hc hB hY hYW hx) s x
    · cases h
  · cases h
theorem each_walk (w : World) (A : Option Addr) (X : List Int) (n cap : Nat) (A2 : Option Addr) (Y : List Int) (m cap2 : Nat) (hX : XR w A [.u8] X n) (hc : n ≤ cap) (hb : Bs X) (hY : XR w A2 [.u16] Y m) (hc2 : m ≤ cap2) (hW : ∀ j, W (Y.getD j 0)) : Calls Try.prog 8 #[.slice A n cap, .slice A2 m cap2] w fun e w' => e = .returned (.bool true) ∧ Below w.heap.size w w' := by
  refine val_eq base2 (awT_ok w) (pre5_ok w) (lps_ok (ls := [eaLp A X n cap A2 Y m cap2]) fun l hl => by (simp only [List.mem_cons, List.not_mem_nil, or_false] at hl; subst hl; exact eaLp_ok w A X n cap A2 Y m cap2 hX hc hb hY hW)) (each_tree w A X n cap A2 Y m cap2) rfl ?_
  refine ⟨fun _ => ⟨rfl, rfl⟩, fun h1 => ⟨fun _ => ⟨rfl, rfl⟩, fun h2 => ?_⟩⟩
  have h1' : n ≤ 3000 := by have := of_decide_eq_false h1; omega
  have h2' : m ≤ 60 := by have := of_decide_eq_false h2; omega
  simp only [T.holds, true_and, and_true, and_self]
  refine ⟨rfl, rfl, rfl, ⟨h1', h2', Nat.zero_le _, Nat.zero_le _, rfl, ⟨Nat.le_refl _, by show 0 ≤ maxLen; decide⟩, fun _ => ⟨rfl, rfl⟩, by rw [List.take_zero]; rfl, by rw [List.take_zero]; rfl, by rw [List.take_zero]; rfl⟩, fun _ => ⟨rfl, rfl⟩⟩
end Go.Proofs.Ytmenafkmkcodlaa
