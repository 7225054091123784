/-
  The contract of a scanner that is fed. Rows have at most 1000000 bytes.
-/
import Derived.Test.YtmenafkmkcodlaaR4
namespace Go.Proofs.Ytmenafkmkcodlaa
open Go.RowKit sym
set_option linter.unusedVariables false
set_option linter.unusedSimpArgs false
set_option maxRecDepth 100000
structure FeedR (Y : List Int) where
  fs : List Fr
  fn : Bool
  fc : Nat
  nl : Bool
  cap : Nat
  eq : pj fs = (scanL Y).1
  fd : fs.length ≤ fc ∧ fc ≤ maxLen
  fnil : fn = true → fs.length = 0 ∧ fc = 0
  lnil : nl = true → (scanL Y).2.2.length = 0 ∧ cap = 0
  ld : (scanL Y).2.2.length ≤ cap ∧ cap ≤ maxLen
def feedV (Y : List Int) (r : FeedR Y) (i : Nat) : AV := .v (.one (.gs i r.fn 2 0 r.fs.length r.fc))
def feedS (Y : List Int) (r : FeedR Y) (i : Nat) (sk : Int) : Blk := ⟨[.gs i r.nl 1 0 (scanL Y).2.2.length r.cap, .int false .i64 (sk + ((scanL Y).2.1 : Nat))], 46⟩
def feedC (w0 : World) : FCtr := ⟨18, fun args h => match args, h with
  | [.v (.one (.ptr 1 0)), .v (.one (.xr A [.u8] X n cap))], [⟨[.gs 2 nl 1 0 ln lc, .int ltb .i64 sk], 46⟩, ⟨[.row nl' [.u8] Lx lc'], 5⟩] => some (.chk (XR w0 A [.u8] X n ∧ n ≤ cap ∧ nl' = nl ∧ lc' = lc ∧ Lx.length = ln ∧ ln ≤ lc ∧ ln ≤ 1000000 ∧ n ≤ 1000000 ∧ Bs X ∧ Bs Lx ∧ 0 ≤ sk ∧ sk ≤ 1000000000) (.all fun r : FeedR (Lx ++ X) =>
      .leaf (feedV _ r 3, [feedS _ r 4 sk, ⟨[.dead], 5⟩, ⟨[.frs r.fn r.fs r.fc], 29⟩, ⟨[.row r.nl [.u8] (scanL (Lx ++ X)).2.2 r.cap], 5⟩])))
  | [.v (.one (.ptr 1 0)), .v (.one (.gs 2 bn 1 off n cap))], [⟨[.nos, .int ltb .i64 sk], 46⟩, ⟨[.row bn' [.u8] X bc], 5⟩] => some (.chk (bn' = bn ∧ off + n ≤ X.length ∧ n ≤ cap ∧ n ≤ 1000000 ∧ Bs X ∧ 0 ≤ sk ∧ sk ≤ 1000000000) (.all fun r : FeedR (cutL X off (off + n) 1) =>
      .leaf (feedV _ r 3, [feedS _ r 4 sk, ⟨[.row bn' [.u8] X bc], 5⟩, ⟨[.frs r.fn r.fs r.fc], 29⟩, ⟨[.row r.nl [.u8] (scanL (cutL X off (off + n) 1)).2.2 r.cap], 5⟩])))
  | [.v (.one (.ptr 1 0)), .v (.one (.gs 2 bn 1 off n cap))], [⟨[.gs 3 nl 1 0 ln lc, .int ltb .i64 sk], 46⟩, ⟨[.row bn' [.u8] X bc], 5⟩, ⟨[.row nl' [.u8] Lx lc'], 5⟩] => some (.chk (bn' = bn ∧ off + n ≤ X.length ∧ n ≤ cap ∧ nl' = nl ∧ lc' = lc ∧ Lx.length = ln ∧ ln ≤ lc ∧ ln ≤ 1000000 ∧ n ≤ 1000000 ∧ Bs X ∧ Bs Lx ∧ 0 ≤ sk ∧ sk ≤ 1000000000) (.all fun r : FeedR (Lx ++ cutL X off (off + n) 1) =>
      .leaf (feedV _ r 4, [feedS _ r 5 sk, ⟨[.row bn' [.u8] X bc], 5⟩, ⟨[.dead], 5⟩, ⟨[.frs r.fn r.fs r.fc], 29⟩, ⟨[.row r.nl [.u8] (scanL (Lx ++ cutL X off (off + n) 1)).2.2 r.cap], 5⟩])))
  | _, _ => none⟩
theorem feedxg_tree (w : World) (L : Nat → Option Obj) (O : Nat → Bool) (A : Option Addr) (X : List Int) (n cap : Nat) (nl : Bool) (Lx : List Int) (ln lc : Nat) (ltb : Bool) (sk : Int) :
    callT Try.prog w (flatT Try.prog) noCtr (preOr (preOf w tab2) (fpreOf [concatC w])) (lpOf Try.prog [fxLp L O nl ln lc]) 20 18 [.v (.one (.ptr 1 0)), .v (.one (.xr A [.u8] X n cap))] [⟨[.keep L O], 0⟩, ⟨[.gs 2 nl 1 0 ln lc, .int ltb .i64 sk], 46⟩, ⟨[.row nl [.u8] Lx lc], 5⟩] =
(.chk (sym.XR w A [IntKind.u8] X n ∧
  n ≤ cap ∧ nl = nl ∧ lc = lc ∧ Lx.length = ln ∧ ln ≤ lc ∧ ln ≤ (1000000 : Nat) ∧ n ≤ (1000000 : Nat))
(.all fun x : RowR (ln + n) =>
 (.chk (sym.textAt Go.Proofs.Try.prog (18 : Go.FuncId) (0 : Nat) = sym.textAt Go.Proofs.Try.prog (18 : Go.FuncId) (0 : Nat))
 (.chk (x.nl = x.nl ∧ (1 : Nat) = (1 : Nat) ∧ (0 : Nat) = (0 : Nat) ∧ ln + n = ln + n ∧ x.cap = x.cap)
 (.chk (true = true ∧ (0 : Nat) = (0 : Nat) ∧ (0 : Nat) = (0 : Nat))
 (.chk (IntKind.i64 = IntKind.i64 ∧ (0 : Int) = (↑(0 : Nat) : Int))
 (.chk (L = L ∧ O = O)
 (.chk (nl = nl ∧ (1 : Nat) = (1 : Nat) ∧ (0 : Nat) = (0 : Nat) ∧ ln = ln ∧ lc = lc)
 (.chk (IntKind.i64 = IntKind.i64 ∧ sk = sk)
 (.chk (x.nl = x.nl ∧ [IntKind.u8] = [IntKind.u8] ∧ Lx ++ X = Lx ++ X ∧ x.cap = x.cap)
 (.chk (true = true ∧ ([] : List Fr) = [])
 (.chk (fxInv L O nl ln lc { Y := Lx ++ X, m := ln + n, an := x.nl, ac := x.cap, sk0 := sk }
  { fs := [], fl := (0 : Nat), fn := true, fc := (0 : Nat), i := (0 : Nat), sk := sk })
 (.all fun x_1 : sym.Got fxX
  (fxPost L O nl ln lc { Y := Lx ++ X, m := ln + n, an := x.nl, ac := x.cap, sk0 := sk }) =>
  (.chk ((0 : Int) ≤ (↑x_1.1.5 : Int) ∧ (↑x_1.1.5 : Int) ≤ (↑(ln + n) : Int) ∧ (↑(ln + n) : Int) ≤ (↑x.cap : Int))
  (.chk ((x.nl = x.nl ∧
    (sym.cutO (0 : Nat) x.cap (↑x_1.1.5 : Int).toNat + (ln + n - (↑x_1.1.5 : Int).toNat)) *
          (1 : Nat) ≤
        (Lx ++ X).length ∧
      ln + n - (↑x_1.1.5 : Int).toNat ≤ x.cap - (↑x_1.1.5 : Int).toNat) ∧
  True)
  (.chk (ln + n - (↑x_1.1.5 : Int).toNat ≤ (1000000000 : Nat))
  (.all fun x_2 : RowR (ln + n - (↑x_1.1.5 : Int).toNat) =>
   (.leaf ((.v (.one (.gs 5 (x_1.1.3) 2 0 (x_1.1.2) (x_1.1.4)))), [⟨[(.keep (L) (O))], 0⟩, ⟨[(.gs 6 (x_2.nl) 1 0 (ln + n - (↑x_1.1.5 : Int).toNat) (x_2.cap)), (.int false .i64 (x_1.1.6))], 46⟩, ⟨[.dead], 5⟩, ⟨[.dead], 22⟩, ⟨[(.row (x.nl) ([IntKind.u8]) (Lx ++ X) (x.cap))], 5⟩, ⟨[(.frs (x_1.1.3) (x_1.1.1) (x_1.1.4))], 29⟩, ⟨[(.row (x_2.nl) ([IntKind.u8]) (sym.cutL (Lx ++ X)
  (sym.cutO (0 : Nat) x.cap (↑x_1.1.5 : Int).toNat)
  (sym.cutO (0 : Nat) x.cap (↑x_1.1.5 : Int).toNat + (ln + n - (↑x_1.1.5 : Int).toNat))
  (1 : Nat)) (x_2.cap))], 5⟩]))))))))))))))))))) := by kernel_rfl
theorem feedgn_tree (w : World) (L : Nat → Option Obj) (O : Nat → Bool) (bn : Bool) (X : List Int) (off n cap bc : Nat) (ltb : Bool) (sk : Int) :
    callT Try.prog w (flatT Try.prog) noCtr (preOr (preOf w tab2) (fpreOf [concatC w])) (lpOf Try.prog [fgLp L O bn X bc]) 20 18 [.v (.one (.ptr 1 0)), .v (.one (.gs 2 bn 1 off n cap))] [⟨[.keep L O], 0⟩, ⟨[.nos, .int ltb .i64 sk], 46⟩, ⟨[.row bn [.u8] X bc], 5⟩] =
(.chk (bn = bn ∧ off + n ≤ X.length ∧ n ≤ cap ∧ n ≤ (1000000 : Nat))
(.all fun x : RowR n =>
 (.chk (sym.textAt Go.Proofs.Try.prog (18 : Go.FuncId) (0 : Nat) = sym.textAt Go.Proofs.Try.prog (18 : Go.FuncId) (0 : Nat))
 (.chk (x.nl = x.nl ∧ (1 : Nat) = (1 : Nat) ∧ (0 : Nat) = (0 : Nat) ∧ n = n ∧ x.cap = x.cap)
 (.chk (true = true ∧ (0 : Nat) = (0 : Nat) ∧ (0 : Nat) = (0 : Nat))
 (.chk (IntKind.i64 = IntKind.i64 ∧ (0 : Int) = (↑(0 : Nat) : Int))
 (.chk (L = L ∧ O = O)
 (.chk (IntKind.i64 = IntKind.i64 ∧ sk = sk)
 (.chk (bn = bn ∧ [IntKind.u8] = [IntKind.u8] ∧ X = X ∧ bc = bc)
 (.chk (x.nl = x.nl ∧
  [IntKind.u8] = [IntKind.u8] ∧
    sym.cutL X off (off + n) (1 : Nat) =
        sym.cutL X off (off + n) (1 : Nat) ∧
      x.cap = x.cap)
 (.chk (true = true ∧ ([] : List Fr) = [])
 (.chk (fgInv L O bn X bc
  { Y := sym.cutL X off (off + n) (1 : Nat), m := n, an := x.nl, ac := x.cap, sk0 := sk }
  { fs := [], fl := (0 : Nat), fn := true, fc := (0 : Nat), i := (0 : Nat), sk := sk })
 (.all fun x_1 : sym.Got fgX
  (fgPost L O bn X bc
    { Y := sym.cutL X off (off + n) (1 : Nat), m := n, an := x.nl, ac := x.cap, sk0 := sk }) =>
  (.chk ((0 : Int) ≤ (↑x_1.1.5 : Int) ∧ (↑x_1.1.5 : Int) ≤ (↑n : Int) ∧ (↑n : Int) ≤ (↑x.cap : Int))
  (.chk ((x.nl = x.nl ∧
    (sym.cutO (0 : Nat) x.cap (↑x_1.1.5 : Int).toNat + (n - (↑x_1.1.5 : Int).toNat)) *
          (1 : Nat) ≤
        (sym.cutL X off (off + n) (1 : Nat)).length ∧
      n - (↑x_1.1.5 : Int).toNat ≤ x.cap - (↑x_1.1.5 : Int).toNat) ∧
  True)
  (.chk (n - (↑x_1.1.5 : Int).toNat ≤ (1000000000 : Nat))
  (.all fun x_2 : RowR (n - (↑x_1.1.5 : Int).toNat) =>
   (.leaf ((.v (.one (.gs 5 (x_1.1.3) 2 0 (x_1.1.2) (x_1.1.4)))), [⟨[(.keep (L) (O))], 0⟩, ⟨[(.gs 6 (x_2.nl) 1 0 (n - (↑x_1.1.5 : Int).toNat) (x_2.cap)), (.int false .i64 (x_1.1.6))], 46⟩, ⟨[(.row (bn) ([IntKind.u8]) (X) (bc))], 5⟩, ⟨[.dead], 22⟩, ⟨[(.row (x.nl) ([IntKind.u8]) (sym.cutL X off (off + n) (1 : Nat)) (x.cap))], 5⟩, ⟨[(.frs (x_1.1.3) (x_1.1.1) (x_1.1.4))], 29⟩, ⟨[(.row (x_2.nl) ([IntKind.u8]) (sym.cutL (sym.cutL X off (off + n) (1 : Nat))
  (sym.cutO (0 : Nat) x.cap (↑x_1.1.5 : Int).toNat)
  (sym.cutO (0 : Nat) x.cap (↑x_1.1.5 : Int).toNat + (n - (↑x_1.1.5 : Int).toNat)) (1 : Nat)) (x_2.cap))], 5⟩]))))))))))))))))))) := by kernel_rfl
theorem feedgg_tree (w : World) (L : Nat → Option Obj) (O : Nat → Bool) (bn : Bool) (X : List Int) (off n cap bc : Nat) (nl : Bool) (Lx : List Int) (ln lc : Nat) (ltb : Bool) (sk : Int) :
    callT Try.prog w (flatT Try.prog) noCtr (preOr (preOf w tab2) (fpreOf [concatC w])) (lpOf Try.prog [fhLp L O bn X bc nl ln lc]) 20 18 [.v (.one (.ptr 1 0)), .v (.one (.gs 2 bn 1 off n cap))] [⟨[.keep L O], 0⟩, ⟨[.gs 3 nl 1 0 ln lc, .int ltb .i64 sk], 46⟩, ⟨[.row bn [.u8] X bc], 5⟩, ⟨[.row nl [.u8] Lx lc], 5⟩] =
(.chk (bn = bn ∧
  off + n ≤ X.length ∧
    n ≤ cap ∧ nl = nl ∧ lc = lc ∧ Lx.length = ln ∧ ln ≤ lc ∧ ln ≤ (1000000 : Nat) ∧ n ≤ (1000000 : Nat))
(.all fun x : RowR (ln + n) =>
 (.chk (sym.textAt Go.Proofs.Try.prog (18 : Go.FuncId) (0 : Nat) = sym.textAt Go.Proofs.Try.prog (18 : Go.FuncId) (0 : Nat))
 (.chk (x.nl = x.nl ∧ (1 : Nat) = (1 : Nat) ∧ (0 : Nat) = (0 : Nat) ∧ ln + n = ln + n ∧ x.cap = x.cap)
 (.chk (true = true ∧ (0 : Nat) = (0 : Nat) ∧ (0 : Nat) = (0 : Nat))
 (.chk (IntKind.i64 = IntKind.i64 ∧ (0 : Int) = (↑(0 : Nat) : Int))
 (.chk (L = L ∧ O = O)
 (.chk (nl = nl ∧ (1 : Nat) = (1 : Nat) ∧ (0 : Nat) = (0 : Nat) ∧ ln = ln ∧ lc = lc)
 (.chk (IntKind.i64 = IntKind.i64 ∧ sk = sk)
 (.chk (bn = bn ∧ [IntKind.u8] = [IntKind.u8] ∧ X = X ∧ bc = bc)
 (.chk (x.nl = x.nl ∧
  [IntKind.u8] = [IntKind.u8] ∧
    Lx ++ sym.cutL X off (off + n) (1 : Nat) =
        Lx ++ sym.cutL X off (off + n) (1 : Nat) ∧
      x.cap = x.cap)
 (.chk (true = true ∧ ([] : List Fr) = [])
 (.chk (fhInv L O bn X bc nl ln lc
  { Y := Lx ++ sym.cutL X off (off + n) (1 : Nat), m := ln + n, an := x.nl, ac := x.cap,
    sk0 := sk }
  { fs := [], fl := (0 : Nat), fn := true, fc := (0 : Nat), i := (0 : Nat), sk := sk })
 (.all fun x_1 : sym.Got fhX
  (fhPost L O bn X bc nl ln lc
    { Y := Lx ++ sym.cutL X off (off + n) (1 : Nat), m := ln + n, an := x.nl, ac := x.cap,
      sk0 := sk }) =>
  (.chk ((0 : Int) ≤ (↑x_1.1.5 : Int) ∧ (↑x_1.1.5 : Int) ≤ (↑(ln + n) : Int) ∧ (↑(ln + n) : Int) ≤ (↑x.cap : Int))
  (.chk ((x.nl = x.nl ∧
    (sym.cutO (0 : Nat) x.cap (↑x_1.1.5 : Int).toNat + (ln + n - (↑x_1.1.5 : Int).toNat)) *
          (1 : Nat) ≤
        (Lx ++ sym.cutL X off (off + n) (1 : Nat)).length ∧
      ln + n - (↑x_1.1.5 : Int).toNat ≤ x.cap - (↑x_1.1.5 : Int).toNat) ∧
  True)
  (.chk (ln + n - (↑x_1.1.5 : Int).toNat ≤ (1000000000 : Nat))
  (.all fun x_2 : RowR (ln + n - (↑x_1.1.5 : Int).toNat) =>
   (.leaf ((.v (.one (.gs 6 (x_1.1.3) 2 0 (x_1.1.2) (x_1.1.4)))), [⟨[(.keep (L) (O))], 0⟩, ⟨[(.gs 7 (x_2.nl) 1 0 (ln + n - (↑x_1.1.5 : Int).toNat) (x_2.cap)), (.int false .i64 (x_1.1.6))], 46⟩, ⟨[(.row (bn) ([IntKind.u8]) (X) (bc))], 5⟩, ⟨[.dead], 5⟩, ⟨[.dead], 22⟩, ⟨[(.row (x.nl) ([IntKind.u8]) (Lx ++ sym.cutL X off (off + n) (1 : Nat)) (x.cap))], 5⟩, ⟨[(.frs (x_1.1.3) (x_1.1.1) (x_1.1.4))], 29⟩, ⟨[(.row (x_2.nl) ([IntKind.u8]) (sym.cutL (Lx ++ sym.cutL X off (off + n) (1 : Nat))
  (sym.cutO (0 : Nat) x.cap (↑x_1.1.5 : Int).toNat)
  (sym.cutO (0 : Nat) x.cap (↑x_1.1.5 : Int).toNat + (ln + n - (↑x_1.1.5 : Int).toNat))
  (1 : Nat)) (x_2.cap))], 5⟩])))))))))))))))))))) := by kernel_rfl
theorem cutEnd {Y : List Int} {i cap : Nat} (hi : i ≤ Y.length) (hc : Y.length ≤ cap) : sym.cutL Y (sym.cutO 0 cap i) (sym.cutO 0 cap i + (Y.length - i)) 1 = Y.drop i ∧ sym.cutO 0 cap i + (Y.length - i) ≤ Y.length := by
  rw [sym.cutO_eq]
  by_cases h : cap = i
  · rw [if_pos h]
    have hl : Y.length - i = 0 := by omega
    rw [hl]
    have hd : Y.drop i = [] := List.drop_of_length_le (by omega)
    rw [hd, cut1]
    exact ⟨by simp, by omega⟩
  · rw [if_neg h, Nat.zero_add, show i + (Y.length - i) = Y.length by omega]
    exact ⟨cut_all Y i, Nat.le_refl _⟩
/-- What is told of a scanner, of what its loop came to. -/
def feedR {Y : List Int} {fs : List Fr} {fl fc i : Nat} {fn : Bool} (fl1 : fl = fs.length) (fd : fl ≤ fc ∧ fc ≤ maxLen) (fnil : fn = true → fl = 0 ∧ fc = 0) (e1 : pj fs = (scanL Y).1) (e3 : Y.drop i = (scanL Y).2.2) (hi : i ≤ Y.length) {m : Nat} (hm : Y.length = m) (g : RowR (m - i)) : FeedR Y :=
  have hl : (scanL Y).2.2.length = m - i := by rw [← e3, List.length_drop, hm]
  ⟨fs, fn, fc, g.nl, g.cap, e1, fl1 ▸ fd, fl1 ▸ fnil, by rw [hl]; exact g.nil, by rw [hl]; exact ⟨g.le, g.max⟩⟩
set_option maxHeartbeats 1000000 in
theorem feedC_ok (w0 : World) : (feedC w0).Ok Try.prog w0 := by
  refine fctr_ok base2 (ctrs_none _ _) (pre3_ok w0) (n := 20) fun args h t h0 => ?_
  unfold feedC at h0
  simp only at h0
  split at h0
  · rename_i A X n cap nl ln lc ltb sk nl' Lx lc'
    cases h0
    intro L O K hK
    obtain ⟨⟨hX, hc, rfl, rfl, hl, hlc, h1, h2, b1, b2, s0, s1⟩, hK⟩ := hK
    refine ⟨lpOf Try.prog [fxLp L O nl' ln lc'], lps_ok fun l hl => ?_, ?_⟩
    · simp only [List.mem_cons, List.not_mem_nil, or_false] at hl
      subst hl
      exact fxLp_ok w0 L O nl' ln lc'
    show T.holds (callT Try.prog w0 (flatT Try.prog) noCtr (preOr (preOf w0 tab2) (fpreOf [concatC w0])) (lpOf Try.prog [fxLp L O nl' ln lc']) 20 18 [.v (.one (.ptr 1 0)), .v (.one (.xr A [.u8] X n cap))] [⟨[.keep L O], 0⟩, ⟨[.gs 2 nl' 1 0 ln lc', .int ltb .i64 sk], 46⟩, ⟨[.row nl' [.u8] Lx lc'], 5⟩]) _
    rw [feedxg_tree]
    have hXl : X.length = n := by simpa using hX.1
    have hBY : Bs (Lx ++ X) := b2.append b1
    have hYm : (Lx ++ X).length = ln + n := by rw [List.length_append, hl, hXl]
    refine ⟨⟨hX, hc, rfl, rfl, hl, hlc, h1, h2⟩, fun a => ?_⟩
    simp only [T.holds, true_and, and_true, and_self]
    have hle := a.le
    refine ⟨rfl, ⟨hBY, ⟨hYm, by show ln + n ≤ 2000000; omega, a.le, fun h => (a.nil h).1⟩, ⟨s0, s1⟩, Nat.zero_le _, rfl, ⟨Nat.le_refl _, by show 0 ≤ maxLen; decide⟩, fun _ => ⟨rfl, rfl⟩, Nat.le_refl _, ⟨Int.le_refl _, by show sk ≤ sk + 0; omega⟩, rfl, rfl, rfl⟩, fun y => ?_⟩
    have q1 := y.so.i1
    have q2 := y.so.fl1
    have q3 := y.so.fd
    have q4 := y.so.fnil
    have q5 := y.so.e1
    have q6 := y.so.e2
    have q7 := y.so.e3
    generalize y.it = z at *
    obtain ⟨fs, fl, fn, fc, i, sk2⟩ := z
    simp only at q1 q2 q3 q4 q5 q6 q7
    obtain ⟨c1, c2⟩ := cutEnd (Y := Lx ++ X) (i := i) (cap := a.cap) (by omega) (by omega)
    rw [hYm] at c1 c2
    simp only [Int.toNat_natCast, Nat.mul_one, c1]
    refine ⟨⟨by omega, by omega, by omega⟩, ⟨by omega, by omega⟩, by omega, fun g => ?_⟩
    have hll : (scanL (Lx ++ X)).2.2.length = ln + n - i := by rw [← q7, List.length_drop, hYm]
    refine ⟨_, _, hK (feedR q2 q3 q4 q5 q7 (by omega) hYm g), as_end [some 5, some 6] ?_ (by kernel_rfl) (fun h => by cases h)⟩
    repeat' (first | exact trivial | exact rfl | exact q2 | exact hll.symm | exact q7 | exact q6 | (refine And.intro ?_ ?_))
  · rename_i bn off n cap ltb sk bn' X bc
    cases h0
    intro L O K hK
    obtain ⟨⟨rfl, ho, hc, h2, b1, s0, s1⟩, hK⟩ := hK
    refine ⟨lpOf Try.prog [fgLp L O bn' X bc], lps_ok fun l hl => ?_, ?_⟩
    · simp only [List.mem_cons, List.not_mem_nil, or_false] at hl
      subst hl
      exact fgLp_ok w0 L O bn' X bc
    show T.holds (callT Try.prog w0 (flatT Try.prog) noCtr (preOr (preOf w0 tab2) (fpreOf [concatC w0])) (lpOf Try.prog [fgLp L O bn' X bc]) 20 18 [.v (.one (.ptr 1 0)), .v (.one (.gs 2 bn' 1 off n cap))] [⟨[.keep L O], 0⟩, ⟨[.nos, .int ltb .i64 sk], 46⟩, ⟨[.row bn' [.u8] X bc], 5⟩]) _
    rw [feedgn_tree]
    have hXl : (sym.cutL X off (off + n) 1).length = n := by rw [cutL_length (by omega)]; omega
    have hBY : Bs (sym.cutL X off (off + n) 1) := b1.cut _ _ _
    have hYm : (sym.cutL X off (off + n) 1).length = n := hXl
    refine ⟨⟨rfl, ho, hc, h2⟩, fun a => ?_⟩
    simp only [T.holds, true_and, and_true, and_self]
    have hle := a.le
    refine ⟨rfl, ⟨hBY, ⟨hYm, by show n ≤ 2000000; omega, a.le, fun h => (a.nil h).1⟩, ⟨s0, s1⟩, Nat.zero_le _, rfl, ⟨Nat.le_refl _, by show 0 ≤ maxLen; decide⟩, fun _ => ⟨rfl, rfl⟩, Nat.le_refl _, ⟨Int.le_refl _, by show sk ≤ sk + 0; omega⟩, rfl, rfl, rfl⟩, fun y => ?_⟩
    have q1 := y.so.i1
    have q2 := y.so.fl1
    have q3 := y.so.fd
    have q4 := y.so.fnil
    have q5 := y.so.e1
    have q6 := y.so.e2
    have q7 := y.so.e3
    generalize y.it = z at *
    obtain ⟨fs, fl, fn, fc, i, sk2⟩ := z
    simp only at q1 q2 q3 q4 q5 q6 q7
    obtain ⟨c1, c2⟩ := cutEnd (Y := sym.cutL X off (off + n) 1) (i := i) (cap := a.cap) (by omega) (by omega)
    rw [hYm] at c1 c2
    simp only [Int.toNat_natCast, Nat.mul_one, c1]
    refine ⟨⟨by omega, by omega, by omega⟩, ⟨by omega, by omega⟩, by omega, fun g => ?_⟩
    have hll : (scanL (sym.cutL X off (off + n) 1)).2.2.length = n - i := by rw [← q7, List.length_drop, hYm]
    refine ⟨_, _, hK (feedR q2 q3 q4 q5 q7 (by omega) hYm g), as_end [some 5, some 6] ?_ (by kernel_rfl) (fun h => by cases h)⟩
    repeat' (first | exact trivial | exact rfl | exact q2 | exact hll.symm | exact q7 | exact q6 | (refine And.intro ?_ ?_))
  · rename_i bn off n cap nl ln lc ltb sk bn' X bc nl' Lx lc'
    cases h0
    intro L O K hK
    obtain ⟨⟨rfl, ho, hc, rfl, rfl, hl, hlc, h1, h2, b1, b2, s0, s1⟩, hK⟩ := hK
    refine ⟨lpOf Try.prog [fhLp L O bn' X bc nl' ln lc'], lps_ok fun l hl => ?_, ?_⟩
    · simp only [List.mem_cons, List.not_mem_nil, or_false] at hl
      subst hl
      exact fhLp_ok w0 L O bn' X bc nl' ln lc'
    show T.holds (callT Try.prog w0 (flatT Try.prog) noCtr (preOr (preOf w0 tab2) (fpreOf [concatC w0])) (lpOf Try.prog [fhLp L O bn' X bc nl' ln lc']) 20 18 [.v (.one (.ptr 1 0)), .v (.one (.gs 2 bn' 1 off n cap))] [⟨[.keep L O], 0⟩, ⟨[.gs 3 nl' 1 0 ln lc', .int ltb .i64 sk], 46⟩, ⟨[.row bn' [.u8] X bc], 5⟩, ⟨[.row nl' [.u8] Lx lc'], 5⟩]) _
    rw [feedgg_tree]
    have hXl : (sym.cutL X off (off + n) 1).length = n := by rw [cutL_length (by omega)]; omega
    have hBY : Bs (Lx ++ sym.cutL X off (off + n) 1) := b2.append (b1.cut _ _ _)
    have hYm : (Lx ++ sym.cutL X off (off + n) 1).length = ln + n := by rw [List.length_append, hl, hXl]
    refine ⟨⟨rfl, ho, hc, rfl, rfl, hl, hlc, h1, h2⟩, fun a => ?_⟩
    simp only [T.holds, true_and, and_true, and_self]
    have hle := a.le
    refine ⟨rfl, ⟨hBY, ⟨hYm, by show ln + n ≤ 2000000; omega, a.le, fun h => (a.nil h).1⟩, ⟨s0, s1⟩, Nat.zero_le _, rfl, ⟨Nat.le_refl _, by show 0 ≤ maxLen; decide⟩, fun _ => ⟨rfl, rfl⟩, Nat.le_refl _, ⟨Int.le_refl _, by show sk ≤ sk + 0; omega⟩, rfl, rfl, rfl⟩, fun y => ?_⟩
    have q1 := y.so.i1
    have q2 := y.so.fl1
    have q3 := y.so.fd
    have q4 := y.so.fnil
    have q5 := y.so.e1
    have q6 := y.so.e2
    have q7 := y.so.e3
    generalize y.it = z at *
    obtain ⟨fs, fl, fn, fc, i, sk2⟩ := z
    simp only at q1 q2 q3 q4 q5 q6 q7
    obtain ⟨c1, c2⟩ := cutEnd (Y := Lx ++ sym.cutL X off (off + n) 1) (i := i) (cap := a.cap) (by omega) (by omega)
    rw [hYm] at c1 c2
    simp only [Int.toNat_natCast, Nat.mul_one, c1]
    refine ⟨⟨by omega, by omega, by omega⟩, ⟨by omega, by omega⟩, by omega, fun g => ?_⟩
    have hll : (scanL (Lx ++ sym.cutL X off (off + n) 1)).2.2.length = ln + n - i := by rw [← q7, List.length_drop, hYm]
    refine ⟨_, _, hK (feedR q2 q3 q4 q5 q7 (by omega) hYm g), as_end [some 6, some 7] ?_ (by kernel_rfl) (fun h => by cases h)⟩
    repeat' (first | exact trivial | exact rfl | exact q2 | exact hll.symm | exact q7 | exact q6 | (refine And.intro ?_ ?_))
  · cases h0
end Go.Proofs.Ytmenafkmkcodlaa
