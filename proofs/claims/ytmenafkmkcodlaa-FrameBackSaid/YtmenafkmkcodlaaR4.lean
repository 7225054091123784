/-
  The loop of a scanner that is fed: frames, how many bytes are passed over, what waits. Rows have at most 2000000 bytes.
-/
import Derived.Test.YtmenafkmkcodlaaR3
namespace Go.Proofs.Ytmenafkmkcodlaa
open Go.RowKit sym
set_option linter.unusedVariables false
set_option linter.unusedSimpArgs false
set_option maxRecDepth 100000
/-- Frames as they are told. -/
def pj (fs : List Fr) : List (Int × List Int) := fs.map fun f => (f.s, f.xs)
theorem pj_append (a b : List Fr) : pj (a ++ b) = pj a ++ pj b := List.map_append ..
theorem pj_length (a : List Fr) : (pj a).length = a.length := List.length_map ..
theorem pre3_ok (w : World) : PreOk Try.prog w (preOr (preOf w tab2) (fpreOf [concatC w])) := preOr_ok (preOf_ok (tab2_ok w)) (fpreOf_ok fun c hc => by
  simp only [List.mem_cons, List.not_mem_nil, or_false] at hc
  subst hc
  exact concatC_ok w)
theorem wh_br {b : List Int} (h : b.length < 3 ∨ 64 < whN b ∨ b.length < whN b + 5) : whL b = 0 ∨ whL b = 2 := by
  unfold whL
  repeat' split
  all_goals first | (simp; done) | skip
  all_goals omega
theorem wh_ok {b : List Int} (h : ¬ (b.length < 3 ∨ 64 < whN b ∨ b.length < whN b + 5)) : whL b = if okF b = true then 1 else 0 := by
  unfold whL
  rw [if_neg (by omega), if_neg (by omega), if_neg (by omega)]
structure fxP where
  Y : List Int
  m : Nat
  an : Bool
  ac : Nat
  sk0 : Int
structure fxX where
  fs : List Fr
  fl : Nat
  fn : Bool
  fc : Nat
  i : Nat
  sk : Int
def fxSt (L : Nat → Option Obj) (O : Nat → Bool) (nl : Bool) (ln lc : Nat) : fxP → fxX → ASt := fun ⟨Y, m, an, ac, sk0⟩ ⟨fs, fl, fn, fc, i, sk⟩ => ⟨slots (List.replicate 70 .any) [(0, .v (.one (.ptr 1 0))), (4, .v (.one .nos)), (5, .v (.one (.gs 4 an 1 0 m ac))), (6, .v (.one (.gs 5 fn 2 0 fl fc))), (7, .v (.one (.int false .i64 (i : Int))))], [⟨[.keep L O], 0⟩, ⟨[.gs 2 nl 1 0 ln lc, .int false .i64 sk], 46⟩, ⟨[.dead], 5⟩, ⟨[.dead], 22⟩, ⟨[.row an [.u8] Y ac], 5⟩, ⟨[.frs fn fs fc], 29⟩]⟩
def fxFin (L : Nat → Option Obj) (O : Nat → Bool) (nl : Bool) (ln lc : Nat) : fxP → fxX → ASt := fun ⟨Y, m, an, ac, sk0⟩ ⟨fs, fl, fn, fc, i, sk⟩ => ⟨slots (List.replicate 70 .any) [(0, .v (.one (.ptr 1 0))), (4, .v (.one .nos)), (5, .v (.one (.gs 4 an 1 0 m ac))), (6, .v (.one (.gs 5 fn 2 0 fl fc))), (7, .v (.one (.int false .i64 (i : Int))))], [⟨[.keep L O], 0⟩, ⟨[.gs 2 nl 1 0 ln lc, .int false .i64 sk], 46⟩, ⟨[.dead], 5⟩, ⟨[.dead], 22⟩, ⟨[.row an [.u8] Y ac], 5⟩, ⟨[.frs fn fs fc], 29⟩]⟩
def fxBck (L : Nat → Option Obj) (O : Nat → Bool) (nl : Bool) (ln lc : Nat) : fxP → Empty → ASt := fun _ z => nomatch z
def fxNxP : ASt → Option fxP := fun s => match gX s 5 with | none => none | some Y => match gL s 5 with | none => none | some m => match gN s 5 with | none => none | some an => match gC s 5 with | none => none | some ac => match hI s 1 1 with | none => none | some sk0 => some ⟨Y, m, an, ac, sk0⟩
def fxNxX : ASt → Option fxX := fun s => match gF s 6 with | none => none | some fs => match gL s 6 with | none => none | some fl => match gN s 6 with | none => none | some fn => match gC s 6 with | none => none | some fc => match (gI s 7).map Int.toNat with | none => none | some i => match hI s 1 1 with | none => none | some sk => some ⟨fs, fl, fn, fc, i, sk⟩
def fxNxZ : ASt → Option Empty := fun _ => none
def fxRo : ASt → List (Option Nat) := (fun s => [sym.rowAt s 6])
def fxRf : ASt → List (Option Nat) := (fun s => [sym.rowAt s 6])
def fxRb : ASt → List (Option Nat) := (fun s => [sym.rowAt s 6])
structure fxInv (L : Nat → Option Obj) (O : Nat → Bool) (nl : Bool) (ln lc : Nat) (p : fxP) (x : fxX) : Prop where
  hB : Bs p.Y
  hm : p.Y.length = p.m ∧ p.m ≤ 2000000 ∧ p.m ≤ p.ac ∧ (p.an = true → p.m = 0)
  hs : 0 ≤ p.sk0 ∧ p.sk0 ≤ 1000000000
  i1 : x.i ≤ p.m
  fl1 : x.fl = x.fs.length
  fd : x.fl ≤ x.fc ∧ x.fc ≤ maxLen
  fnil : x.fn = true → x.fl = 0 ∧ x.fc = 0
  fi : x.fl ≤ x.i
  ks : p.sk0 ≤ x.sk ∧ x.sk ≤ p.sk0 + x.i
  e1 : pj x.fs ++ (scanL (p.Y.drop x.i)).1 = (scanL p.Y).1
  e2 : x.sk + ((scanL (p.Y.drop x.i)).2.1 : Nat) = p.sk0 + ((scanL p.Y).2.1 : Nat)
  e3 : (scanL (p.Y.drop x.i)).2.2 = (scanL p.Y).2.2
structure fxPost (L : Nat → Option Obj) (O : Nat → Bool) (nl : Bool) (ln lc : Nat) (p : fxP) (x : fxX) : Prop where
  i1 : x.i ≤ p.m
  fl1 : x.fl = x.fs.length
  fd : x.fl ≤ x.fc ∧ x.fc ≤ maxLen
  fnil : x.fn = true → x.fl = 0 ∧ x.fc = 0
  e1 : pj x.fs = (scanL p.Y).1
  e2 : x.sk = p.sk0 + ((scanL p.Y).2.1 : Nat)
  e3 : p.Y.drop x.i = (scanL p.Y).2.2
def fxBack (L : Nat → Option Obj) (O : Nat → Bool) (nl : Bool) (ln lc : Nat) (p : fxP) (x : Empty) : Prop := False
def fxLp (L : Nat → Option Obj) (O : Nat → Bool) (nl : Bool) (ln lc : Nat) : Lp := ⟨18, 0, fun s => match fxNxP s with
  | some p => match fxNxX s with
    | some x => some (loopT 0 5 false fxRo (fxSt L O nl ln lc p) (fxFin L O nl ln lc p) (fxBck L O nl ln lc p) (fxInv L O nl ln lc p) (fxPost L O nl ln lc p) (fxBack L O nl ln lc p) s x)
    | none => none
  | none => none⟩
theorem fxstep_tree (w : World) (L : Nat → Option Obj) (O : Nat → Bool) (nl : Bool) (ln lc : Nat) (Y : List Int) (m : Nat) (an : Bool) (ac : Nat) (sk0 : Int) (fs : List Fr) (fl : Nat) (fn : Bool) (fc : Nat) (i : Nat) (sk : Int) :
    roundT Try.prog w (flatT Try.prog) (noCtr) (callT Try.prog w (flatT Try.prog) (noCtr) (preOr (preOf w tab2) (fpreOf [concatC w])) (noLoop) 20) ((noLoop) 18) (roundOf (bodyAt Try.prog 18 0)) 0 5 fxRo fxRf fxRb (fxSt L O nl ln lc ⟨Y, m, an, ac, sk0⟩) (fxFin L O nl ln lc ⟨Y, m, an, ac, sk0⟩) (fxBck L O nl ln lc ⟨Y, m, an, ac, sk0⟩) fxNxX fxNxX fxNxZ ⟨fs, fl, fn, fc, i, sk⟩ =
(.br (decide ((↑i : Int) < (↑m : Int)))
 (.chk (an = false ∧ (0 : Int) ≤ (↑i : Int) ∧ (↑i : Int) < (↑m : Int))
 (.chk (an = false ∧ ((0 : Nat) + (↑i : Int).toNat) * (1 : Nat) + (1 : Nat) ≤ Y.length)
 (.br (Y.getD (((0 : Nat) + (↑i : Int).toNat) * (1 : Nat) + (0 : Nat)) (0 : Int) == (165 : Int))
  (.chk ((0 : Int) ≤ (↑i : Int) ∧ (↑i : Int) ≤ (↑m : Int) ∧ (↑m : Int) ≤ (↑ac : Int))
  (.chk ((an = an ∧
    (sym.cutO (0 : Nat) ac (↑i : Int).toNat + (m - (↑i : Int).toNat)) * (1 : Nat) ≤
        Y.length ∧
      m - (↑i : Int).toNat ≤ ac - (↑i : Int).toNat) ∧
  True)
  (.chk (m - (↑i : Int).toNat ≤ (1000000000 : Nat) ∧
  Bs
    (sym.cutL Y (sym.cutO (0 : Nat) ac (↑i : Int).toNat)
      (sym.cutO (0 : Nat) ac (↑i : Int).toNat + (m - (↑i : Int).toNat)) (1 : Nat)))
  (.br (decide
  (m - (↑i : Int).toNat < (3 : Nat) ∨
    (64 : Nat) <
        whN
          (sym.cutL Y (sym.cutO (0 : Nat) ac (↑i : Int).toNat)
            (sym.cutO (0 : Nat) ac (↑i : Int).toNat + (m - (↑i : Int).toNat)) (1 : Nat)) ∨
      m - (↑i : Int).toNat <
        whN
            (sym.cutL Y (sym.cutO (0 : Nat) ac (↑i : Int).toNat)
              (sym.cutO (0 : Nat) ac (↑i : Int).toNat + (m - (↑i : Int).toNat)) (1 : Nat)) +
          (5 : Nat)))
   (.br (!decide
    (whL
        (sym.cutL Y (sym.cutO (0 : Nat) ac (↑i : Int).toNat)
          (sym.cutO (0 : Nat) ac (↑i : Int).toNat + (m - (↑i : Int).toNat)) (1 : Nat)) ≠
      (2 : Nat)))
    (.chk (an = an ∧ (1 : Nat) = (1 : Nat) ∧ (0 : Nat) = (0 : Nat) ∧ m = m ∧ ac = ac)
    (.chk (fn = fn ∧ (2 : Nat) = (2 : Nat) ∧ (0 : Nat) = (0 : Nat) ∧ fl = fl ∧ fc = fc)
    (.chk (IntKind.i64 = IntKind.i64 ∧ (↑i : Int) = (↑(↑i : Int).toNat : Int))
    (.chk (L = L ∧ O = O)
    (.chk (nl = nl ∧ (1 : Nat) = (1 : Nat) ∧ (0 : Nat) = (0 : Nat) ∧ ln = ln ∧ lc = lc)
    (.chk (IntKind.i64 = IntKind.i64 ∧ sk = sk)
    (.chk (an = an ∧ [IntKind.u8] = [IntKind.u8] ∧ Y = Y ∧ ac = ac)
    (.chk (fn = fn ∧ fs = fs ∧ fc = fc)
    (.leaf (.inr (.inl ⟨fs, fl, fn, fc, (↑i : Int).toNat, sk⟩)))))))))))
    (.chk (an = an ∧ (1 : Nat) = (1 : Nat) ∧ (0 : Nat) = (0 : Nat) ∧ m = m ∧ ac = ac)
    (.chk (fn = fn ∧ (2 : Nat) = (2 : Nat) ∧ (0 : Nat) = (0 : Nat) ∧ fl = fl ∧ fc = fc)
    (.chk (IntKind.i64 = IntKind.i64 ∧
  IntKind.i64.wrap ((↑i : Int) + (1 : Int)) = (↑(IntKind.i64.wrap ((↑i : Int) + (1 : Int))).toNat : Int))
    (.chk (L = L ∧ O = O)
    (.chk (nl = nl ∧ (1 : Nat) = (1 : Nat) ∧ (0 : Nat) = (0 : Nat) ∧ ln = ln ∧ lc = lc)
    (.chk (IntKind.i64 = IntKind.i64 ∧ IntKind.i64.wrap (sk + (1 : Int)) = IntKind.i64.wrap (sk + (1 : Int)))
    (.chk (an = an ∧ [IntKind.u8] = [IntKind.u8] ∧ Y = Y ∧ ac = ac)
    (.chk (fn = fn ∧ fs = fs ∧ fc = fc)
    (.leaf (.inl ⟨fs, fl, fn, fc, (IntKind.i64.wrap ((↑i : Int) + (1 : Int))).toNat, IntKind.i64.wrap (sk + (1 : Int))⟩)))))))))))
   (.all fun x : RowR
  (whN
    (sym.cutL Y (sym.cutO (0 : Nat) ac (↑i : Int).toNat)
      (sym.cutO (0 : Nat) ac (↑i : Int).toNat + (m - (↑i : Int).toNat)) (1 : Nat))) =>
    (.br (okF
  (sym.cutL Y (sym.cutO (0 : Nat) ac (↑i : Int).toNat)
    (sym.cutO (0 : Nat) ac (↑i : Int).toNat + (m - (↑i : Int).toNat)) (1 : Nat)))
     (.chk (x.nl = x.nl ∧
  (0 : Nat) +
      whN
        (sym.cutL Y (sym.cutO (0 : Nat) ac (↑i : Int).toNat)
          (sym.cutO (0 : Nat) ac (↑i : Int).toNat + (m - (↑i : Int).toNat)) (1 : Nat)) ≤
    (List.take
        (whN
          (sym.cutL Y (sym.cutO (0 : Nat) ac (↑i : Int).toNat)
            (sym.cutO (0 : Nat) ac (↑i : Int).toNat + (m - (↑i : Int).toNat)) (1 : Nat)))
        (List.drop (3 : Nat)
          (sym.cutL Y (sym.cutO (0 : Nat) ac (↑i : Int).toNat)
            (sym.cutO (0 : Nat) ac (↑i : Int).toNat + (m - (↑i : Int).toNat))
            (1 : Nat)))).length)
     (.all fun x_1 : sym.FrOf
  ((sym.cutL Y (sym.cutO (0 : Nat) ac (↑i : Int).toNat)
        (sym.cutO (0 : Nat) ac (↑i : Int).toNat + (m - (↑i : Int).toNat)) (1 : Nat)).getD
    (1 : Nat) (0 : Int))
  (sym.cutL
    (List.take
      (whN
        (sym.cutL Y (sym.cutO (0 : Nat) ac (↑i : Int).toNat)
          (sym.cutO (0 : Nat) ac (↑i : Int).toNat + (m - (↑i : Int).toNat)) (1 : Nat)))
      (List.drop (3 : Nat)
        (sym.cutL Y (sym.cutO (0 : Nat) ac (↑i : Int).toNat)
          (sym.cutO (0 : Nat) ac (↑i : Int).toNat + (m - (↑i : Int).toNat)) (1 : Nat))))
    (0 : Nat)
    ((0 : Nat) +
      whN
        (sym.cutL Y (sym.cutO (0 : Nat) ac (↑i : Int).toNat)
          (sym.cutO (0 : Nat) ac (↑i : Int).toNat + (m - (↑i : Int).toNat)) (1 : Nat)))
    (1 : Nat)) =>
      (.chk ((fn = fn ∧
    (0 : Nat) = (0 : Nat) ∧ fc = fc ∧ fl ≤ fs.length ∧ fl ≤ fc ∧ fc ≤ Go.maxLen ∧ (fn = true → fc = (0 : Nat))) ∧
  (fl + [x_1.val].length) * (32 : Nat) ≤ (140737488355328 : Nat))
      (.all fun x_2 : sym.Grown fn [x_1.val].length (fl + [x_1.val].length) =>
       (.chk (an = an ∧ (1 : Nat) = (1 : Nat) ∧ (0 : Nat) = (0 : Nat) ∧ m = m ∧ ac = ac)
       (.chk (x_2.nl' = x_2.nl' ∧
  (2 : Nat) = (2 : Nat) ∧ (0 : Nat) = (0 : Nat) ∧ fl + [x_1.val].length = fl + [x_1.val].length ∧ x_2.cap = x_2.cap)
       (.chk (IntKind.i64 = IntKind.i64 ∧
  IntKind.i64.wrap
      ((↑i : Int) +
        IntKind.i64.wrap
          (IntKind.i64.wrap
              ((3 : Int) +
                (↑(whN
                      (sym.cutL Y
                        (sym.cutO (0 : Nat) ac (↑i : Int).toNat)
                        (sym.cutO (0 : Nat) ac (↑i : Int).toNat + (m - (↑i : Int).toNat))
                        (1 : Nat))) :
                  Int)) +
            (2 : Int))) =
    (↑(IntKind.i64.wrap
            ((↑i : Int) +
              IntKind.i64.wrap
                (IntKind.i64.wrap
                    ((3 : Int) +
                      (↑(whN
                            (sym.cutL Y
                              (sym.cutO (0 : Nat) ac (↑i : Int).toNat)
                              (sym.cutO (0 : Nat) ac (↑i : Int).toNat +
                                (m - (↑i : Int).toNat))
                              (1 : Nat))) :
                        Int)) +
                  (2 : Int)))).toNat :
      Int))
       (.chk (L = L ∧ O = O)
       (.chk (nl = nl ∧ (1 : Nat) = (1 : Nat) ∧ (0 : Nat) = (0 : Nat) ∧ ln = ln ∧ lc = lc)
       (.chk (IntKind.i64 = IntKind.i64 ∧ sk = sk)
       (.chk (an = an ∧ [IntKind.u8] = [IntKind.u8] ∧ Y = Y ∧ ac = ac)
       (.chk (x_2.nl' = x_2.nl' ∧ List.take fl fs ++ [x_1.val] = List.take fl fs ++ [x_1.val] ∧ x_2.cap = x_2.cap)
       (.leaf (.inl ⟨List.take fl fs ++ [x_1.val], fl + [x_1.val].length, x_2.nl', x_2.cap, (IntKind.i64.wrap
    ((↑i : Int) +
      IntKind.i64.wrap
        (IntKind.i64.wrap
            ((3 : Int) +
              (↑(whN
                    (sym.cutL Y
                      (sym.cutO (0 : Nat) ac (↑i : Int).toNat)
                      (sym.cutO (0 : Nat) ac (↑i : Int).toNat + (m - (↑i : Int).toNat))
                      (1 : Nat))) :
                Int)) +
          (2 : Int)))).toNat, sk⟩))))))))))))))
     (.chk (an = an ∧ (1 : Nat) = (1 : Nat) ∧ (0 : Nat) = (0 : Nat) ∧ m = m ∧ ac = ac)
     (.chk (fn = fn ∧ (2 : Nat) = (2 : Nat) ∧ (0 : Nat) = (0 : Nat) ∧ fl = fl ∧ fc = fc)
     (.chk (IntKind.i64 = IntKind.i64 ∧
  IntKind.i64.wrap ((↑i : Int) + (1 : Int)) = (↑(IntKind.i64.wrap ((↑i : Int) + (1 : Int))).toNat : Int))
     (.chk (L = L ∧ O = O)
     (.chk (nl = nl ∧ (1 : Nat) = (1 : Nat) ∧ (0 : Nat) = (0 : Nat) ∧ ln = ln ∧ lc = lc)
     (.chk (IntKind.i64 = IntKind.i64 ∧ IntKind.i64.wrap (sk + (1 : Int)) = IntKind.i64.wrap (sk + (1 : Int)))
     (.chk (an = an ∧ [IntKind.u8] = [IntKind.u8] ∧ Y = Y ∧ ac = ac)
     (.chk (fn = fn ∧ fs = fs ∧ fc = fc)
     (.leaf (.inl ⟨fs, fl, fn, fc, (IntKind.i64.wrap ((↑i : Int) + (1 : Int))).toNat, IntKind.i64.wrap (sk + (1 : Int))⟩))))))))))))))))
  (.chk (an = an ∧ (1 : Nat) = (1 : Nat) ∧ (0 : Nat) = (0 : Nat) ∧ m = m ∧ ac = ac)
  (.chk (fn = fn ∧ (2 : Nat) = (2 : Nat) ∧ (0 : Nat) = (0 : Nat) ∧ fl = fl ∧ fc = fc)
  (.chk (IntKind.i64 = IntKind.i64 ∧
  IntKind.i64.wrap ((↑i : Int) + (1 : Int)) = (↑(IntKind.i64.wrap ((↑i : Int) + (1 : Int))).toNat : Int))
  (.chk (L = L ∧ O = O)
  (.chk (nl = nl ∧ (1 : Nat) = (1 : Nat) ∧ (0 : Nat) = (0 : Nat) ∧ ln = ln ∧ lc = lc)
  (.chk (IntKind.i64 = IntKind.i64 ∧ IntKind.i64.wrap (sk + (1 : Int)) = IntKind.i64.wrap (sk + (1 : Int)))
  (.chk (an = an ∧ [IntKind.u8] = [IntKind.u8] ∧ Y = Y ∧ ac = ac)
  (.chk (fn = fn ∧ fs = fs ∧ fc = fc)
  (.leaf (.inl ⟨fs, fl, fn, fc, (IntKind.i64.wrap ((↑i : Int) + (1 : Int))).toNat, IntKind.i64.wrap (sk + (1 : Int))⟩)))))))))))))
 (.chk (an = an ∧ (1 : Nat) = (1 : Nat) ∧ (0 : Nat) = (0 : Nat) ∧ m = m ∧ ac = ac)
 (.chk (fn = fn ∧ (2 : Nat) = (2 : Nat) ∧ (0 : Nat) = (0 : Nat) ∧ fl = fl ∧ fc = fc)
 (.chk (IntKind.i64 = IntKind.i64 ∧ (↑i : Int) = (↑(↑i : Int).toNat : Int))
 (.chk (L = L ∧ O = O)
 (.chk (nl = nl ∧ (1 : Nat) = (1 : Nat) ∧ (0 : Nat) = (0 : Nat) ∧ ln = ln ∧ lc = lc)
 (.chk (IntKind.i64 = IntKind.i64 ∧ sk = sk)
 (.chk (an = an ∧ [IntKind.u8] = [IntKind.u8] ∧ Y = Y ∧ ac = ac)
 (.chk (fn = fn ∧ fs = fs ∧ fc = fc)
 (.leaf (.inr (.inl ⟨fs, fl, fn, fc, (↑i : Int).toNat, sk⟩)))))))))))) := by kernel_rfl
def fxMu (L : Nat → Option Obj) (O : Nat → Bool) (nl : Bool) (ln lc : Nat) (p : fxP) (x : fxX) : Nat := p.m - x.i
set_option maxHeartbeats 1000000 in
theorem fx_step (w : World) (L : Nat → Option Obj) (O : Nat → Bool) (nl : Bool) (ln lc : Nat) (p : fxP) (x : fxX)  (h : fxInv L O nl ln lc p x) : Hid (roundT Try.prog w (flatT Try.prog) (noCtr) (callT Try.prog w (flatT Try.prog) (noCtr) (preOr (preOf w tab2) (fpreOf [concatC w])) (noLoop) 20) ((noLoop) 18) (roundOf (bodyAt Try.prog 18 0)) 0 5 fxRo fxRf fxRb (fxSt L O nl ln lc p) (fxFin L O nl ln lc p) (fxBck L O nl ln lc p) fxNxX fxNxX fxNxZ x) (Kept (fxInv L O nl ln lc p) (fxPost L O nl ln lc p) (fxBack L O nl ln lc p) (fxMu L O nl ln lc p) x) := by
  obtain ⟨Y, m, an, ac, sk0⟩ := p
  obtain ⟨fs, fl, fn, fc, i, sk⟩ := x
  constructor
  rw [fxstep_tree]
  simp only [T.holds, Kept, fxMu, and_self, true_and, and_true]
  obtain ⟨hB, ⟨hm, hm2, hac, han⟩, hs, i1, fl1, fd, fnil, fi, ks, e1, e2, e3⟩ := h
  simp only at hB hm hm2 hac han hs i1 fl1 fd fnil fi ks e1 e2 e3
  have hpl := pj_length fs
  subst fl1
  have htk : fs.take fs.length = fs := List.take_of_length_le (Nat.le_refl _)
  have w1 : IntKind.i64.wrap ((i : Int) + 1) = ((i + 1 : Nat) : Int) := by rw [wi64 _ (by omega) (by omega)]; omega
  refine ⟨fun hlt => ?_, fun hge => ?_⟩
  · have hlt : i < m := by have := of_decide_eq_true hlt; omega
    have hanf : an = false := by
      cases an with
      | false => rfl
      | true => have := han rfl; omega
    have ws : IntKind.i64.wrap (sk + 1) = sk + 1 := wi64 _ (by omega) (by omega)
    have hco : sym.cutO 0 ac i = i := by
      rw [sym.cutO_eq, if_neg (by omega), Nat.zero_add]
    have hcut : sym.cutL Y i (i + (m - i)) 1 = Y.drop i := by
      rw [show i + (m - i) = Y.length by omega]
      exact cut_all Y i
    have hd1 : (Y.drop i).drop 1 = Y.drop (i + 1) := by rw [List.drop_drop]
    have hdl : (Y.drop i).length = m - i := by rw [List.length_drop]; omega
    have hne : Y.drop i ≠ [] := fun e => by rw [e] at hdl; simp at hdl; omega
    have hg0 : (Y.drop i).getD 0 0 = Y.getD i 0 := by rw [getD_drop, Nat.add_zero]
    have hBd : Bs (Y.drop i) := hB.drop i
    simp only [w1, ws, Int.toNat_natCast, hco, hcut, Nat.zero_add, Nat.mul_one, Nat.add_zero, htk, List.length_singleton, true_and, and_true]
    -- passed over
    have skip : atL (Y.drop i) = 0 → fxInv L O nl ln lc ⟨Y, m, an, ac, sk0⟩ ⟨fs, fs.length, fn, fc, i + 1, sk + 1⟩ ∧ m - (i + 1) < m - i := fun h0 => by
      have hsc := scan_0 hne h0
      rw [hd1] at hsc
      refine ⟨⟨hB, ⟨hm, hm2, hac, han⟩, hs, by show i + 1 ≤ m; omega, rfl, fd, fnil, by show fs.length ≤ i + 1; omega, by show sk0 ≤ sk + 1 ∧ sk + 1 ≤ sk0 + ((i + 1 : Nat) : Int); omega, ?_, ?_, ?_⟩, by omega⟩
      · show pj fs ++ (scanL (Y.drop (i + 1))).1 = _
        rw [hsc] at e1; exact e1
      · show sk + 1 + ((scanL (Y.drop (i + 1))).2.1 : Nat) = sk0 + ((scanL Y).2.1 : Nat)
        rw [hsc] at e2
        simp only at e2
        omega
      · show (scanL (Y.drop (i + 1))).2.2 = _
        rw [hsc] at e3; exact e3
    refine ⟨⟨hanf, by omega, by omega⟩, ⟨hanf, by omega⟩, fun h165 => ?_, fun hno => skip ?_⟩
    · have h165 : Y.getD i 0 = 165 := by simpa using h165
      have hat : atL (Y.drop i) = whL (Y.drop i) := by
        unfold atL
        rw [hg0, if_pos h165]
      refine ⟨⟨by omega, by omega, by omega⟩, ⟨by omega, by omega⟩, ⟨by omega, hBd⟩, fun hbr => ?_, fun hbr g => ?_⟩
      · have hbr := of_decide_eq_true hbr
        rw [← hdl] at hbr
        have hwh := wh_br hbr
        refine ⟨fun h2 => ?_, fun h2 => skip ?_⟩
        · have h2 : whL (Y.drop i) = 2 := by simpa using h2
          have hsc := scan_2 (hat.trans h2)
          rw [hsc] at e1 e2 e3
          refine ⟨i1, rfl, fd, fnil, ?_, ?_, ?_⟩
          · show pj fs = _
            simpa using e1
          · show sk = _
            simpa using e2
          · exact e3
        · have h2 : whL (Y.drop i) ≠ 2 := by simpa using h2
          omega
      · have hbr := of_decide_eq_false hbr
        rw [← hdl] at hbr
        have hwok := wh_ok hbr
        refine ⟨fun hok => ?_, fun hok => skip ?_⟩
        · have h1 : atL (Y.drop i) = 1 := by rw [hat, hwok, if_pos hok]
          have hsc := scan_1 hne h1
          generalize hN : whN (Y.drop i) = Nn at *
          have hbl : ((Y.drop i).drop 3).length = m - i - 3 := by rw [List.length_drop, hdl]
          have hbt : (((Y.drop i).drop 3).take Nn).length = Nn := by rw [List.length_take, hbl]; omega
          have hcb : sym.cutL (((Y.drop i).drop 3).take Nn) 0 Nn 1 = ((Y.drop i).drop 3).take Nn := by rw [cut0, List.take_of_length_le (by omega)]
          have q1 : IntKind.i64.wrap ((3 : Int) + (Nn : Int)) = ((Nn + 3 : Nat) : Int) := by rw [wi64 _ (by omega) (by omega)]; omega
          have q2 : IntKind.i64.wrap (((Nn + 3 : Nat) : Int) + 2) = ((Nn + 5 : Nat) : Int) := by rw [wi64 _ (by omega) (by omega)]; omega
          have q3 : IntKind.i64.wrap ((i : Int) + ((Nn + 5 : Nat) : Int)) = ((i + (Nn + 5) : Nat) : Int) := by rw [wi64 _ (by omega) (by omega)]; omega
          simp only [q1, q2, q3, Int.toNat_natCast, true_and, and_true]
          refine ⟨by omega, fun f => ⟨⟨⟨by omega, fd.1, fd.2, fun h => (fnil h).2⟩, by omega⟩, fun gr => ⟨?_, by omega⟩⟩⟩
          obtain ⟨f1, f2⟩ := f.2
          simp only [hco, hcut, hN, Nat.zero_add, hcb] at f1 f2
          have hpf : pj [f.1] = [frOfL (Y.drop i)] := by
            show [(f.1.s, f.1.xs)] = _
            rw [f1, f2]
            unfold frOfL
            rw [hN]
          refine ⟨hB, ⟨hm, hm2, hac, han⟩, hs, by show i + (Nn + 5) ≤ m; omega, by show fs.length + 1 = (fs ++ [f.1]).length; simp, ⟨gr.le, gr.max⟩, (rowR gr).nil, by show fs.length + 1 ≤ i + (Nn + 5); omega, by show sk0 ≤ sk ∧ sk ≤ sk0 + ((i + (Nn + 5) : Nat) : Int); omega, ?_, ?_, ?_⟩
          · show pj (fs ++ [f.1]) ++ (scanL (Y.drop (i + (Nn + 5)))).1 = _
            rw [pj_append, hpf, List.append_assoc, ← List.drop_drop]
            rw [hsc] at e1
            exact e1
          · show sk + ((scanL (Y.drop (i + (Nn + 5)))).2.1 : Nat) = _
            rw [← List.drop_drop]
            rw [hsc] at e2
            exact e2
          · show (scanL (Y.drop (i + (Nn + 5)))).2.2 = _
            rw [← List.drop_drop]
            rw [hsc] at e3
            exact e3
        · rw [hat, hwok, if_neg (by rw [hok]; decide)]
    · have hno : Y.getD i 0 ≠ 165 := by simpa using hno
      unfold atL
      rw [hg0, if_neg hno]
  · have hge : ¬ (i : Int) < (m : Int) := of_decide_eq_false hge
    have hd : Y.drop i = [] := List.drop_of_length_le (by omega)
    rw [hd, scan_nil] at e1 e2 e3
    simp only [Int.toNat_natCast, true_and, and_true]
    refine ⟨i1, rfl, fd, fnil, ?_, ?_, ?_⟩
    · show pj fs = _
      simpa using e1
    · show sk = _
      simpa using e2
    · show Y.drop i = _
      rw [hd]; exact e3
theorem fxLp_ok (w : World) (L : Nat → Option Obj) (O : Nat → Bool) (nl : Bool) (ln lc : Nat)  : (fxLp L O nl ln lc).ok Try.prog w := by
  intro s t h
  unfold fxLp at h
  simp only at h
  split at h
  · rename_i p _
    split at h
    · rename_i x _
      cases h
      exact loop_ok base2 (ctrs_none _ w) (callT_ok base2.mixed base2.names base2.eqs (ctrs_none _ w).ok (ctrs_none _ w).there (pre3_ok w) (loops_none _ _) 20) ((loops_none _ _) 18) (c := roundOf (bodyAt Try.prog 18 0)) (by kernel_rfl) (id := 0) (n := 5) (hr := false) (ro := fxRo) (rf := fxRf) (rr := fxRb) (st := fxSt L O nl ln lc p) (fin := fxFin L O nl ln lc p) (bck := fxBck L O nl ln lc p) (inv := fxInv L O nl ln lc p) (post := fxPost L O nl ln lc p) (back := fxBack L O nl ln lc p) (nx := fxNxX) (fx := fxNxX) (bx := fxNxZ) (fxMu L O nl ln lc p) (nf := 6) (nf' := 6) (nf'' := 6) (fun x => by kernel_rfl) (fun y => by kernel_rfl) (fun z => nomatch z) (.inr fun z => nomatch z) (fun x hx => fx_step w L O nl ln lc p x  hx) s x
    · cases h
  · cases h
structure fgP where
  Y : List Int
  m : Nat
  an : Bool
  ac : Nat
  sk0 : Int
structure fgX where
  fs : List Fr
  fl : Nat
  fn : Bool
  fc : Nat
  i : Nat
  sk : Int
def fgSt (L : Nat → Option Obj) (O : Nat → Bool) (bn : Bool) (X : List Int) (bc : Nat) : fgP → fgX → ASt := fun ⟨Y, m, an, ac, sk0⟩ ⟨fs, fl, fn, fc, i, sk⟩ => ⟨slots (List.replicate 70 .any) [(0, .v (.one (.ptr 1 0))), (4, .v (.one .nos)), (5, .v (.one (.gs 4 an 1 0 m ac))), (6, .v (.one (.gs 5 fn 2 0 fl fc))), (7, .v (.one (.int false .i64 (i : Int))))], [⟨[.keep L O], 0⟩, ⟨[.nos, .int false .i64 sk], 46⟩, ⟨[.row bn [.u8] X bc], 5⟩, ⟨[.dead], 22⟩, ⟨[.row an [.u8] Y ac], 5⟩, ⟨[.frs fn fs fc], 29⟩]⟩
def fgFin (L : Nat → Option Obj) (O : Nat → Bool) (bn : Bool) (X : List Int) (bc : Nat) : fgP → fgX → ASt := fun ⟨Y, m, an, ac, sk0⟩ ⟨fs, fl, fn, fc, i, sk⟩ => ⟨slots (List.replicate 70 .any) [(0, .v (.one (.ptr 1 0))), (4, .v (.one .nos)), (5, .v (.one (.gs 4 an 1 0 m ac))), (6, .v (.one (.gs 5 fn 2 0 fl fc))), (7, .v (.one (.int false .i64 (i : Int))))], [⟨[.keep L O], 0⟩, ⟨[.nos, .int false .i64 sk], 46⟩, ⟨[.row bn [.u8] X bc], 5⟩, ⟨[.dead], 22⟩, ⟨[.row an [.u8] Y ac], 5⟩, ⟨[.frs fn fs fc], 29⟩]⟩
def fgBck (L : Nat → Option Obj) (O : Nat → Bool) (bn : Bool) (X : List Int) (bc : Nat) : fgP → Empty → ASt := fun _ z => nomatch z
def fgNxP : ASt → Option fgP := fun s => match gX s 5 with | none => none | some Y => match gL s 5 with | none => none | some m => match gN s 5 with | none => none | some an => match gC s 5 with | none => none | some ac => match hI s 1 1 with | none => none | some sk0 => some ⟨Y, m, an, ac, sk0⟩
def fgNxX : ASt → Option fgX := fun s => match gF s 6 with | none => none | some fs => match gL s 6 with | none => none | some fl => match gN s 6 with | none => none | some fn => match gC s 6 with | none => none | some fc => match (gI s 7).map Int.toNat with | none => none | some i => match hI s 1 1 with | none => none | some sk => some ⟨fs, fl, fn, fc, i, sk⟩
def fgNxZ : ASt → Option Empty := fun _ => none
def fgRo : ASt → List (Option Nat) := (fun s => [sym.rowAt s 6])
def fgRf : ASt → List (Option Nat) := (fun s => [sym.rowAt s 6])
def fgRb : ASt → List (Option Nat) := (fun s => [sym.rowAt s 6])
structure fgInv (L : Nat → Option Obj) (O : Nat → Bool) (bn : Bool) (X : List Int) (bc : Nat) (p : fgP) (x : fgX) : Prop where
  hB : Bs p.Y
  hm : p.Y.length = p.m ∧ p.m ≤ 2000000 ∧ p.m ≤ p.ac ∧ (p.an = true → p.m = 0)
  hs : 0 ≤ p.sk0 ∧ p.sk0 ≤ 1000000000
  i1 : x.i ≤ p.m
  fl1 : x.fl = x.fs.length
  fd : x.fl ≤ x.fc ∧ x.fc ≤ maxLen
  fnil : x.fn = true → x.fl = 0 ∧ x.fc = 0
  fi : x.fl ≤ x.i
  ks : p.sk0 ≤ x.sk ∧ x.sk ≤ p.sk0 + x.i
  e1 : pj x.fs ++ (scanL (p.Y.drop x.i)).1 = (scanL p.Y).1
  e2 : x.sk + ((scanL (p.Y.drop x.i)).2.1 : Nat) = p.sk0 + ((scanL p.Y).2.1 : Nat)
  e3 : (scanL (p.Y.drop x.i)).2.2 = (scanL p.Y).2.2
structure fgPost (L : Nat → Option Obj) (O : Nat → Bool) (bn : Bool) (X : List Int) (bc : Nat) (p : fgP) (x : fgX) : Prop where
  i1 : x.i ≤ p.m
  fl1 : x.fl = x.fs.length
  fd : x.fl ≤ x.fc ∧ x.fc ≤ maxLen
  fnil : x.fn = true → x.fl = 0 ∧ x.fc = 0
  e1 : pj x.fs = (scanL p.Y).1
  e2 : x.sk = p.sk0 + ((scanL p.Y).2.1 : Nat)
  e3 : p.Y.drop x.i = (scanL p.Y).2.2
def fgBack (L : Nat → Option Obj) (O : Nat → Bool) (bn : Bool) (X : List Int) (bc : Nat) (p : fgP) (x : Empty) : Prop := False
def fgLp (L : Nat → Option Obj) (O : Nat → Bool) (bn : Bool) (X : List Int) (bc : Nat) : Lp := ⟨18, 0, fun s => match fgNxP s with
  | some p => match fgNxX s with
    | some x => some (loopT 0 5 false fgRo (fgSt L O bn X bc p) (fgFin L O bn X bc p) (fgBck L O bn X bc p) (fgInv L O bn X bc p) (fgPost L O bn X bc p) (fgBack L O bn X bc p) s x)
    | none => none
  | none => none⟩
theorem fgstep_tree (w : World) (L : Nat → Option Obj) (O : Nat → Bool) (bn : Bool) (X : List Int) (bc : Nat) (Y : List Int) (m : Nat) (an : Bool) (ac : Nat) (sk0 : Int) (fs : List Fr) (fl : Nat) (fn : Bool) (fc : Nat) (i : Nat) (sk : Int) :
    roundT Try.prog w (flatT Try.prog) (noCtr) (callT Try.prog w (flatT Try.prog) (noCtr) (preOr (preOf w tab2) (fpreOf [concatC w])) (noLoop) 20) ((noLoop) 18) (roundOf (bodyAt Try.prog 18 0)) 0 5 fgRo fgRf fgRb (fgSt L O bn X bc ⟨Y, m, an, ac, sk0⟩) (fgFin L O bn X bc ⟨Y, m, an, ac, sk0⟩) (fgBck L O bn X bc ⟨Y, m, an, ac, sk0⟩) fgNxX fgNxX fgNxZ ⟨fs, fl, fn, fc, i, sk⟩ =
(.br (decide ((↑i : Int) < (↑m : Int)))
 (.chk (an = false ∧ (0 : Int) ≤ (↑i : Int) ∧ (↑i : Int) < (↑m : Int))
 (.chk (an = false ∧ ((0 : Nat) + (↑i : Int).toNat) * (1 : Nat) + (1 : Nat) ≤ Y.length)
 (.br (Y.getD (((0 : Nat) + (↑i : Int).toNat) * (1 : Nat) + (0 : Nat)) (0 : Int) == (165 : Int))
  (.chk ((0 : Int) ≤ (↑i : Int) ∧ (↑i : Int) ≤ (↑m : Int) ∧ (↑m : Int) ≤ (↑ac : Int))
  (.chk ((an = an ∧
    (sym.cutO (0 : Nat) ac (↑i : Int).toNat + (m - (↑i : Int).toNat)) * (1 : Nat) ≤
        Y.length ∧
      m - (↑i : Int).toNat ≤ ac - (↑i : Int).toNat) ∧
  True)
  (.chk (m - (↑i : Int).toNat ≤ (1000000000 : Nat) ∧
  Bs
    (sym.cutL Y (sym.cutO (0 : Nat) ac (↑i : Int).toNat)
      (sym.cutO (0 : Nat) ac (↑i : Int).toNat + (m - (↑i : Int).toNat)) (1 : Nat)))
  (.br (decide
  (m - (↑i : Int).toNat < (3 : Nat) ∨
    (64 : Nat) <
        whN
          (sym.cutL Y (sym.cutO (0 : Nat) ac (↑i : Int).toNat)
            (sym.cutO (0 : Nat) ac (↑i : Int).toNat + (m - (↑i : Int).toNat)) (1 : Nat)) ∨
      m - (↑i : Int).toNat <
        whN
            (sym.cutL Y (sym.cutO (0 : Nat) ac (↑i : Int).toNat)
              (sym.cutO (0 : Nat) ac (↑i : Int).toNat + (m - (↑i : Int).toNat)) (1 : Nat)) +
          (5 : Nat)))
   (.br (!decide
    (whL
        (sym.cutL Y (sym.cutO (0 : Nat) ac (↑i : Int).toNat)
          (sym.cutO (0 : Nat) ac (↑i : Int).toNat + (m - (↑i : Int).toNat)) (1 : Nat)) ≠
      (2 : Nat)))
    (.chk (an = an ∧ (1 : Nat) = (1 : Nat) ∧ (0 : Nat) = (0 : Nat) ∧ m = m ∧ ac = ac)
    (.chk (fn = fn ∧ (2 : Nat) = (2 : Nat) ∧ (0 : Nat) = (0 : Nat) ∧ fl = fl ∧ fc = fc)
    (.chk (IntKind.i64 = IntKind.i64 ∧ (↑i : Int) = (↑(↑i : Int).toNat : Int))
    (.chk (L = L ∧ O = O)
    (.chk (IntKind.i64 = IntKind.i64 ∧ sk = sk)
    (.chk (bn = bn ∧ [IntKind.u8] = [IntKind.u8] ∧ X = X ∧ bc = bc)
    (.chk (an = an ∧ [IntKind.u8] = [IntKind.u8] ∧ Y = Y ∧ ac = ac)
    (.chk (fn = fn ∧ fs = fs ∧ fc = fc)
    (.leaf (.inr (.inl ⟨fs, fl, fn, fc, (↑i : Int).toNat, sk⟩)))))))))))
    (.chk (an = an ∧ (1 : Nat) = (1 : Nat) ∧ (0 : Nat) = (0 : Nat) ∧ m = m ∧ ac = ac)
    (.chk (fn = fn ∧ (2 : Nat) = (2 : Nat) ∧ (0 : Nat) = (0 : Nat) ∧ fl = fl ∧ fc = fc)
    (.chk (IntKind.i64 = IntKind.i64 ∧
  IntKind.i64.wrap ((↑i : Int) + (1 : Int)) = (↑(IntKind.i64.wrap ((↑i : Int) + (1 : Int))).toNat : Int))
    (.chk (L = L ∧ O = O)
    (.chk (IntKind.i64 = IntKind.i64 ∧ IntKind.i64.wrap (sk + (1 : Int)) = IntKind.i64.wrap (sk + (1 : Int)))
    (.chk (bn = bn ∧ [IntKind.u8] = [IntKind.u8] ∧ X = X ∧ bc = bc)
    (.chk (an = an ∧ [IntKind.u8] = [IntKind.u8] ∧ Y = Y ∧ ac = ac)
    (.chk (fn = fn ∧ fs = fs ∧ fc = fc)
    (.leaf (.inl ⟨fs, fl, fn, fc, (IntKind.i64.wrap ((↑i : Int) + (1 : Int))).toNat, IntKind.i64.wrap (sk + (1 : Int))⟩)))))))))))
   (.all fun x : RowR
  (whN
    (sym.cutL Y (sym.cutO (0 : Nat) ac (↑i : Int).toNat)
      (sym.cutO (0 : Nat) ac (↑i : Int).toNat + (m - (↑i : Int).toNat)) (1 : Nat))) =>
    (.br (okF
  (sym.cutL Y (sym.cutO (0 : Nat) ac (↑i : Int).toNat)
    (sym.cutO (0 : Nat) ac (↑i : Int).toNat + (m - (↑i : Int).toNat)) (1 : Nat)))
     (.chk (x.nl = x.nl ∧
  (0 : Nat) +
      whN
        (sym.cutL Y (sym.cutO (0 : Nat) ac (↑i : Int).toNat)
          (sym.cutO (0 : Nat) ac (↑i : Int).toNat + (m - (↑i : Int).toNat)) (1 : Nat)) ≤
    (List.take
        (whN
          (sym.cutL Y (sym.cutO (0 : Nat) ac (↑i : Int).toNat)
            (sym.cutO (0 : Nat) ac (↑i : Int).toNat + (m - (↑i : Int).toNat)) (1 : Nat)))
        (List.drop (3 : Nat)
          (sym.cutL Y (sym.cutO (0 : Nat) ac (↑i : Int).toNat)
            (sym.cutO (0 : Nat) ac (↑i : Int).toNat + (m - (↑i : Int).toNat))
            (1 : Nat)))).length)
     (.all fun x_1 : sym.FrOf
  ((sym.cutL Y (sym.cutO (0 : Nat) ac (↑i : Int).toNat)
        (sym.cutO (0 : Nat) ac (↑i : Int).toNat + (m - (↑i : Int).toNat)) (1 : Nat)).getD
    (1 : Nat) (0 : Int))
  (sym.cutL
    (List.take
      (whN
        (sym.cutL Y (sym.cutO (0 : Nat) ac (↑i : Int).toNat)
          (sym.cutO (0 : Nat) ac (↑i : Int).toNat + (m - (↑i : Int).toNat)) (1 : Nat)))
      (List.drop (3 : Nat)
        (sym.cutL Y (sym.cutO (0 : Nat) ac (↑i : Int).toNat)
          (sym.cutO (0 : Nat) ac (↑i : Int).toNat + (m - (↑i : Int).toNat)) (1 : Nat))))
    (0 : Nat)
    ((0 : Nat) +
      whN
        (sym.cutL Y (sym.cutO (0 : Nat) ac (↑i : Int).toNat)
          (sym.cutO (0 : Nat) ac (↑i : Int).toNat + (m - (↑i : Int).toNat)) (1 : Nat)))
    (1 : Nat)) =>
      (.chk ((fn = fn ∧
    (0 : Nat) = (0 : Nat) ∧ fc = fc ∧ fl ≤ fs.length ∧ fl ≤ fc ∧ fc ≤ Go.maxLen ∧ (fn = true → fc = (0 : Nat))) ∧
  (fl + [x_1.val].length) * (32 : Nat) ≤ (140737488355328 : Nat))
      (.all fun x_2 : sym.Grown fn [x_1.val].length (fl + [x_1.val].length) =>
       (.chk (an = an ∧ (1 : Nat) = (1 : Nat) ∧ (0 : Nat) = (0 : Nat) ∧ m = m ∧ ac = ac)
       (.chk (x_2.nl' = x_2.nl' ∧
  (2 : Nat) = (2 : Nat) ∧ (0 : Nat) = (0 : Nat) ∧ fl + [x_1.val].length = fl + [x_1.val].length ∧ x_2.cap = x_2.cap)
       (.chk (IntKind.i64 = IntKind.i64 ∧
  IntKind.i64.wrap
      ((↑i : Int) +
        IntKind.i64.wrap
          (IntKind.i64.wrap
              ((3 : Int) +
                (↑(whN
                      (sym.cutL Y
                        (sym.cutO (0 : Nat) ac (↑i : Int).toNat)
                        (sym.cutO (0 : Nat) ac (↑i : Int).toNat + (m - (↑i : Int).toNat))
                        (1 : Nat))) :
                  Int)) +
            (2 : Int))) =
    (↑(IntKind.i64.wrap
            ((↑i : Int) +
              IntKind.i64.wrap
                (IntKind.i64.wrap
                    ((3 : Int) +
                      (↑(whN
                            (sym.cutL Y
                              (sym.cutO (0 : Nat) ac (↑i : Int).toNat)
                              (sym.cutO (0 : Nat) ac (↑i : Int).toNat +
                                (m - (↑i : Int).toNat))
                              (1 : Nat))) :
                        Int)) +
                  (2 : Int)))).toNat :
      Int))
       (.chk (L = L ∧ O = O)
       (.chk (IntKind.i64 = IntKind.i64 ∧ sk = sk)
       (.chk (bn = bn ∧ [IntKind.u8] = [IntKind.u8] ∧ X = X ∧ bc = bc)
       (.chk (an = an ∧ [IntKind.u8] = [IntKind.u8] ∧ Y = Y ∧ ac = ac)
       (.chk (x_2.nl' = x_2.nl' ∧ List.take fl fs ++ [x_1.val] = List.take fl fs ++ [x_1.val] ∧ x_2.cap = x_2.cap)
       (.leaf (.inl ⟨List.take fl fs ++ [x_1.val], fl + [x_1.val].length, x_2.nl', x_2.cap, (IntKind.i64.wrap
    ((↑i : Int) +
      IntKind.i64.wrap
        (IntKind.i64.wrap
            ((3 : Int) +
              (↑(whN
                    (sym.cutL Y
                      (sym.cutO (0 : Nat) ac (↑i : Int).toNat)
                      (sym.cutO (0 : Nat) ac (↑i : Int).toNat + (m - (↑i : Int).toNat))
                      (1 : Nat))) :
                Int)) +
          (2 : Int)))).toNat, sk⟩))))))))))))))
     (.chk (an = an ∧ (1 : Nat) = (1 : Nat) ∧ (0 : Nat) = (0 : Nat) ∧ m = m ∧ ac = ac)
     (.chk (fn = fn ∧ (2 : Nat) = (2 : Nat) ∧ (0 : Nat) = (0 : Nat) ∧ fl = fl ∧ fc = fc)
     (.chk (IntKind.i64 = IntKind.i64 ∧
  IntKind.i64.wrap ((↑i : Int) + (1 : Int)) = (↑(IntKind.i64.wrap ((↑i : Int) + (1 : Int))).toNat : Int))
     (.chk (L = L ∧ O = O)
     (.chk (IntKind.i64 = IntKind.i64 ∧ IntKind.i64.wrap (sk + (1 : Int)) = IntKind.i64.wrap (sk + (1 : Int)))
     (.chk (bn = bn ∧ [IntKind.u8] = [IntKind.u8] ∧ X = X ∧ bc = bc)
     (.chk (an = an ∧ [IntKind.u8] = [IntKind.u8] ∧ Y = Y ∧ ac = ac)
     (.chk (fn = fn ∧ fs = fs ∧ fc = fc)
     (.leaf (.inl ⟨fs, fl, fn, fc, (IntKind.i64.wrap ((↑i : Int) + (1 : Int))).toNat, IntKind.i64.wrap (sk + (1 : Int))⟩))))))))))))))))
  (.chk (an = an ∧ (1 : Nat) = (1 : Nat) ∧ (0 : Nat) = (0 : Nat) ∧ m = m ∧ ac = ac)
  (.chk (fn = fn ∧ (2 : Nat) = (2 : Nat) ∧ (0 : Nat) = (0 : Nat) ∧ fl = fl ∧ fc = fc)
  (.chk (IntKind.i64 = IntKind.i64 ∧
  IntKind.i64.wrap ((↑i : Int) + (1 : Int)) = (↑(IntKind.i64.wrap ((↑i : Int) + (1 : Int))).toNat : Int))
  (.chk (L = L ∧ O = O)
  (.chk (IntKind.i64 = IntKind.i64 ∧ IntKind.i64.wrap (sk + (1 : Int)) = IntKind.i64.wrap (sk + (1 : Int)))
  (.chk (bn = bn ∧ [IntKind.u8] = [IntKind.u8] ∧ X = X ∧ bc = bc)
  (.chk (an = an ∧ [IntKind.u8] = [IntKind.u8] ∧ Y = Y ∧ ac = ac)
  (.chk (fn = fn ∧ fs = fs ∧ fc = fc)
  (.leaf (.inl ⟨fs, fl, fn, fc, (IntKind.i64.wrap ((↑i : Int) + (1 : Int))).toNat, IntKind.i64.wrap (sk + (1 : Int))⟩)))))))))))))
 (.chk (an = an ∧ (1 : Nat) = (1 : Nat) ∧ (0 : Nat) = (0 : Nat) ∧ m = m ∧ ac = ac)
 (.chk (fn = fn ∧ (2 : Nat) = (2 : Nat) ∧ (0 : Nat) = (0 : Nat) ∧ fl = fl ∧ fc = fc)
 (.chk (IntKind.i64 = IntKind.i64 ∧ (↑i : Int) = (↑(↑i : Int).toNat : Int))
 (.chk (L = L ∧ O = O)
 (.chk (IntKind.i64 = IntKind.i64 ∧ sk = sk)
 (.chk (bn = bn ∧ [IntKind.u8] = [IntKind.u8] ∧ X = X ∧ bc = bc)
 (.chk (an = an ∧ [IntKind.u8] = [IntKind.u8] ∧ Y = Y ∧ ac = ac)
 (.chk (fn = fn ∧ fs = fs ∧ fc = fc)
 (.leaf (.inr (.inl ⟨fs, fl, fn, fc, (↑i : Int).toNat, sk⟩)))))))))))) := by kernel_rfl
def fgMu (L : Nat → Option Obj) (O : Nat → Bool) (bn : Bool) (X : List Int) (bc : Nat) (p : fgP) (x : fgX) : Nat := p.m - x.i
set_option maxHeartbeats 1000000 in
theorem fg_step (w : World) (L : Nat → Option Obj) (O : Nat → Bool) (bn : Bool) (X : List Int) (bc : Nat) (p : fgP) (x : fgX)  (h : fgInv L O bn X bc p x) : Hid (roundT Try.prog w (flatT Try.prog) (noCtr) (callT Try.prog w (flatT Try.prog) (noCtr) (preOr (preOf w tab2) (fpreOf [concatC w])) (noLoop) 20) ((noLoop) 18) (roundOf (bodyAt Try.prog 18 0)) 0 5 fgRo fgRf fgRb (fgSt L O bn X bc p) (fgFin L O bn X bc p) (fgBck L O bn X bc p) fgNxX fgNxX fgNxZ x) (Kept (fgInv L O bn X bc p) (fgPost L O bn X bc p) (fgBack L O bn X bc p) (fgMu L O bn X bc p) x) := by
  obtain ⟨Y, m, an, ac, sk0⟩ := p
  obtain ⟨fs, fl, fn, fc, i, sk⟩ := x
  constructor
  rw [fgstep_tree]
  simp only [T.holds, Kept, fgMu, and_self, true_and, and_true]
  obtain ⟨hB, ⟨hm, hm2, hac, han⟩, hs, i1, fl1, fd, fnil, fi, ks, e1, e2, e3⟩ := h
  simp only at hB hm hm2 hac han hs i1 fl1 fd fnil fi ks e1 e2 e3
  have hpl := pj_length fs
  subst fl1
  have htk : fs.take fs.length = fs := List.take_of_length_le (Nat.le_refl _)
  have w1 : IntKind.i64.wrap ((i : Int) + 1) = ((i + 1 : Nat) : Int) := by rw [wi64 _ (by omega) (by omega)]; omega
  refine ⟨fun hlt => ?_, fun hge => ?_⟩
  · have hlt : i < m := by have := of_decide_eq_true hlt; omega
    have hanf : an = false := by
      cases an with
      | false => rfl
      | true => have := han rfl; omega
    have ws : IntKind.i64.wrap (sk + 1) = sk + 1 := wi64 _ (by omega) (by omega)
    have hco : sym.cutO 0 ac i = i := by
      rw [sym.cutO_eq, if_neg (by omega), Nat.zero_add]
    have hcut : sym.cutL Y i (i + (m - i)) 1 = Y.drop i := by
      rw [show i + (m - i) = Y.length by omega]
      exact cut_all Y i
    have hd1 : (Y.drop i).drop 1 = Y.drop (i + 1) := by rw [List.drop_drop]
    have hdl : (Y.drop i).length = m - i := by rw [List.length_drop]; omega
    have hne : Y.drop i ≠ [] := fun e => by rw [e] at hdl; simp at hdl; omega
    have hg0 : (Y.drop i).getD 0 0 = Y.getD i 0 := by rw [getD_drop, Nat.add_zero]
    have hBd : Bs (Y.drop i) := hB.drop i
    simp only [w1, ws, Int.toNat_natCast, hco, hcut, Nat.zero_add, Nat.mul_one, Nat.add_zero, htk, List.length_singleton, true_and, and_true]
    -- passed over
    have skip : atL (Y.drop i) = 0 → fgInv L O bn X bc ⟨Y, m, an, ac, sk0⟩ ⟨fs, fs.length, fn, fc, i + 1, sk + 1⟩ ∧ m - (i + 1) < m - i := fun h0 => by
      have hsc := scan_0 hne h0
      rw [hd1] at hsc
      refine ⟨⟨hB, ⟨hm, hm2, hac, han⟩, hs, by show i + 1 ≤ m; omega, rfl, fd, fnil, by show fs.length ≤ i + 1; omega, by show sk0 ≤ sk + 1 ∧ sk + 1 ≤ sk0 + ((i + 1 : Nat) : Int); omega, ?_, ?_, ?_⟩, by omega⟩
      · show pj fs ++ (scanL (Y.drop (i + 1))).1 = _
        rw [hsc] at e1; exact e1
      · show sk + 1 + ((scanL (Y.drop (i + 1))).2.1 : Nat) = sk0 + ((scanL Y).2.1 : Nat)
        rw [hsc] at e2
        simp only at e2
        omega
      · show (scanL (Y.drop (i + 1))).2.2 = _
        rw [hsc] at e3; exact e3
    refine ⟨⟨hanf, by omega, by omega⟩, ⟨hanf, by omega⟩, fun h165 => ?_, fun hno => skip ?_⟩
    · have h165 : Y.getD i 0 = 165 := by simpa using h165
      have hat : atL (Y.drop i) = whL (Y.drop i) := by
        unfold atL
        rw [hg0, if_pos h165]
      refine ⟨⟨by omega, by omega, by omega⟩, ⟨by omega, by omega⟩, ⟨by omega, hBd⟩, fun hbr => ?_, fun hbr g => ?_⟩
      · have hbr := of_decide_eq_true hbr
        rw [← hdl] at hbr
        have hwh := wh_br hbr
        refine ⟨fun h2 => ?_, fun h2 => skip ?_⟩
        · have h2 : whL (Y.drop i) = 2 := by simpa using h2
          have hsc := scan_2 (hat.trans h2)
          rw [hsc] at e1 e2 e3
          refine ⟨i1, rfl, fd, fnil, ?_, ?_, ?_⟩
          · show pj fs = _
            simpa using e1
          · show sk = _
            simpa using e2
          · exact e3
        · have h2 : whL (Y.drop i) ≠ 2 := by simpa using h2
          omega
      · have hbr := of_decide_eq_false hbr
        rw [← hdl] at hbr
        have hwok := wh_ok hbr
        refine ⟨fun hok => ?_, fun hok => skip ?_⟩
        · have h1 : atL (Y.drop i) = 1 := by rw [hat, hwok, if_pos hok]
          have hsc := scan_1 hne h1
          generalize hN : whN (Y.drop i) = Nn at *
          have hbl : ((Y.drop i).drop 3).length = m - i - 3 := by rw [List.length_drop, hdl]
          have hbt : (((Y.drop i).drop 3).take Nn).length = Nn := by rw [List.length_take, hbl]; omega
          have hcb : sym.cutL (((Y.drop i).drop 3).take Nn) 0 Nn 1 = ((Y.drop i).drop 3).take Nn := by rw [cut0, List.take_of_length_le (by omega)]
          have q1 : IntKind.i64.wrap ((3 : Int) + (Nn : Int)) = ((Nn + 3 : Nat) : Int) := by rw [wi64 _ (by omega) (by omega)]; omega
          have q2 : IntKind.i64.wrap (((Nn + 3 : Nat) : Int) + 2) = ((Nn + 5 : Nat) : Int) := by rw [wi64 _ (by omega) (by omega)]; omega
          have q3 : IntKind.i64.wrap ((i : Int) + ((Nn + 5 : Nat) : Int)) = ((i + (Nn + 5) : Nat) : Int) := by rw [wi64 _ (by omega) (by omega)]; omega
          simp only [q1, q2, q3, Int.toNat_natCast, true_and, and_true]
          refine ⟨by omega, fun f => ⟨⟨⟨by omega, fd.1, fd.2, fun h => (fnil h).2⟩, by omega⟩, fun gr => ⟨?_, by omega⟩⟩⟩
          obtain ⟨f1, f2⟩ := f.2
          simp only [hco, hcut, hN, Nat.zero_add, hcb] at f1 f2
          have hpf : pj [f.1] = [frOfL (Y.drop i)] := by
            show [(f.1.s, f.1.xs)] = _
            rw [f1, f2]
            unfold frOfL
            rw [hN]
          refine ⟨hB, ⟨hm, hm2, hac, han⟩, hs, by show i + (Nn + 5) ≤ m; omega, by show fs.length + 1 = (fs ++ [f.1]).length; simp, ⟨gr.le, gr.max⟩, (rowR gr).nil, by show fs.length + 1 ≤ i + (Nn + 5); omega, by show sk0 ≤ sk ∧ sk ≤ sk0 + ((i + (Nn + 5) : Nat) : Int); omega, ?_, ?_, ?_⟩
          · show pj (fs ++ [f.1]) ++ (scanL (Y.drop (i + (Nn + 5)))).1 = _
            rw [pj_append, hpf, List.append_assoc, ← List.drop_drop]
            rw [hsc] at e1
            exact e1
          · show sk + ((scanL (Y.drop (i + (Nn + 5)))).2.1 : Nat) = _
            rw [← List.drop_drop]
            rw [hsc] at e2
            exact e2
          · show (scanL (Y.drop (i + (Nn + 5)))).2.2 = _
            rw [← List.drop_drop]
            rw [hsc] at e3
            exact e3
        · rw [hat, hwok, if_neg (by rw [hok]; decide)]
    · have hno : Y.getD i 0 ≠ 165 := by simpa using hno
      unfold atL
      rw [hg0, if_neg hno]
  · have hge : ¬ (i : Int) < (m : Int) := of_decide_eq_false hge
    have hd : Y.drop i = [] := List.drop_of_length_le (by omega)
    rw [hd, scan_nil] at e1 e2 e3
    simp only [Int.toNat_natCast, true_and, and_true]
    refine ⟨i1, rfl, fd, fnil, ?_, ?_, ?_⟩
    · show pj fs = _
      simpa using e1
    · show sk = _
      simpa using e2
    · show Y.drop i = _
      rw [hd]; exact e3
theorem fgLp_ok (w : World) (L : Nat → Option Obj) (O : Nat → Bool) (bn : Bool) (X : List Int) (bc : Nat)  : (fgLp L O bn X bc).ok Try.prog w := by
  intro s t h
  unfold fgLp at h
  simp only at h
  split at h
  · rename_i p _
    split at h
    · rename_i x _
      cases h
      exact loop_ok base2 (ctrs_none _ w) (callT_ok base2.mixed base2.names base2.eqs (ctrs_none _ w).ok (ctrs_none _ w).there (pre3_ok w) (loops_none _ _) 20) ((loops_none _ _) 18) (c := roundOf (bodyAt Try.prog 18 0)) (by kernel_rfl) (id := 0) (n := 5) (hr := false) (ro := fgRo) (rf := fgRf) (rr := fgRb) (st := fgSt L O bn X bc p) (fin := fgFin L O bn X bc p) (bck := fgBck L O bn X bc p) (inv := fgInv L O bn X bc p) (post := fgPost L O bn X bc p) (back := fgBack L O bn X bc p) (nx := fgNxX) (fx := fgNxX) (bx := fgNxZ) (fgMu L O bn X bc p) (nf := 6) (nf' := 6) (nf'' := 6) (fun x => by kernel_rfl) (fun y => by kernel_rfl) (fun z => nomatch z) (.inr fun z => nomatch z) (fun x hx => fg_step w L O bn X bc p x  hx) s x
    · cases h
  · cases h
structure fhP where
  Y : List Int
  m : Nat
  an : Bool
  ac : Nat
  sk0 : Int
structure fhX where
  fs : List Fr
  fl : Nat
  fn : Bool
  fc : Nat
  i : Nat
  sk : Int
def fhSt (L : Nat → Option Obj) (O : Nat → Bool) (bn : Bool) (X : List Int) (bc : Nat) (nl : Bool) (ln lc : Nat) : fhP → fhX → ASt := fun ⟨Y, m, an, ac, sk0⟩ ⟨fs, fl, fn, fc, i, sk⟩ => ⟨slots (List.replicate 70 .any) [(0, .v (.one (.ptr 1 0))), (4, .v (.one .nos)), (5, .v (.one (.gs 5 an 1 0 m ac))), (6, .v (.one (.gs 6 fn 2 0 fl fc))), (7, .v (.one (.int false .i64 (i : Int))))], [⟨[.keep L O], 0⟩, ⟨[.gs 3 nl 1 0 ln lc, .int false .i64 sk], 46⟩, ⟨[.row bn [.u8] X bc], 5⟩, ⟨[.dead], 5⟩, ⟨[.dead], 22⟩, ⟨[.row an [.u8] Y ac], 5⟩, ⟨[.frs fn fs fc], 29⟩]⟩
def fhFin (L : Nat → Option Obj) (O : Nat → Bool) (bn : Bool) (X : List Int) (bc : Nat) (nl : Bool) (ln lc : Nat) : fhP → fhX → ASt := fun ⟨Y, m, an, ac, sk0⟩ ⟨fs, fl, fn, fc, i, sk⟩ => ⟨slots (List.replicate 70 .any) [(0, .v (.one (.ptr 1 0))), (4, .v (.one .nos)), (5, .v (.one (.gs 5 an 1 0 m ac))), (6, .v (.one (.gs 6 fn 2 0 fl fc))), (7, .v (.one (.int false .i64 (i : Int))))], [⟨[.keep L O], 0⟩, ⟨[.gs 3 nl 1 0 ln lc, .int false .i64 sk], 46⟩, ⟨[.row bn [.u8] X bc], 5⟩, ⟨[.dead], 5⟩, ⟨[.dead], 22⟩, ⟨[.row an [.u8] Y ac], 5⟩, ⟨[.frs fn fs fc], 29⟩]⟩
def fhBck (L : Nat → Option Obj) (O : Nat → Bool) (bn : Bool) (X : List Int) (bc : Nat) (nl : Bool) (ln lc : Nat) : fhP → Empty → ASt := fun _ z => nomatch z
def fhNxP : ASt → Option fhP := fun s => match gX s 5 with | none => none | some Y => match gL s 5 with | none => none | some m => match gN s 5 with | none => none | some an => match gC s 5 with | none => none | some ac => match hI s 1 1 with | none => none | some sk0 => some ⟨Y, m, an, ac, sk0⟩
def fhNxX : ASt → Option fhX := fun s => match gF s 6 with | none => none | some fs => match gL s 6 with | none => none | some fl => match gN s 6 with | none => none | some fn => match gC s 6 with | none => none | some fc => match (gI s 7).map Int.toNat with | none => none | some i => match hI s 1 1 with | none => none | some sk => some ⟨fs, fl, fn, fc, i, sk⟩
def fhNxZ : ASt → Option Empty := fun _ => none
def fhRo : ASt → List (Option Nat) := (fun s => [sym.rowAt s 6])
def fhRf : ASt → List (Option Nat) := (fun s => [sym.rowAt s 6])
def fhRb : ASt → List (Option Nat) := (fun s => [sym.rowAt s 6])
structure fhInv (L : Nat → Option Obj) (O : Nat → Bool) (bn : Bool) (X : List Int) (bc : Nat) (nl : Bool) (ln lc : Nat) (p : fhP) (x : fhX) : Prop where
  hB : Bs p.Y
  hm : p.Y.length = p.m ∧ p.m ≤ 2000000 ∧ p.m ≤ p.ac ∧ (p.an = true → p.m = 0)
  hs : 0 ≤ p.sk0 ∧ p.sk0 ≤ 1000000000
  i1 : x.i ≤ p.m
  fl1 : x.fl = x.fs.length
  fd : x.fl ≤ x.fc ∧ x.fc ≤ maxLen
  fnil : x.fn = true → x.fl = 0 ∧ x.fc = 0
  fi : x.fl ≤ x.i
  ks : p.sk0 ≤ x.sk ∧ x.sk ≤ p.sk0 + x.i
  e1 : pj x.fs ++ (scanL (p.Y.drop x.i)).1 = (scanL p.Y).1
  e2 : x.sk + ((scanL (p.Y.drop x.i)).2.1 : Nat) = p.sk0 + ((scanL p.Y).2.1 : Nat)
  e3 : (scanL (p.Y.drop x.i)).2.2 = (scanL p.Y).2.2
structure fhPost (L : Nat → Option Obj) (O : Nat → Bool) (bn : Bool) (X : List Int) (bc : Nat) (nl : Bool) (ln lc : Nat) (p : fhP) (x : fhX) : Prop where
  i1 : x.i ≤ p.m
  fl1 : x.fl = x.fs.length
  fd : x.fl ≤ x.fc ∧ x.fc ≤ maxLen
  fnil : x.fn = true → x.fl = 0 ∧ x.fc = 0
  e1 : pj x.fs = (scanL p.Y).1
  e2 : x.sk = p.sk0 + ((scanL p.Y).2.1 : Nat)
  e3 : p.Y.drop x.i = (scanL p.Y).2.2
def fhBack (L : Nat → Option Obj) (O : Nat → Bool) (bn : Bool) (X : List Int) (bc : Nat) (nl : Bool) (ln lc : Nat) (p : fhP) (x : Empty) : Prop := False
def fhLp (L : Nat → Option Obj) (O : Nat → Bool) (bn : Bool) (X : List Int) (bc : Nat) (nl : Bool) (ln lc : Nat) : Lp := ⟨18, 0, fun s => match fhNxP s with
  | some p => match fhNxX s with
    | some x => some (loopT 0 6 false fhRo (fhSt L O bn X bc nl ln lc p) (fhFin L O bn X bc nl ln lc p) (fhBck L O bn X bc nl ln lc p) (fhInv L O bn X bc nl ln lc p) (fhPost L O bn X bc nl ln lc p) (fhBack L O bn X bc nl ln lc p) s x)
    | none => none
  | none => none⟩
theorem fhstep_tree (w : World) (L : Nat → Option Obj) (O : Nat → Bool) (bn : Bool) (X : List Int) (bc : Nat) (nl : Bool) (ln lc : Nat) (Y : List Int) (m : Nat) (an : Bool) (ac : Nat) (sk0 : Int) (fs : List Fr) (fl : Nat) (fn : Bool) (fc : Nat) (i : Nat) (sk : Int) :
    roundT Try.prog w (flatT Try.prog) (noCtr) (callT Try.prog w (flatT Try.prog) (noCtr) (preOr (preOf w tab2) (fpreOf [concatC w])) (noLoop) 20) ((noLoop) 18) (roundOf (bodyAt Try.prog 18 0)) 0 6 fhRo fhRf fhRb (fhSt L O bn X bc nl ln lc ⟨Y, m, an, ac, sk0⟩) (fhFin L O bn X bc nl ln lc ⟨Y, m, an, ac, sk0⟩) (fhBck L O bn X bc nl ln lc ⟨Y, m, an, ac, sk0⟩) fhNxX fhNxX fhNxZ ⟨fs, fl, fn, fc, i, sk⟩ =
(.br (decide ((↑i : Int) < (↑m : Int)))
 (.chk (an = false ∧ (0 : Int) ≤ (↑i : Int) ∧ (↑i : Int) < (↑m : Int))
 (.chk (an = false ∧ ((0 : Nat) + (↑i : Int).toNat) * (1 : Nat) + (1 : Nat) ≤ Y.length)
 (.br (Y.getD (((0 : Nat) + (↑i : Int).toNat) * (1 : Nat) + (0 : Nat)) (0 : Int) == (165 : Int))
  (.chk ((0 : Int) ≤ (↑i : Int) ∧ (↑i : Int) ≤ (↑m : Int) ∧ (↑m : Int) ≤ (↑ac : Int))
  (.chk ((an = an ∧
    (sym.cutO (0 : Nat) ac (↑i : Int).toNat + (m - (↑i : Int).toNat)) * (1 : Nat) ≤
        Y.length ∧
      m - (↑i : Int).toNat ≤ ac - (↑i : Int).toNat) ∧
  True)
  (.chk (m - (↑i : Int).toNat ≤ (1000000000 : Nat) ∧
  Bs
    (sym.cutL Y (sym.cutO (0 : Nat) ac (↑i : Int).toNat)
      (sym.cutO (0 : Nat) ac (↑i : Int).toNat + (m - (↑i : Int).toNat)) (1 : Nat)))
  (.br (decide
  (m - (↑i : Int).toNat < (3 : Nat) ∨
    (64 : Nat) <
        whN
          (sym.cutL Y (sym.cutO (0 : Nat) ac (↑i : Int).toNat)
            (sym.cutO (0 : Nat) ac (↑i : Int).toNat + (m - (↑i : Int).toNat)) (1 : Nat)) ∨
      m - (↑i : Int).toNat <
        whN
            (sym.cutL Y (sym.cutO (0 : Nat) ac (↑i : Int).toNat)
              (sym.cutO (0 : Nat) ac (↑i : Int).toNat + (m - (↑i : Int).toNat)) (1 : Nat)) +
          (5 : Nat)))
   (.br (!decide
    (whL
        (sym.cutL Y (sym.cutO (0 : Nat) ac (↑i : Int).toNat)
          (sym.cutO (0 : Nat) ac (↑i : Int).toNat + (m - (↑i : Int).toNat)) (1 : Nat)) ≠
      (2 : Nat)))
    (.chk (an = an ∧ (1 : Nat) = (1 : Nat) ∧ (0 : Nat) = (0 : Nat) ∧ m = m ∧ ac = ac)
    (.chk (fn = fn ∧ (2 : Nat) = (2 : Nat) ∧ (0 : Nat) = (0 : Nat) ∧ fl = fl ∧ fc = fc)
    (.chk (IntKind.i64 = IntKind.i64 ∧ (↑i : Int) = (↑(↑i : Int).toNat : Int))
    (.chk (L = L ∧ O = O)
    (.chk (nl = nl ∧ (1 : Nat) = (1 : Nat) ∧ (0 : Nat) = (0 : Nat) ∧ ln = ln ∧ lc = lc)
    (.chk (IntKind.i64 = IntKind.i64 ∧ sk = sk)
    (.chk (bn = bn ∧ [IntKind.u8] = [IntKind.u8] ∧ X = X ∧ bc = bc)
    (.chk (an = an ∧ [IntKind.u8] = [IntKind.u8] ∧ Y = Y ∧ ac = ac)
    (.chk (fn = fn ∧ fs = fs ∧ fc = fc)
    (.leaf (.inr (.inl ⟨fs, fl, fn, fc, (↑i : Int).toNat, sk⟩))))))))))))
    (.chk (an = an ∧ (1 : Nat) = (1 : Nat) ∧ (0 : Nat) = (0 : Nat) ∧ m = m ∧ ac = ac)
    (.chk (fn = fn ∧ (2 : Nat) = (2 : Nat) ∧ (0 : Nat) = (0 : Nat) ∧ fl = fl ∧ fc = fc)
    (.chk (IntKind.i64 = IntKind.i64 ∧
  IntKind.i64.wrap ((↑i : Int) + (1 : Int)) = (↑(IntKind.i64.wrap ((↑i : Int) + (1 : Int))).toNat : Int))
    (.chk (L = L ∧ O = O)
    (.chk (nl = nl ∧ (1 : Nat) = (1 : Nat) ∧ (0 : Nat) = (0 : Nat) ∧ ln = ln ∧ lc = lc)
    (.chk (IntKind.i64 = IntKind.i64 ∧ IntKind.i64.wrap (sk + (1 : Int)) = IntKind.i64.wrap (sk + (1 : Int)))
    (.chk (bn = bn ∧ [IntKind.u8] = [IntKind.u8] ∧ X = X ∧ bc = bc)
    (.chk (an = an ∧ [IntKind.u8] = [IntKind.u8] ∧ Y = Y ∧ ac = ac)
    (.chk (fn = fn ∧ fs = fs ∧ fc = fc)
    (.leaf (.inl ⟨fs, fl, fn, fc, (IntKind.i64.wrap ((↑i : Int) + (1 : Int))).toNat, IntKind.i64.wrap (sk + (1 : Int))⟩))))))))))))
   (.all fun x : RowR
  (whN
    (sym.cutL Y (sym.cutO (0 : Nat) ac (↑i : Int).toNat)
      (sym.cutO (0 : Nat) ac (↑i : Int).toNat + (m - (↑i : Int).toNat)) (1 : Nat))) =>
    (.br (okF
  (sym.cutL Y (sym.cutO (0 : Nat) ac (↑i : Int).toNat)
    (sym.cutO (0 : Nat) ac (↑i : Int).toNat + (m - (↑i : Int).toNat)) (1 : Nat)))
     (.chk (x.nl = x.nl ∧
  (0 : Nat) +
      whN
        (sym.cutL Y (sym.cutO (0 : Nat) ac (↑i : Int).toNat)
          (sym.cutO (0 : Nat) ac (↑i : Int).toNat + (m - (↑i : Int).toNat)) (1 : Nat)) ≤
    (List.take
        (whN
          (sym.cutL Y (sym.cutO (0 : Nat) ac (↑i : Int).toNat)
            (sym.cutO (0 : Nat) ac (↑i : Int).toNat + (m - (↑i : Int).toNat)) (1 : Nat)))
        (List.drop (3 : Nat)
          (sym.cutL Y (sym.cutO (0 : Nat) ac (↑i : Int).toNat)
            (sym.cutO (0 : Nat) ac (↑i : Int).toNat + (m - (↑i : Int).toNat))
            (1 : Nat)))).length)
     (.all fun x_1 : sym.FrOf
  ((sym.cutL Y (sym.cutO (0 : Nat) ac (↑i : Int).toNat)
        (sym.cutO (0 : Nat) ac (↑i : Int).toNat + (m - (↑i : Int).toNat)) (1 : Nat)).getD
    (1 : Nat) (0 : Int))
  (sym.cutL
    (List.take
      (whN
        (sym.cutL Y (sym.cutO (0 : Nat) ac (↑i : Int).toNat)
          (sym.cutO (0 : Nat) ac (↑i : Int).toNat + (m - (↑i : Int).toNat)) (1 : Nat)))
      (List.drop (3 : Nat)
        (sym.cutL Y (sym.cutO (0 : Nat) ac (↑i : Int).toNat)
          (sym.cutO (0 : Nat) ac (↑i : Int).toNat + (m - (↑i : Int).toNat)) (1 : Nat))))
    (0 : Nat)
    ((0 : Nat) +
      whN
        (sym.cutL Y (sym.cutO (0 : Nat) ac (↑i : Int).toNat)
          (sym.cutO (0 : Nat) ac (↑i : Int).toNat + (m - (↑i : Int).toNat)) (1 : Nat)))
    (1 : Nat)) =>
      (.chk ((fn = fn ∧
    (0 : Nat) = (0 : Nat) ∧ fc = fc ∧ fl ≤ fs.length ∧ fl ≤ fc ∧ fc ≤ Go.maxLen ∧ (fn = true → fc = (0 : Nat))) ∧
  (fl + [x_1.val].length) * (32 : Nat) ≤ (140737488355328 : Nat))
      (.all fun x_2 : sym.Grown fn [x_1.val].length (fl + [x_1.val].length) =>
       (.chk (an = an ∧ (1 : Nat) = (1 : Nat) ∧ (0 : Nat) = (0 : Nat) ∧ m = m ∧ ac = ac)
       (.chk (x_2.nl' = x_2.nl' ∧
  (2 : Nat) = (2 : Nat) ∧ (0 : Nat) = (0 : Nat) ∧ fl + [x_1.val].length = fl + [x_1.val].length ∧ x_2.cap = x_2.cap)
       (.chk (IntKind.i64 = IntKind.i64 ∧
  IntKind.i64.wrap
      ((↑i : Int) +
        IntKind.i64.wrap
          (IntKind.i64.wrap
              ((3 : Int) +
                (↑(whN
                      (sym.cutL Y
                        (sym.cutO (0 : Nat) ac (↑i : Int).toNat)
                        (sym.cutO (0 : Nat) ac (↑i : Int).toNat + (m - (↑i : Int).toNat))
                        (1 : Nat))) :
                  Int)) +
            (2 : Int))) =
    (↑(IntKind.i64.wrap
            ((↑i : Int) +
              IntKind.i64.wrap
                (IntKind.i64.wrap
                    ((3 : Int) +
                      (↑(whN
                            (sym.cutL Y
                              (sym.cutO (0 : Nat) ac (↑i : Int).toNat)
                              (sym.cutO (0 : Nat) ac (↑i : Int).toNat +
                                (m - (↑i : Int).toNat))
                              (1 : Nat))) :
                        Int)) +
                  (2 : Int)))).toNat :
      Int))
       (.chk (L = L ∧ O = O)
       (.chk (nl = nl ∧ (1 : Nat) = (1 : Nat) ∧ (0 : Nat) = (0 : Nat) ∧ ln = ln ∧ lc = lc)
       (.chk (IntKind.i64 = IntKind.i64 ∧ sk = sk)
       (.chk (bn = bn ∧ [IntKind.u8] = [IntKind.u8] ∧ X = X ∧ bc = bc)
       (.chk (an = an ∧ [IntKind.u8] = [IntKind.u8] ∧ Y = Y ∧ ac = ac)
       (.chk (x_2.nl' = x_2.nl' ∧ List.take fl fs ++ [x_1.val] = List.take fl fs ++ [x_1.val] ∧ x_2.cap = x_2.cap)
       (.leaf (.inl ⟨List.take fl fs ++ [x_1.val], fl + [x_1.val].length, x_2.nl', x_2.cap, (IntKind.i64.wrap
    ((↑i : Int) +
      IntKind.i64.wrap
        (IntKind.i64.wrap
            ((3 : Int) +
              (↑(whN
                    (sym.cutL Y
                      (sym.cutO (0 : Nat) ac (↑i : Int).toNat)
                      (sym.cutO (0 : Nat) ac (↑i : Int).toNat + (m - (↑i : Int).toNat))
                      (1 : Nat))) :
                Int)) +
          (2 : Int)))).toNat, sk⟩)))))))))))))))
     (.chk (an = an ∧ (1 : Nat) = (1 : Nat) ∧ (0 : Nat) = (0 : Nat) ∧ m = m ∧ ac = ac)
     (.chk (fn = fn ∧ (2 : Nat) = (2 : Nat) ∧ (0 : Nat) = (0 : Nat) ∧ fl = fl ∧ fc = fc)
     (.chk (IntKind.i64 = IntKind.i64 ∧
  IntKind.i64.wrap ((↑i : Int) + (1 : Int)) = (↑(IntKind.i64.wrap ((↑i : Int) + (1 : Int))).toNat : Int))
     (.chk (L = L ∧ O = O)
     (.chk (nl = nl ∧ (1 : Nat) = (1 : Nat) ∧ (0 : Nat) = (0 : Nat) ∧ ln = ln ∧ lc = lc)
     (.chk (IntKind.i64 = IntKind.i64 ∧ IntKind.i64.wrap (sk + (1 : Int)) = IntKind.i64.wrap (sk + (1 : Int)))
     (.chk (bn = bn ∧ [IntKind.u8] = [IntKind.u8] ∧ X = X ∧ bc = bc)
     (.chk (an = an ∧ [IntKind.u8] = [IntKind.u8] ∧ Y = Y ∧ ac = ac)
     (.chk (fn = fn ∧ fs = fs ∧ fc = fc)
     (.leaf (.inl ⟨fs, fl, fn, fc, (IntKind.i64.wrap ((↑i : Int) + (1 : Int))).toNat, IntKind.i64.wrap (sk + (1 : Int))⟩)))))))))))))))))
  (.chk (an = an ∧ (1 : Nat) = (1 : Nat) ∧ (0 : Nat) = (0 : Nat) ∧ m = m ∧ ac = ac)
  (.chk (fn = fn ∧ (2 : Nat) = (2 : Nat) ∧ (0 : Nat) = (0 : Nat) ∧ fl = fl ∧ fc = fc)
  (.chk (IntKind.i64 = IntKind.i64 ∧
  IntKind.i64.wrap ((↑i : Int) + (1 : Int)) = (↑(IntKind.i64.wrap ((↑i : Int) + (1 : Int))).toNat : Int))
  (.chk (L = L ∧ O = O)
  (.chk (nl = nl ∧ (1 : Nat) = (1 : Nat) ∧ (0 : Nat) = (0 : Nat) ∧ ln = ln ∧ lc = lc)
  (.chk (IntKind.i64 = IntKind.i64 ∧ IntKind.i64.wrap (sk + (1 : Int)) = IntKind.i64.wrap (sk + (1 : Int)))
  (.chk (bn = bn ∧ [IntKind.u8] = [IntKind.u8] ∧ X = X ∧ bc = bc)
  (.chk (an = an ∧ [IntKind.u8] = [IntKind.u8] ∧ Y = Y ∧ ac = ac)
  (.chk (fn = fn ∧ fs = fs ∧ fc = fc)
  (.leaf (.inl ⟨fs, fl, fn, fc, (IntKind.i64.wrap ((↑i : Int) + (1 : Int))).toNat, IntKind.i64.wrap (sk + (1 : Int))⟩))))))))))))))
 (.chk (an = an ∧ (1 : Nat) = (1 : Nat) ∧ (0 : Nat) = (0 : Nat) ∧ m = m ∧ ac = ac)
 (.chk (fn = fn ∧ (2 : Nat) = (2 : Nat) ∧ (0 : Nat) = (0 : Nat) ∧ fl = fl ∧ fc = fc)
 (.chk (IntKind.i64 = IntKind.i64 ∧ (↑i : Int) = (↑(↑i : Int).toNat : Int))
 (.chk (L = L ∧ O = O)
 (.chk (nl = nl ∧ (1 : Nat) = (1 : Nat) ∧ (0 : Nat) = (0 : Nat) ∧ ln = ln ∧ lc = lc)
 (.chk (IntKind.i64 = IntKind.i64 ∧ sk = sk)
 (.chk (bn = bn ∧ [IntKind.u8] = [IntKind.u8] ∧ X = X ∧ bc = bc)
 (.chk (an = an ∧ [IntKind.u8] = [IntKind.u8] ∧ Y = Y ∧ ac = ac)
 (.chk (fn = fn ∧ fs = fs ∧ fc = fc)
 (.leaf (.inr (.inl ⟨fs, fl, fn, fc, (↑i : Int).toNat, sk⟩))))))))))))) := by kernel_rfl
def fhMu (L : Nat → Option Obj) (O : Nat → Bool) (bn : Bool) (X : List Int) (bc : Nat) (nl : Bool) (ln lc : Nat) (p : fhP) (x : fhX) : Nat := p.m - x.i
set_option maxHeartbeats 1000000 in
theorem fh_step (w : World) (L : Nat → Option Obj) (O : Nat → Bool) (bn : Bool) (X : List Int) (bc : Nat) (nl : Bool) (ln lc : Nat) (p : fhP) (x : fhX)  (h : fhInv L O bn X bc nl ln lc p x) : Hid (roundT Try.prog w (flatT Try.prog) (noCtr) (callT Try.prog w (flatT Try.prog) (noCtr) (preOr (preOf w tab2) (fpreOf [concatC w])) (noLoop) 20) ((noLoop) 18) (roundOf (bodyAt Try.prog 18 0)) 0 6 fhRo fhRf fhRb (fhSt L O bn X bc nl ln lc p) (fhFin L O bn X bc nl ln lc p) (fhBck L O bn X bc nl ln lc p) fhNxX fhNxX fhNxZ x) (Kept (fhInv L O bn X bc nl ln lc p) (fhPost L O bn X bc nl ln lc p) (fhBack L O bn X bc nl ln lc p) (fhMu L O bn X bc nl ln lc p) x) := by
  obtain ⟨Y, m, an, ac, sk0⟩ := p
  obtain ⟨fs, fl, fn, fc, i, sk⟩ := x
  constructor
  rw [fhstep_tree]
  simp only [T.holds, Kept, fhMu, and_self, true_and, and_true]
  obtain ⟨hB, ⟨hm, hm2, hac, han⟩, hs, i1, fl1, fd, fnil, fi, ks, e1, e2, e3⟩ := h
  simp only at hB hm hm2 hac han hs i1 fl1 fd fnil fi ks e1 e2 e3
  have hpl := pj_length fs
  subst fl1
  have htk : fs.take fs.length = fs := List.take_of_length_le (Nat.le_refl _)
  have w1 : IntKind.i64.wrap ((i : Int) + 1) = ((i + 1 : Nat) : Int) := by rw [wi64 _ (by omega) (by omega)]; omega
  refine ⟨fun hlt => ?_, fun hge => ?_⟩
  · have hlt : i < m := by have := of_decide_eq_true hlt; omega
    have hanf : an = false := by
      cases an with
      | false => rfl
      | true => have := han rfl; omega
    have ws : IntKind.i64.wrap (sk + 1) = sk + 1 := wi64 _ (by omega) (by omega)
    have hco : sym.cutO 0 ac i = i := by
      rw [sym.cutO_eq, if_neg (by omega), Nat.zero_add]
    have hcut : sym.cutL Y i (i + (m - i)) 1 = Y.drop i := by
      rw [show i + (m - i) = Y.length by omega]
      exact cut_all Y i
    have hd1 : (Y.drop i).drop 1 = Y.drop (i + 1) := by rw [List.drop_drop]
    have hdl : (Y.drop i).length = m - i := by rw [List.length_drop]; omega
    have hne : Y.drop i ≠ [] := fun e => by rw [e] at hdl; simp at hdl; omega
    have hg0 : (Y.drop i).getD 0 0 = Y.getD i 0 := by rw [getD_drop, Nat.add_zero]
    have hBd : Bs (Y.drop i) := hB.drop i
    simp only [w1, ws, Int.toNat_natCast, hco, hcut, Nat.zero_add, Nat.mul_one, Nat.add_zero, htk, List.length_singleton, true_and, and_true]
    -- passed over
    have skip : atL (Y.drop i) = 0 → fhInv L O bn X bc nl ln lc ⟨Y, m, an, ac, sk0⟩ ⟨fs, fs.length, fn, fc, i + 1, sk + 1⟩ ∧ m - (i + 1) < m - i := fun h0 => by
      have hsc := scan_0 hne h0
      rw [hd1] at hsc
      refine ⟨⟨hB, ⟨hm, hm2, hac, han⟩, hs, by show i + 1 ≤ m; omega, rfl, fd, fnil, by show fs.length ≤ i + 1; omega, by show sk0 ≤ sk + 1 ∧ sk + 1 ≤ sk0 + ((i + 1 : Nat) : Int); omega, ?_, ?_, ?_⟩, by omega⟩
      · show pj fs ++ (scanL (Y.drop (i + 1))).1 = _
        rw [hsc] at e1; exact e1
      · show sk + 1 + ((scanL (Y.drop (i + 1))).2.1 : Nat) = sk0 + ((scanL Y).2.1 : Nat)
        rw [hsc] at e2
        simp only at e2
        omega
      · show (scanL (Y.drop (i + 1))).2.2 = _
        rw [hsc] at e3; exact e3
    refine ⟨⟨hanf, by omega, by omega⟩, ⟨hanf, by omega⟩, fun h165 => ?_, fun hno => skip ?_⟩
    · have h165 : Y.getD i 0 = 165 := by simpa using h165
      have hat : atL (Y.drop i) = whL (Y.drop i) := by
        unfold atL
        rw [hg0, if_pos h165]
      refine ⟨⟨by omega, by omega, by omega⟩, ⟨by omega, by omega⟩, ⟨by omega, hBd⟩, fun hbr => ?_, fun hbr g => ?_⟩
      · have hbr := of_decide_eq_true hbr
        rw [← hdl] at hbr
        have hwh := wh_br hbr
        refine ⟨fun h2 => ?_, fun h2 => skip ?_⟩
        · have h2 : whL (Y.drop i) = 2 := by simpa using h2
          have hsc := scan_2 (hat.trans h2)
          rw [hsc] at e1 e2 e3
          refine ⟨i1, rfl, fd, fnil, ?_, ?_, ?_⟩
          · show pj fs = _
            simpa using e1
          · show sk = _
            simpa using e2
          · exact e3
        · have h2 : whL (Y.drop i) ≠ 2 := by simpa using h2
          omega
      · have hbr := of_decide_eq_false hbr
        rw [← hdl] at hbr
        have hwok := wh_ok hbr
        refine ⟨fun hok => ?_, fun hok => skip ?_⟩
        · have h1 : atL (Y.drop i) = 1 := by rw [hat, hwok, if_pos hok]
          have hsc := scan_1 hne h1
          generalize hN : whN (Y.drop i) = Nn at *
          have hbl : ((Y.drop i).drop 3).length = m - i - 3 := by rw [List.length_drop, hdl]
          have hbt : (((Y.drop i).drop 3).take Nn).length = Nn := by rw [List.length_take, hbl]; omega
          have hcb : sym.cutL (((Y.drop i).drop 3).take Nn) 0 Nn 1 = ((Y.drop i).drop 3).take Nn := by rw [cut0, List.take_of_length_le (by omega)]
          have q1 : IntKind.i64.wrap ((3 : Int) + (Nn : Int)) = ((Nn + 3 : Nat) : Int) := by rw [wi64 _ (by omega) (by omega)]; omega
          have q2 : IntKind.i64.wrap (((Nn + 3 : Nat) : Int) + 2) = ((Nn + 5 : Nat) : Int) := by rw [wi64 _ (by omega) (by omega)]; omega
          have q3 : IntKind.i64.wrap ((i : Int) + ((Nn + 5 : Nat) : Int)) = ((i + (Nn + 5) : Nat) : Int) := by rw [wi64 _ (by omega) (by omega)]; omega
          simp only [q1, q2, q3, Int.toNat_natCast, true_and, and_true]
          refine ⟨by omega, fun f => ⟨⟨⟨by omega, fd.1, fd.2, fun h => (fnil h).2⟩, by omega⟩, fun gr => ⟨?_, by omega⟩⟩⟩
          obtain ⟨f1, f2⟩ := f.2
          simp only [hco, hcut, hN, Nat.zero_add, hcb] at f1 f2
          have hpf : pj [f.1] = [frOfL (Y.drop i)] := by
            show [(f.1.s, f.1.xs)] = _
            rw [f1, f2]
            unfold frOfL
            rw [hN]
          refine ⟨hB, ⟨hm, hm2, hac, han⟩, hs, by show i + (Nn + 5) ≤ m; omega, by show fs.length + 1 = (fs ++ [f.1]).length; simp, ⟨gr.le, gr.max⟩, (rowR gr).nil, by show fs.length + 1 ≤ i + (Nn + 5); omega, by show sk0 ≤ sk ∧ sk ≤ sk0 + ((i + (Nn + 5) : Nat) : Int); omega, ?_, ?_, ?_⟩
          · show pj (fs ++ [f.1]) ++ (scanL (Y.drop (i + (Nn + 5)))).1 = _
            rw [pj_append, hpf, List.append_assoc, ← List.drop_drop]
            rw [hsc] at e1
            exact e1
          · show sk + ((scanL (Y.drop (i + (Nn + 5)))).2.1 : Nat) = _
            rw [← List.drop_drop]
            rw [hsc] at e2
            exact e2
          · show (scanL (Y.drop (i + (Nn + 5)))).2.2 = _
            rw [← List.drop_drop]
            rw [hsc] at e3
            exact e3
        · rw [hat, hwok, if_neg (by rw [hok]; decide)]
    · have hno : Y.getD i 0 ≠ 165 := by simpa using hno
      unfold atL
      rw [hg0, if_neg hno]
  · have hge : ¬ (i : Int) < (m : Int) := of_decide_eq_false hge
    have hd : Y.drop i = [] := List.drop_of_length_le (by omega)
    rw [hd, scan_nil] at e1 e2 e3
    simp only [Int.toNat_natCast, true_and, and_true]
    refine ⟨i1, rfl, fd, fnil, ?_, ?_, ?_⟩
    · show pj fs = _
      simpa using e1
    · show sk = _
      simpa using e2
    · show Y.drop i = _
      rw [hd]; exact e3
theorem fhLp_ok (w : World) (L : Nat → Option Obj) (O : Nat → Bool) (bn : Bool) (X : List Int) (bc : Nat) (nl : Bool) (ln lc : Nat)  : (fhLp L O bn X bc nl ln lc).ok Try.prog w := by
  intro s t h
  unfold fhLp at h
  simp only at h
  split at h
  · rename_i p _
    split at h
    · rename_i x _
      cases h
      exact loop_ok base2 (ctrs_none _ w) (callT_ok base2.mixed base2.names base2.eqs (ctrs_none _ w).ok (ctrs_none _ w).there (pre3_ok w) (loops_none _ _) 20) ((loops_none _ _) 18) (c := roundOf (bodyAt Try.prog 18 0)) (by kernel_rfl) (id := 0) (n := 6) (hr := false) (ro := fhRo) (rf := fhRf) (rr := fhRb) (st := fhSt L O bn X bc nl ln lc p) (fin := fhFin L O bn X bc nl ln lc p) (bck := fhBck L O bn X bc nl ln lc p) (inv := fhInv L O bn X bc nl ln lc p) (post := fhPost L O bn X bc nl ln lc p) (back := fhBack L O bn X bc nl ln lc p) (nx := fhNxX) (fx := fhNxX) (bx := fhNxZ) (fhMu L O bn X bc nl ln lc p) (nf := 7) (nf' := 7) (nf'' := 7) (fun x => by kernel_rfl) (fun y => by kernel_rfl) (fun z => nomatch z) (.inr fun z => nomatch z) (fun x hx => fh_step w L O bn X bc nl ln lc p x  hx) s x
    · cases h
  · cases h
end Go.Proofs.Ytmenafkmkcodlaa
