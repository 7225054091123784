/-
  Contracts of frames that are told of another type, of the document's scan, of frames that are alike. Rows have at most 2000000 bytes.
-/
import Derived.Test.YtmenafkmkcodlaaR5
namespace Go.Proofs.Ytmenafkmkcodlaa
open Go.RowKit sym
set_option linter.unusedVariables false
set_option linter.unusedSimpArgs false
set_option maxRecDepth 100000
/-- Frames of one's own. -/
structure FrsR (F : List (Int × List Int)) where
  fs : List Fr
  fn : Bool
  fc : Nat
  eq : pj fs = F
  fd : fs.length ≤ fc ∧ fc ≤ maxLen
  fnil : fn = true → fs.length = 0 ∧ fc = 0
def frsV {F : List (Int × List Int)} (r : FrsR F) (i : Nat) : V := .one (.gs i r.fn 2 0 r.fs.length r.fc)
def frsB {F : List (Int × List Int)} (r : FrsR F) : Blk := ⟨[.frs r.fn r.fs r.fc], 24⟩
def framesC : FCtr := ⟨21, fun args h => match args, h with
  | [.v (.one (.gs 1 an 2 0 al ac))], [⟨[.frs an' fa ad], 29⟩] => some (.chk (an' = an ∧ al = fa.length ∧ (an = true → al = 0) ∧ al ≤ 4000000) (.all fun r : FrsR (pj fa) => .leaf (.v (frsV r 2), [⟨[.frs an' fa ad], 29⟩, frsB r])))
  | _, _ => none⟩
def rscanC (w0 : World) : FCtr := ⟨20, fun args h => match args, h with
  | [.v (.one (.xr A [.u8] X n cap))], [] => some (.chk (XR w0 A [.u8] X n ∧ n ≤ cap ∧ n ≤ 2000000 ∧ Bs X) (.all fun r : FrsR (scanL X).1 => .leaf (.tuple [frsV r 1, .one (.int false .i64 ((scanL X).2.1 : Nat)), .one (.int false .i64 ((scanL X).2.2.length : Nat))], [frsB r])))
  | _, _ => none⟩
def sameFC : FCtr := ⟨16, fun args h => match args, h with
  | [.v (.one (.gs 1 an 2 ao al ac)), .v (.one (.gs 2 bn 2 bo bl bc))], [⟨[.frs an' fa ad], 24⟩, ⟨[.frs bn' fb bd], 24⟩] => some (.chk (an' = an ∧ bn' = bn ∧ ao + al ≤ fa.length ∧ bo + bl ≤ fb.length ∧ (an = true → al = 0) ∧ (bn = true → bl = 0) ∧ al ≤ 4000000 ∧ (∀ f ∈ fa, f.xs.length ≤ 1000000)) (.leaf (.v (.one (.bool false (decide (pj ((fa.drop ao).take al) = pj ((fb.drop bo).take bl))))), [⟨[.frs an' fa ad], 24⟩, ⟨[.frs bn' fb bd], 24⟩])))
  | _, _ => none⟩
structure faP where
structure faX where
  fs : List Fr
  fl : Nat
  fn : Bool
  fc : Nat
  i : Nat
def faSt (L : Nat → Option Obj) (O : Nat → Bool) (an : Bool) (al ac ad : Nat) (fa : List Fr) : faP → faX → ASt := fun ⟨⟩ ⟨fs, fl, fn, fc, i⟩ => ⟨slots (List.replicate 19 .any) [(0, .v (.one (.gs 1 an 2 0 al ac))), (2, .v (.one .nos)), (3, .v (.one (.gs 2 fn 2 0 fl fc))), (5, .v (.one (.gs 1 an 2 0 al ac))), (6, .v (.one (.int false .i64 (al : Int)))), (7, .v (.one (.int false .i64 (i : Int))))], [⟨[.keep L O], 0⟩, ⟨[.frs an fa ad], 29⟩, ⟨[.frs fn fs fc], 24⟩]⟩
def faFin (L : Nat → Option Obj) (O : Nat → Bool) (an : Bool) (al ac ad : Nat) (fa : List Fr) : faP → faX → ASt := fun ⟨⟩ ⟨fs, fl, fn, fc, i⟩ => ⟨slots (List.replicate 19 .any) [(0, .v (.one (.gs 1 an 2 0 al ac))), (2, .v (.one .nos)), (3, .v (.one (.gs 2 fn 2 0 fl fc))), (5, .v (.one (.gs 1 an 2 0 al ac))), (6, .v (.one (.int false .i64 (al : Int)))), (7, .v (.one (.int false .i64 (i : Int))))], [⟨[.keep L O], 0⟩, ⟨[.frs an fa ad], 29⟩, ⟨[.frs fn fs fc], 24⟩]⟩
def faBck (L : Nat → Option Obj) (O : Nat → Bool) (an : Bool) (al ac ad : Nat) (fa : List Fr) : faP → Empty → ASt := fun _ z => nomatch z
def faNxP : ASt → Option faP := fun s => some ⟨⟩
def faNxX : ASt → Option faX := fun s => match gF s 3 with | none => none | some fs => match gL s 3 with | none => none | some fl => match gN s 3 with | none => none | some fn => match gC s 3 with | none => none | some fc => match (gI s 7).map Int.toNat with | none => none | some i => some ⟨fs, fl, fn, fc, i⟩
def faNxZ : ASt → Option Empty := fun _ => none
def faRo : ASt → List (Option Nat) := (fun s => [sym.rowAt s 3])
def faRf : ASt → List (Option Nat) := (fun s => [sym.rowAt s 3])
def faRb : ASt → List (Option Nat) := (fun s => [sym.rowAt s 3])
structure faInv (L : Nat → Option Obj) (O : Nat → Bool) (an : Bool) (al ac ad : Nat) (fa : List Fr) (p : faP) (x : faX) : Prop where
  i1 : x.i ≤ al
  fl1 : x.fl = x.fs.length
  fd : x.fl ≤ x.fc ∧ x.fc ≤ maxLen
  fnil : x.fn = true → x.fl = 0 ∧ x.fc = 0
  fi : x.fl = x.i
  eq : pj x.fs = pj (fa.take x.i)
structure faPost (L : Nat → Option Obj) (O : Nat → Bool) (an : Bool) (al ac ad : Nat) (fa : List Fr) (p : faP) (x : faX) : Prop where
  fl1 : x.fl = x.fs.length
  fd : x.fl ≤ x.fc ∧ x.fc ≤ maxLen
  fnil : x.fn = true → x.fl = 0 ∧ x.fc = 0
  fi : x.fl = al
  eq : pj x.fs = pj (fa.take al)
def faBack (L : Nat → Option Obj) (O : Nat → Bool) (an : Bool) (al ac ad : Nat) (fa : List Fr) (p : faP) (x : Empty) : Prop := False
def faLp (L : Nat → Option Obj) (O : Nat → Bool) (an : Bool) (al ac ad : Nat) (fa : List Fr) : Lp := ⟨21, 0, fun s => match faNxP s with
  | some p => match faNxX s with
    | some x => some (loopT 0 2 false faRo (faSt L O an al ac ad fa p) (faFin L O an al ac ad fa p) (faBck L O an al ac ad fa p) (faInv L O an al ac ad fa p) (faPost L O an al ac ad fa p) (faBack L O an al ac ad fa p) s x)
    | none => none
  | none => none⟩
theorem fastep_tree (w : World) (L : Nat → Option Obj) (O : Nat → Bool) (an : Bool) (al ac ad : Nat) (fa : List Fr) (fs : List Fr) (fl : Nat) (fn : Bool) (fc : Nat) (i : Nat) :
    roundT Try.prog w (flatT Try.prog) (noCtr) (callT Try.prog w (flatT Try.prog) (noCtr) (preOr (preOf w tab2) (fpreOf [concatC w])) (noLoop) 20) ((noLoop) 21) (roundOf (bodyAt Try.prog 21 0)) 0 2 faRo faRf faRb (faSt L O an al ac ad fa ⟨⟩) (faFin L O an al ac ad fa ⟨⟩) (faBck L O an al ac ad fa ⟨⟩) faNxX faNxX faNxZ ⟨fs, fl, fn, fc, i⟩ =
(.br (decide ((↑i : Int) < (↑al : Int)))
 (.chk (an = false ∧ (0 : Int) ≤ (↑i : Int) ∧ (↑i : Int) < (↑al : Int))
 (.chk (an = false ∧ (0 : Nat) + (↑i : Int).toNat < fa.length)
 (.chk (sym.frAt fa ((0 : Nat) + (↑i : Int).toNat) ∈ fa)
 (.all fun x : sym.FrOf (sym.frAt fa ((0 : Nat) + (↑i : Int).toNat)).s
  (sym.frAt fa ((0 : Nat) + (↑i : Int).toNat)).xs =>
  (.chk ((fn = fn ∧
    (0 : Nat) = (0 : Nat) ∧ fc = fc ∧ fl ≤ fs.length ∧ fl ≤ fc ∧ fc ≤ Go.maxLen ∧ (fn = true → fc = (0 : Nat))) ∧
  (fl + [x.val].length) * (32 : Nat) ≤ (140737488355328 : Nat))
  (.all fun x_1 : sym.Grown fn [x.val].length (fl + [x.val].length) =>
   (.chk (an = an ∧ (2 : Nat) = (2 : Nat) ∧ (0 : Nat) = (0 : Nat) ∧ al = al ∧ ac = ac)
   (.chk (x_1.nl' = x_1.nl' ∧
  (2 : Nat) = (2 : Nat) ∧ (0 : Nat) = (0 : Nat) ∧ fl + [x.val].length = fl + [x.val].length ∧ x_1.cap = x_1.cap)
   (.chk (an = an ∧ (2 : Nat) = (2 : Nat) ∧ (0 : Nat) = (0 : Nat) ∧ al = al ∧ ac = ac)
   (.chk (IntKind.i64 = IntKind.i64 ∧ (↑al : Int) = (↑al : Int))
   (.chk (IntKind.i64 = IntKind.i64 ∧
  IntKind.i64.wrap ((↑i : Int) + (1 : Int)) = (↑(IntKind.i64.wrap ((↑i : Int) + (1 : Int))).toNat : Int))
   (.chk (L = L ∧ O = O)
   (.chk (an = an ∧ fa = fa ∧ ad = ad)
   (.chk (x_1.nl' = x_1.nl' ∧ List.take fl fs ++ [x.val] = List.take fl fs ++ [x.val] ∧ x_1.cap = x_1.cap)
   (.leaf (.inl ⟨List.take fl fs ++ [x.val], fl + [x.val].length, x_1.nl', x_1.cap, (IntKind.i64.wrap ((↑i : Int) + (1 : Int))).toNat⟩))))))))))))))))
 (.chk (an = an ∧ (2 : Nat) = (2 : Nat) ∧ (0 : Nat) = (0 : Nat) ∧ al = al ∧ ac = ac)
 (.chk (fn = fn ∧ (2 : Nat) = (2 : Nat) ∧ (0 : Nat) = (0 : Nat) ∧ fl = fl ∧ fc = fc)
 (.chk (an = an ∧ (2 : Nat) = (2 : Nat) ∧ (0 : Nat) = (0 : Nat) ∧ al = al ∧ ac = ac)
 (.chk (IntKind.i64 = IntKind.i64 ∧ (↑al : Int) = (↑al : Int))
 (.chk (IntKind.i64 = IntKind.i64 ∧ (↑i : Int) = (↑(↑i : Int).toNat : Int))
 (.chk (L = L ∧ O = O)
 (.chk (an = an ∧ fa = fa ∧ ad = ad)
 (.chk (fn = fn ∧ fs = fs ∧ fc = fc)
 (.leaf (.inr (.inl ⟨fs, fl, fn, fc, (↑i : Int).toNat⟩)))))))))))) := by kernel_rfl
theorem frames_tree (w : World) (L : Nat → Option Obj) (O : Nat → Bool) (an : Bool) (al ac ad : Nat) (fa : List Fr) :
    callT Try.prog w (flatT Try.prog) noCtr (preOr (preOf w tab2) (fpreOf [concatC w])) (lpOf Try.prog [faLp L O an al ac ad fa]) 20 21 [.v (.one (.gs 1 an 2 0 al ac))] [⟨[.keep L O], 0⟩, ⟨[.frs an fa ad], 29⟩] =
(.chk (sym.textAt Go.Proofs.Try.prog (21 : Go.FuncId) (0 : Nat) = sym.textAt Go.Proofs.Try.prog (21 : Go.FuncId) (0 : Nat))
(.chk (an = an ∧ (2 : Nat) = (2 : Nat) ∧ (0 : Nat) = (0 : Nat) ∧ al = al ∧ ac = ac)
(.chk (true = true ∧ (0 : Nat) = (0 : Nat) ∧ (0 : Nat) = (0 : Nat))
(.chk (an = an ∧ (2 : Nat) = (2 : Nat) ∧ (0 : Nat) = (0 : Nat) ∧ al = al ∧ ac = ac)
(.chk (IntKind.i64 = IntKind.i64 ∧ (↑al : Int) = (↑al : Int))
(.chk (IntKind.i64 = IntKind.i64 ∧ (0 : Int) = (↑(0 : Nat) : Int))
(.chk (L = L ∧ O = O)
(.chk (an = an ∧ fa = fa ∧ ad = ad)
(.chk (true = true ∧ ([] : List Fr) = [])
(.chk (faInv L O an al ac ad fa { }
  { fs := [], fl := (0 : Nat), fn := true, fc := (0 : Nat), i := (0 : Nat) })
(.all fun x : sym.Got faX
  (faPost L O an al ac ad fa { }) =>
 (.leaf ((.v (.one (.gs 2 (x.1.3) 2 0 (x.1.2) (x.1.4)))), [⟨[(.keep (L) (O))], 0⟩, ⟨[(.frs (an) (fa) (ad))], 29⟩, ⟨[(.frs (x.1.3) (x.1.1) (x.1.4))], 24⟩]))))))))))))) := by kernel_rfl
theorem pj_take (l : List Fr) (n : Nat) : pj (l.take n) = (pj l).take n := List.map_take ..
theorem pj_at {l : List Fr} {i : Nat} (h : i < l.length) : pj (l.take (i + 1)) = pj (l.take i) ++ [((sym.frAt l i).s, (sym.frAt l i).xs)] := by
  rw [List.take_succ_eq_append_getElem h, pj_append]
  congr 1
  unfold sym.frAt
  rw [List.getElem?_eq_getElem h]
  rfl
def faMu (L : Nat → Option Obj) (O : Nat → Bool) (an : Bool) (al ac ad : Nat) (fa : List Fr) (p : faP) (x : faX) : Nat := al - x.i
theorem fa_step (w : World) (L : Nat → Option Obj) (O : Nat → Bool) (an : Bool) (al ac ad : Nat) (fa : List Fr) (p : faP) (x : faX) (hA : al ≤ fa.length) (hn : an = true → al = 0) (hb : al ≤ 4000000) (h : faInv L O an al ac ad fa p x) : Hid (roundT Try.prog w (flatT Try.prog) (noCtr) (callT Try.prog w (flatT Try.prog) (noCtr) (preOr (preOf w tab2) (fpreOf [concatC w])) (noLoop) 20) ((noLoop) 21) (roundOf (bodyAt Try.prog 21 0)) 0 2 faRo faRf faRb (faSt L O an al ac ad fa p) (faFin L O an al ac ad fa p) (faBck L O an al ac ad fa p) faNxX faNxX faNxZ x) (Kept (faInv L O an al ac ad fa p) (faPost L O an al ac ad fa p) (faBack L O an al ac ad fa p) (faMu L O an al ac ad fa p) x) := by
  obtain ⟨⟩ := p
  obtain ⟨fs, fl, fn, fc, i⟩ := x
  constructor
  rw [fastep_tree]
  simp only [T.holds, Kept, faMu, and_self, true_and, and_true]
  obtain ⟨i1, fl1, fd, fnil, fi, eq⟩ := h
  simp only at i1 fl1 fd fnil fi eq
  subst fi
  subst fl1
  have htk : fs.take fs.length = fs := List.take_of_length_le (Nat.le_refl _)
  have w1 : IntKind.i64.wrap ((fs.length : Int) + 1) = ((fs.length + 1 : Nat) : Int) := by rw [wi64 _ (by omega) (by omega)]; omega
  simp only [w1, Int.toNat_natCast, Nat.zero_add, htk, List.length_singleton, true_and, and_true]
  refine ⟨fun hlt => ?_, fun hge => ?_⟩
  · have hlt : fs.length < al := by have := of_decide_eq_true hlt; omega
    have hanf : an = false := by
      cases an with
      | false => rfl
      | true => have := hn rfl; omega
    refine ⟨⟨hanf, by omega, by omega⟩, ⟨hanf, by omega⟩, sym.frAt_mem (by omega), fun f => ⟨⟨⟨Nat.le_refl _, fd.1, fd.2, fun h => (fnil h).2⟩, by omega⟩, fun g => ⟨?_, by omega⟩⟩⟩
    obtain ⟨f1, f2⟩ := f.2
    simp only [Int.toNat_natCast, Nat.zero_add] at f1 f2
    refine ⟨by show fs.length + 1 ≤ al; omega, by show fs.length + 1 = (fs ++ [f.1]).length; simp, ⟨g.le, g.max⟩, (rowR g).nil, rfl, ?_⟩
    show pj (fs ++ [f.1]) = pj (fa.take (fs.length + 1))
    rw [pj_append, eq, pj_at (by omega)]
    congr 1
    show [(f.1.s, f.1.xs)] = _
    rw [f1, f2]
  · have hge := of_decide_eq_false hge
    have e : fs.length = al := by omega
    exact ⟨rfl, fd, fnil, e, by rw [← e]; exact eq⟩
theorem faLp_ok (w : World) (L : Nat → Option Obj) (O : Nat → Bool) (an : Bool) (al ac ad : Nat) (fa : List Fr) (hA : al ≤ fa.length) (hn : an = true → al = 0) (hb : al ≤ 4000000) : (faLp L O an al ac ad fa).ok Try.prog w := by
  intro s t h
  unfold faLp at h
  simp only at h
  split at h
  · rename_i p _
    split at h
    · rename_i x _
      cases h
      exact loop_ok base2 (ctrs_none _ w) (callT_ok base2.mixed base2.names base2.eqs (ctrs_none _ w).ok (ctrs_none _ w).there (pre3_ok w) (loops_none _ _) 20) ((loops_none _ _) 21) (c := roundOf (bodyAt Try.prog 21 0)) (by kernel_rfl) (id := 0) (n := 2) (hr := false) (ro := faRo) (rf := faRf) (rr := faRb) (st := faSt L O an al ac ad fa p) (fin := faFin L O an al ac ad fa p) (bck := faBck L O an al ac ad fa p) (inv := faInv L O an al ac ad fa p) (post := faPost L O an al ac ad fa p) (back := faBack L O an al ac ad fa p) (nx := faNxX) (fx := faNxX) (bx := faNxZ) (faMu L O an al ac ad fa p) (nf := 3) (nf' := 3) (nf'' := 3) (fun x => by kernel_rfl) (fun y => by kernel_rfl) (fun z => nomatch z) (.inr fun z => nomatch z) (fun x hx => fa_step w L O an al ac ad fa p x hA hn hb hx) s x
    · cases h
  · cases h
theorem framesC_ok (w0 : World) : framesC.Ok Try.prog w0 := by
  refine fctr_ok base2 (ctrs_none _ _) (pre3_ok w0) (n := 20) fun args h t h0 => ?_
  unfold framesC at h0
  simp only at h0
  split at h0
  · rename_i an al ac an' fa ad
    cases h0
    intro L O K hK
    obtain ⟨⟨rfl, rfl, hn, hb⟩, hK⟩ := hK
    refine ⟨lpOf Try.prog [faLp L O an' fa.length ac ad fa], lps_ok fun l hl => ?_, ?_⟩
    · simp only [List.mem_cons, List.not_mem_nil, or_false] at hl
      subst hl
      exact faLp_ok w0 L O an' fa.length ac ad fa (Nat.le_refl _) hn hb
    show T.holds (callT Try.prog w0 (flatT Try.prog) noCtr (preOr (preOf w0 tab2) (fpreOf [concatC w0])) (lpOf Try.prog [faLp L O an' fa.length ac ad fa]) 20 21 [.v (.one (.gs 1 an' 2 0 fa.length ac))] [⟨[.keep L O], 0⟩, ⟨[.frs an' fa ad], 29⟩]) _
    rw [frames_tree]
    simp only [T.holds, true_and, and_true, and_self]
    refine ⟨rfl, ⟨Nat.zero_le _, rfl, ⟨Nat.le_refl _, by show 0 ≤ maxLen; decide⟩, fun _ => ⟨rfl, rfl⟩, rfl, rfl⟩, fun y => ?_⟩
    have q1 := y.so.fl1
    have q2 := y.so.fd
    have q3 := y.so.fnil
    have q4 := y.so.eq
    generalize y.it = z at *
    obtain ⟨fs, fl, fn, fc, i⟩ := z
    simp only at q1 q2 q3 q4
    subst q1
    rw [List.take_of_length_le (Nat.le_refl _)] at q4
    refine ⟨_, _, hK ⟨fs, fn, fc, q4, q2, q3⟩, as_end [some 2] ?_ (by kernel_rfl) (fun h => by cases h)⟩
    repeat' (first | exact trivial | exact rfl | (refine And.intro ?_ ?_))
  · cases h0
structure scP where
structure scX where
  fs : List Fr
  fl : Nat
  fn : Bool
  fc : Nat
  sk : Nat
  i : Nat
structure scZ where
  fs : List Fr
  fl : Nat
  fn : Bool
  fc : Nat
  sk : Nat
  wt : Nat
def scSt (L : Nat → Option Obj) (O : Nat → Bool) (A : Option Addr) (X : List Int) (n cap : Nat) : scP → scX → ASt := fun ⟨⟩ ⟨fs, fl, fn, fc, sk, i⟩ => ⟨slots (List.replicate 63 .any) [(0, .v (.one (.xr A [.u8] X n cap))), (2, .v (.one .nos)), (3, .v (.one (.int true .i64 0))), (4, .v (.one (.int true .i64 0))), (5, .v (.one (.gs 1 fn 2 0 fl fc))), (6, .v (.one (.int false .i64 (sk : Int)))), (7, .v (.one (.int false .i64 (i : Int))))], [⟨[.keep L O], 0⟩, ⟨[.frs fn fs fc], 24⟩]⟩
def scFin (L : Nat → Option Obj) (O : Nat → Bool) (A : Option Addr) (X : List Int) (n cap : Nat) : scP → scX → ASt := fun ⟨⟩ ⟨fs, fl, fn, fc, sk, i⟩ => ⟨slots (List.replicate 63 .any) [(0, .v (.one (.xr A [.u8] X n cap))), (2, .v (.one .nos)), (3, .v (.one (.int true .i64 0))), (4, .v (.one (.int true .i64 0))), (5, .v (.one (.gs 1 fn 2 0 fl fc))), (6, .v (.one (.int false .i64 (sk : Int)))), (7, .v (.one (.int false .i64 (i : Int))))], [⟨[.keep L O], 0⟩, ⟨[.frs fn fs fc], 24⟩]⟩
def scBck (L : Nat → Option Obj) (O : Nat → Bool) (A : Option Addr) (X : List Int) (n cap : Nat) : scP → scZ → ASt := fun ⟨⟩ ⟨fs, fl, fn, fc, sk, wt⟩ => ⟨slots (List.replicate 63 .any) [(2, .v (.one (.gs 1 fn 2 0 fl fc))), (3, .v (.one (.int false .i64 (sk : Int)))), (4, .v (.one (.int false .i64 (wt : Int))))], [⟨[.keep L O], 0⟩, ⟨[.frs fn fs fc], 24⟩]⟩
def scNxP : ASt → Option scP := fun s => some ⟨⟩
def scNxX : ASt → Option scX := fun s => match gF s 5 with | none => none | some fs => match gL s 5 with | none => none | some fl => match gN s 5 with | none => none | some fn => match gC s 5 with | none => none | some fc => match (gI s 6).map Int.toNat with | none => none | some sk => match (gI s 7).map Int.toNat with | none => none | some i => some ⟨fs, fl, fn, fc, sk, i⟩
def scNxZ : ASt → Option scZ := fun s => match gF s 2 with | none => none | some fs => match gL s 2 with | none => none | some fl => match gN s 2 with | none => none | some fn => match gC s 2 with | none => none | some fc => match (gI s 3).map Int.toNat with | none => none | some sk => match (gI s 4).map Int.toNat with | none => none | some wt => some ⟨fs, fl, fn, fc, sk, wt⟩
def scRo : ASt → List (Option Nat) := (fun s => [sym.rowAt s 5])
def scRf : ASt → List (Option Nat) := (fun s => [sym.rowAt s 5])
def scRb : ASt → List (Option Nat) := (fun s => [sym.rowAt s 2])
structure scInv (L : Nat → Option Obj) (O : Nat → Bool) (A : Option Addr) (X : List Int) (n cap : Nat) (p : scP) (x : scX) : Prop where
  i1 : x.i ≤ n
  big : n ≤ 2000000
  hB : Bs X
  fl1 : x.fl = x.fs.length
  fd : x.fl ≤ x.fc ∧ x.fc ≤ maxLen
  fnil : x.fn = true → x.fl = 0 ∧ x.fc = 0
  fi : x.fl ≤ x.i
  ks : x.sk ≤ x.i
  e1 : pj x.fs ++ (scanL (X.drop x.i)).1 = (scanL X).1
  e2 : x.sk + (scanL (X.drop x.i)).2.1 = (scanL X).2.1
  e3 : (scanL (X.drop x.i)).2.2 = (scanL X).2.2
structure scPost (L : Nat → Option Obj) (O : Nat → Bool) (A : Option Addr) (X : List Int) (n cap : Nat) (p : scP) (x : scX) : Prop where
  fl1 : x.fl = x.fs.length
  fd : x.fl ≤ x.fc ∧ x.fc ≤ maxLen
  fnil : x.fn = true → x.fl = 0 ∧ x.fc = 0
  e1 : pj x.fs = (scanL X).1
  e2 : x.sk = (scanL X).2.1
  e3 : (scanL X).2.2 = []
structure scBack (L : Nat → Option Obj) (O : Nat → Bool) (A : Option Addr) (X : List Int) (n cap : Nat) (p : scP) (x : scZ) : Prop where
  fl1 : x.fl = x.fs.length
  fd : x.fl ≤ x.fc ∧ x.fc ≤ maxLen
  fnil : x.fn = true → x.fl = 0 ∧ x.fc = 0
  e1 : pj x.fs = (scanL X).1
  e2 : x.sk = (scanL X).2.1
  e3 : x.wt = (scanL X).2.2.length
def scLp (L : Nat → Option Obj) (O : Nat → Bool) (A : Option Addr) (X : List Int) (n cap : Nat) : Lp := ⟨20, 0, fun s => match scNxP s with
  | some p => match scNxX s with
    | some x => some (loopT 0 1 true scRo (scSt L O A X n cap p) (scFin L O A X n cap p) (scBck L O A X n cap p) (scInv L O A X n cap p) (scPost L O A X n cap p) (scBack L O A X n cap p) s x)
    | none => none
  | none => none⟩
theorem scstep_tree (w : World) (L : Nat → Option Obj) (O : Nat → Bool) (A : Option Addr) (X : List Int) (n cap : Nat) (fs : List Fr) (fl : Nat) (fn : Bool) (fc : Nat) (sk : Nat) (i : Nat) :
    roundT Try.prog w (flatT Try.prog) (noCtr) (callT Try.prog w (flatT Try.prog) (noCtr) (preOr (preOf w tab2) (fpreOf [concatC w])) (lpOf Try.prog [mixLp 20 10]) 20) ((lpOf Try.prog [mixLp 20 10]) 20) (roundOf (bodyAt Try.prog 20 0)) 0 1 scRo scRf scRb (scSt L O A X n cap ⟨⟩) (scFin L O A X n cap ⟨⟩) (scBck L O A X n cap ⟨⟩) scNxX scNxX scNxZ ⟨fs, fl, fn, fc, sk, i⟩ =
(.br (decide ((↑i : Int) < (↑n : Int)))
 (.chk ((sym.XR w A [IntKind.u8] X n ∧ n ≤ cap) ∧ True)
 (.chk (n ≤ (1000000000 : Nat) ∧ Bs X ∧ (0 : Int) ≤ (↑i : Int) ∧ (↑i : Int) < (↑n : Int))
 (.br ((↑(atL (List.drop (↑i : Int).toNat X)) : Int) == (0 : Int))
  (.chk (A = A ∧ [IntKind.u8] = [IntKind.u8] ∧ X = X ∧ n = n ∧ cap = cap)
  (.chk (IntKind.i64 = IntKind.i64 ∧ (0 : Int) = (0 : Int))
  (.chk (IntKind.i64 = IntKind.i64 ∧ (0 : Int) = (0 : Int))
  (.chk (fn = fn ∧ (2 : Nat) = (2 : Nat) ∧ (0 : Nat) = (0 : Nat) ∧ fl = fl ∧ fc = fc)
  (.chk (IntKind.i64 = IntKind.i64 ∧
  IntKind.i64.wrap ((↑sk : Int) + (1 : Int)) = (↑(IntKind.i64.wrap ((↑sk : Int) + (1 : Int))).toNat : Int))
  (.chk (IntKind.i64 = IntKind.i64 ∧
  IntKind.i64.wrap ((↑i : Int) + (1 : Int)) = (↑(IntKind.i64.wrap ((↑i : Int) + (1 : Int))).toNat : Int))
  (.chk (L = L ∧ O = O)
  (.chk (fn = fn ∧ fs = fs ∧ fc = fc)
  (.leaf (.inl ⟨fs, fl, fn, fc, (IntKind.i64.wrap ((↑sk : Int) + (1 : Int))).toNat, (IntKind.i64.wrap ((↑i : Int) + (1 : Int))).toNat⟩))))))))))
  (.br ((↑(atL (List.drop (↑i : Int).toNat X)) : Int) == (1 : Int))
   (.chk (sym.XR w A [IntKind.u8] X n ∧
  (0 : Int) ≤ IntKind.i64.wrap ((↑i : Int) + (2 : Int)) ∧
    IntKind.i64.wrap ((↑i : Int) + (2 : Int)) < (↑n : Int) ∧ (0 : Nat) < [IntKind.u8].length)
   (.chk (sym.XC w A [IntKind.u8] X ∧
  (0 : Nat) < (1 : Nat) ∧
    (IntKind.i64.wrap ((↑i : Int) + (2 : Int))).toNat * [IntKind.u8].length + (1 : Nat) ≤ X.length)
   (.chk (sym.XR w A [IntKind.u8] X n ∧
  (0 : Int) ≤ IntKind.i64.wrap ((↑i : Int) + (1 : Int)) ∧
    IntKind.i64.wrap ((↑i : Int) + (1 : Int)) < (↑n : Int) ∧ (0 : Nat) < [IntKind.u8].length)
   (.chk ((0 : Int) ≤ IntKind.i64.wrap ((↑i : Int) + (3 : Int)) ∧
  IntKind.i64.wrap ((↑i : Int) + (3 : Int)) ≤
      IntKind.i64.wrap
        (IntKind.i64.wrap ((↑i : Int) + (3 : Int)) +
          IntKind.i64.wrap
            (X.getD ((IntKind.i64.wrap ((↑i : Int) + (2 : Int))).toNat * [IntKind.u8].length + (0 : Nat))
              (0 : Int))) ∧
    IntKind.i64.wrap
          (IntKind.i64.wrap ((↑i : Int) + (3 : Int)) +
            IntKind.i64.wrap
              (X.getD ((IntKind.i64.wrap ((↑i : Int) + (2 : Int))).toNat * [IntKind.u8].length + (0 : Nat))
                (0 : Int))) ≤
        (↑n : Int) ∧
      n ≤ cap)
   (.all fun x : Bool =>
    (.br (x)
     (.chk (sym.XC w A [IntKind.u8] X ∧
  (0 : Nat) < (1 : Nat) ∧
    (IntKind.i64.wrap ((↑i : Int) + (1 : Int))).toNat * [IntKind.u8].length + (1 : Nat) ≤ X.length)
     (.chk ((sym.XR w
      (sym.cutA A cap (IntKind.i64.wrap ((↑i : Int) + (3 : Int))).toNat
        [IntKind.u8].length)
      [IntKind.u8]
      (sym.cutL X (IntKind.i64.wrap ((↑i : Int) + (3 : Int))).toNat
        (IntKind.i64.wrap
            (IntKind.i64.wrap ((↑i : Int) + (3 : Int)) +
              IntKind.i64.wrap
                (X.getD ((IntKind.i64.wrap ((↑i : Int) + (2 : Int))).toNat * [IntKind.u8].length + (0 : Nat))
                  (0 : Int)))).toNat
        [IntKind.u8].length)
      ((IntKind.i64.wrap
            (IntKind.i64.wrap ((↑i : Int) + (3 : Int)) +
              IntKind.i64.wrap
                (X.getD ((IntKind.i64.wrap ((↑i : Int) + (2 : Int))).toNat * [IntKind.u8].length + (0 : Nat))
                  (0 : Int)))).toNat -
        (IntKind.i64.wrap ((↑i : Int) + (3 : Int))).toNat) ∧
    (IntKind.i64.wrap
            (IntKind.i64.wrap ((↑i : Int) + (3 : Int)) +
              IntKind.i64.wrap
                (X.getD ((IntKind.i64.wrap ((↑i : Int) + (2 : Int))).toNat * [IntKind.u8].length + (0 : Nat))
                  (0 : Int)))).toNat -
        (IntKind.i64.wrap ((↑i : Int) + (3 : Int))).toNat ≤
      cap - (IntKind.i64.wrap ((↑i : Int) + (3 : Int))).toNat) ∧
  True ∧
    ((0 : Nat) +
          ((IntKind.i64.wrap
                (IntKind.i64.wrap ((↑i : Int) + (3 : Int)) +
                  IntKind.i64.wrap
                    (X.getD ((IntKind.i64.wrap ((↑i : Int) + (2 : Int))).toNat * [IntKind.u8].length + (0 : Nat))
                      (0 : Int)))).toNat -
            (IntKind.i64.wrap ((↑i : Int) + (3 : Int))).toNat)) *
        (1 : Nat) ≤
      (140737488355328 : Nat))
     (.all fun x_1 : sym.Grown false
  ((IntKind.i64.wrap
        (IntKind.i64.wrap ((↑i : Int) + (3 : Int)) +
          IntKind.i64.wrap
            (X.getD ((IntKind.i64.wrap ((↑i : Int) + (2 : Int))).toNat * [IntKind.u8].length + (0 : Nat))
              (0 : Int)))).toNat -
    (IntKind.i64.wrap ((↑i : Int) + (3 : Int))).toNat)
  ((0 : Nat) +
    ((IntKind.i64.wrap
          (IntKind.i64.wrap ((↑i : Int) + (3 : Int)) +
            IntKind.i64.wrap
              (X.getD ((IntKind.i64.wrap ((↑i : Int) + (2 : Int))).toNat * [IntKind.u8].length + (0 : Nat))
                (0 : Int)))).toNat -
      (IntKind.i64.wrap ((↑i : Int) + (3 : Int))).toNat)) =>
      (.chk (x_1.nl' = x_1.nl' ∧
  (0 : Nat) +
      ((0 : Nat) +
        ((IntKind.i64.wrap
              (IntKind.i64.wrap ((↑i : Int) + (3 : Int)) +
                IntKind.i64.wrap
                  (X.getD ((IntKind.i64.wrap ((↑i : Int) + (2 : Int))).toNat * [IntKind.u8].length + (0 : Nat))
                    (0 : Int)))).toNat -
          (IntKind.i64.wrap ((↑i : Int) + (3 : Int))).toNat)) ≤
    ([] ++
        sym.cutL X (IntKind.i64.wrap ((↑i : Int) + (3 : Int))).toNat
          (IntKind.i64.wrap
              (IntKind.i64.wrap ((↑i : Int) + (3 : Int)) +
                IntKind.i64.wrap
                  (X.getD ((IntKind.i64.wrap ((↑i : Int) + (2 : Int))).toNat * [IntKind.u8].length + (0 : Nat))
                    (0 : Int)))).toNat
          [IntKind.u8].length).length)
      (.all fun x_2 : sym.FrOf
  (X.getD ((IntKind.i64.wrap ((↑i : Int) + (1 : Int))).toNat * [IntKind.u8].length + (0 : Nat)) (0 : Int))
  (sym.cutL
    ([] ++
      sym.cutL X (IntKind.i64.wrap ((↑i : Int) + (3 : Int))).toNat
        (IntKind.i64.wrap
            (IntKind.i64.wrap ((↑i : Int) + (3 : Int)) +
              IntKind.i64.wrap
                (X.getD ((IntKind.i64.wrap ((↑i : Int) + (2 : Int))).toNat * [IntKind.u8].length + (0 : Nat))
                  (0 : Int)))).toNat
        [IntKind.u8].length)
    (0 : Nat)
    ((0 : Nat) +
      ((0 : Nat) +
        ((IntKind.i64.wrap
              (IntKind.i64.wrap ((↑i : Int) + (3 : Int)) +
                IntKind.i64.wrap
                  (X.getD ((IntKind.i64.wrap ((↑i : Int) + (2 : Int))).toNat * [IntKind.u8].length + (0 : Nat))
                    (0 : Int)))).toNat -
          (IntKind.i64.wrap ((↑i : Int) + (3 : Int))).toNat)))
    (1 : Nat)) =>
       (.chk ((fn = fn ∧
    (0 : Nat) = (0 : Nat) ∧ fc = fc ∧ fl ≤ fs.length ∧ fl ≤ fc ∧ fc ≤ Go.maxLen ∧ (fn = true → fc = (0 : Nat))) ∧
  (fl + [x_2.val].length) * (32 : Nat) ≤ (140737488355328 : Nat))
       (.all fun x_3 : sym.Grown fn [x_2.val].length (fl + [x_2.val].length) =>
        (.chk (A = A ∧ [IntKind.u8] = [IntKind.u8] ∧ X = X ∧ n = n ∧ cap = cap)
        (.chk (IntKind.i64 = IntKind.i64 ∧ (0 : Int) = (0 : Int))
        (.chk (IntKind.i64 = IntKind.i64 ∧ (0 : Int) = (0 : Int))
        (.chk (x_3.nl' = x_3.nl' ∧
  (2 : Nat) = (2 : Nat) ∧ (0 : Nat) = (0 : Nat) ∧ fl + [x_2.val].length = fl + [x_2.val].length ∧ x_3.cap = x_3.cap)
        (.chk (IntKind.i64 = IntKind.i64 ∧ (↑sk : Int) = (↑(↑sk : Int).toNat : Int))
        (.chk (IntKind.i64 = IntKind.i64 ∧
  IntKind.i64.wrap
      (IntKind.i64.wrap ((↑i : Int) + (5 : Int)) +
        IntKind.i64.wrap
          (X.getD ((IntKind.i64.wrap ((↑i : Int) + (2 : Int))).toNat * [IntKind.u8].length + (0 : Nat))
            (0 : Int))) =
    (↑(IntKind.i64.wrap
            (IntKind.i64.wrap ((↑i : Int) + (5 : Int)) +
              IntKind.i64.wrap
                (X.getD ((IntKind.i64.wrap ((↑i : Int) + (2 : Int))).toNat * [IntKind.u8].length + (0 : Nat))
                  (0 : Int)))).toNat :
      Int))
        (.chk (L = L ∧ O = O)
        (.chk (x_3.nl' = x_3.nl' ∧ List.take fl fs ++ [x_2.val] = List.take fl fs ++ [x_2.val] ∧ x_3.cap = x_3.cap)
        (.leaf (.inl ⟨List.take fl fs ++ [x_2.val], fl + [x_2.val].length, x_3.nl', x_3.cap, (↑sk : Int).toNat, (IntKind.i64.wrap
    (IntKind.i64.wrap ((↑i : Int) + (5 : Int)) +
      IntKind.i64.wrap
        (X.getD ((IntKind.i64.wrap ((↑i : Int) + (2 : Int))).toNat * [IntKind.u8].length + (0 : Nat))
          (0 : Int)))).toNat⟩)))))))))))))))))
     (.all fun x_1 : Bool =>
      (.br (x_1)
       (.chk (sym.XC w A [IntKind.u8] X ∧
  (0 : Nat) < (1 : Nat) ∧
    (IntKind.i64.wrap ((↑i : Int) + (1 : Int))).toNat * [IntKind.u8].length + (1 : Nat) ≤ X.length)
       (.chk ((sym.XR w
      (sym.cutA A cap (IntKind.i64.wrap ((↑i : Int) + (3 : Int))).toNat
        [IntKind.u8].length)
      [IntKind.u8]
      (sym.cutL X (IntKind.i64.wrap ((↑i : Int) + (3 : Int))).toNat
        (IntKind.i64.wrap
            (IntKind.i64.wrap ((↑i : Int) + (3 : Int)) +
              IntKind.i64.wrap
                (X.getD ((IntKind.i64.wrap ((↑i : Int) + (2 : Int))).toNat * [IntKind.u8].length + (0 : Nat))
                  (0 : Int)))).toNat
        [IntKind.u8].length)
      ((IntKind.i64.wrap
            (IntKind.i64.wrap ((↑i : Int) + (3 : Int)) +
              IntKind.i64.wrap
                (X.getD ((IntKind.i64.wrap ((↑i : Int) + (2 : Int))).toNat * [IntKind.u8].length + (0 : Nat))
                  (0 : Int)))).toNat -
        (IntKind.i64.wrap ((↑i : Int) + (3 : Int))).toNat) ∧
    (IntKind.i64.wrap
            (IntKind.i64.wrap ((↑i : Int) + (3 : Int)) +
              IntKind.i64.wrap
                (X.getD ((IntKind.i64.wrap ((↑i : Int) + (2 : Int))).toNat * [IntKind.u8].length + (0 : Nat))
                  (0 : Int)))).toNat -
        (IntKind.i64.wrap ((↑i : Int) + (3 : Int))).toNat ≤
      cap - (IntKind.i64.wrap ((↑i : Int) + (3 : Int))).toNat) ∧
  True ∧
    ((0 : Nat) +
          ((IntKind.i64.wrap
                (IntKind.i64.wrap ((↑i : Int) + (3 : Int)) +
                  IntKind.i64.wrap
                    (X.getD ((IntKind.i64.wrap ((↑i : Int) + (2 : Int))).toNat * [IntKind.u8].length + (0 : Nat))
                      (0 : Int)))).toNat -
            (IntKind.i64.wrap ((↑i : Int) + (3 : Int))).toNat)) *
        (1 : Nat) ≤
      (140737488355328 : Nat))
       (.all fun x_2 : sym.Grown false
  ((IntKind.i64.wrap
        (IntKind.i64.wrap ((↑i : Int) + (3 : Int)) +
          IntKind.i64.wrap
            (X.getD ((IntKind.i64.wrap ((↑i : Int) + (2 : Int))).toNat * [IntKind.u8].length + (0 : Nat))
              (0 : Int)))).toNat -
    (IntKind.i64.wrap ((↑i : Int) + (3 : Int))).toNat)
  ((0 : Nat) +
    ((IntKind.i64.wrap
          (IntKind.i64.wrap ((↑i : Int) + (3 : Int)) +
            IntKind.i64.wrap
              (X.getD ((IntKind.i64.wrap ((↑i : Int) + (2 : Int))).toNat * [IntKind.u8].length + (0 : Nat))
                (0 : Int)))).toNat -
      (IntKind.i64.wrap ((↑i : Int) + (3 : Int))).toNat)) =>
        (.chk (x_2.nl' = x_2.nl' ∧
  (0 : Nat) +
      ((0 : Nat) +
        ((IntKind.i64.wrap
              (IntKind.i64.wrap ((↑i : Int) + (3 : Int)) +
                IntKind.i64.wrap
                  (X.getD ((IntKind.i64.wrap ((↑i : Int) + (2 : Int))).toNat * [IntKind.u8].length + (0 : Nat))
                    (0 : Int)))).toNat -
          (IntKind.i64.wrap ((↑i : Int) + (3 : Int))).toNat)) ≤
    ([] ++
        sym.cutL X (IntKind.i64.wrap ((↑i : Int) + (3 : Int))).toNat
          (IntKind.i64.wrap
              (IntKind.i64.wrap ((↑i : Int) + (3 : Int)) +
                IntKind.i64.wrap
                  (X.getD ((IntKind.i64.wrap ((↑i : Int) + (2 : Int))).toNat * [IntKind.u8].length + (0 : Nat))
                    (0 : Int)))).toNat
          [IntKind.u8].length).length)
        (.all fun x_3 : sym.FrOf
  (X.getD ((IntKind.i64.wrap ((↑i : Int) + (1 : Int))).toNat * [IntKind.u8].length + (0 : Nat)) (0 : Int))
  (sym.cutL
    ([] ++
      sym.cutL X (IntKind.i64.wrap ((↑i : Int) + (3 : Int))).toNat
        (IntKind.i64.wrap
            (IntKind.i64.wrap ((↑i : Int) + (3 : Int)) +
              IntKind.i64.wrap
                (X.getD ((IntKind.i64.wrap ((↑i : Int) + (2 : Int))).toNat * [IntKind.u8].length + (0 : Nat))
                  (0 : Int)))).toNat
        [IntKind.u8].length)
    (0 : Nat)
    ((0 : Nat) +
      ((0 : Nat) +
        ((IntKind.i64.wrap
              (IntKind.i64.wrap ((↑i : Int) + (3 : Int)) +
                IntKind.i64.wrap
                  (X.getD ((IntKind.i64.wrap ((↑i : Int) + (2 : Int))).toNat * [IntKind.u8].length + (0 : Nat))
                    (0 : Int)))).toNat -
          (IntKind.i64.wrap ((↑i : Int) + (3 : Int))).toNat)))
    (1 : Nat)) =>
         (.chk ((fn = fn ∧
    (0 : Nat) = (0 : Nat) ∧ fc = fc ∧ fl ≤ fs.length ∧ fl ≤ fc ∧ fc ≤ Go.maxLen ∧ (fn = true → fc = (0 : Nat))) ∧
  (fl + [x_3.val].length) * (32 : Nat) ≤ (140737488355328 : Nat))
         (.all fun x_4 : sym.Grown fn [x_3.val].length (fl + [x_3.val].length) =>
          (.chk (A = A ∧ [IntKind.u8] = [IntKind.u8] ∧ X = X ∧ n = n ∧ cap = cap)
          (.chk (IntKind.i64 = IntKind.i64 ∧ (0 : Int) = (0 : Int))
          (.chk (IntKind.i64 = IntKind.i64 ∧ (0 : Int) = (0 : Int))
          (.chk (x_4.nl' = x_4.nl' ∧
  (2 : Nat) = (2 : Nat) ∧ (0 : Nat) = (0 : Nat) ∧ fl + [x_3.val].length = fl + [x_3.val].length ∧ x_4.cap = x_4.cap)
          (.chk (IntKind.i64 = IntKind.i64 ∧ (↑sk : Int) = (↑(↑sk : Int).toNat : Int))
          (.chk (IntKind.i64 = IntKind.i64 ∧
  IntKind.i64.wrap
      (IntKind.i64.wrap ((↑i : Int) + (5 : Int)) +
        IntKind.i64.wrap
          (X.getD ((IntKind.i64.wrap ((↑i : Int) + (2 : Int))).toNat * [IntKind.u8].length + (0 : Nat))
            (0 : Int))) =
    (↑(IntKind.i64.wrap
            (IntKind.i64.wrap ((↑i : Int) + (5 : Int)) +
              IntKind.i64.wrap
                (X.getD ((IntKind.i64.wrap ((↑i : Int) + (2 : Int))).toNat * [IntKind.u8].length + (0 : Nat))
                  (0 : Int)))).toNat :
      Int))
          (.chk (L = L ∧ O = O)
          (.chk (x_4.nl' = x_4.nl' ∧ List.take fl fs ++ [x_3.val] = List.take fl fs ++ [x_3.val] ∧ x_4.cap = x_4.cap)
          (.leaf (.inl ⟨List.take fl fs ++ [x_3.val], fl + [x_3.val].length, x_4.nl', x_4.cap, (↑sk : Int).toNat, (IntKind.i64.wrap
    (IntKind.i64.wrap ((↑i : Int) + (5 : Int)) +
      IntKind.i64.wrap
        (X.getD ((IntKind.i64.wrap ((↑i : Int) + (2 : Int))).toNat * [IntKind.u8].length + (0 : Nat))
          (0 : Int)))).toNat⟩)))))))))))))))))
       (.chk ((sym.XR w
      (sym.cutA A cap (IntKind.i64.wrap ((↑i : Int) + (3 : Int))).toNat
        [IntKind.u8].length)
      [IntKind.u8]
      (sym.cutL X (IntKind.i64.wrap ((↑i : Int) + (3 : Int))).toNat
        (IntKind.i64.wrap
            (IntKind.i64.wrap ((↑i : Int) + (3 : Int)) +
              IntKind.i64.wrap
                (X.getD ((IntKind.i64.wrap ((↑i : Int) + (2 : Int))).toNat * [IntKind.u8].length + (0 : Nat))
                  (0 : Int)))).toNat
        [IntKind.u8].length)
      ((IntKind.i64.wrap
            (IntKind.i64.wrap ((↑i : Int) + (3 : Int)) +
              IntKind.i64.wrap
                (X.getD ((IntKind.i64.wrap ((↑i : Int) + (2 : Int))).toNat * [IntKind.u8].length + (0 : Nat))
                  (0 : Int)))).toNat -
        (IntKind.i64.wrap ((↑i : Int) + (3 : Int))).toNat) ∧
    (IntKind.i64.wrap
            (IntKind.i64.wrap ((↑i : Int) + (3 : Int)) +
              IntKind.i64.wrap
                (X.getD ((IntKind.i64.wrap ((↑i : Int) + (2 : Int))).toNat * [IntKind.u8].length + (0 : Nat))
                  (0 : Int)))).toNat -
        (IntKind.i64.wrap ((↑i : Int) + (3 : Int))).toNat ≤
      cap - (IntKind.i64.wrap ((↑i : Int) + (3 : Int))).toNat) ∧
  True ∧
    ((0 : Nat) +
          ((IntKind.i64.wrap
                (IntKind.i64.wrap ((↑i : Int) + (3 : Int)) +
                  IntKind.i64.wrap
                    (X.getD ((IntKind.i64.wrap ((↑i : Int) + (2 : Int))).toNat * [IntKind.u8].length + (0 : Nat))
                      (0 : Int)))).toNat -
            (IntKind.i64.wrap ((↑i : Int) + (3 : Int))).toNat)) *
        (1 : Nat) ≤
      (140737488355328 : Nat))
       (.all fun x_2 : sym.Grown false
  ((IntKind.i64.wrap
        (IntKind.i64.wrap ((↑i : Int) + (3 : Int)) +
          IntKind.i64.wrap
            (X.getD ((IntKind.i64.wrap ((↑i : Int) + (2 : Int))).toNat * [IntKind.u8].length + (0 : Nat))
              (0 : Int)))).toNat -
    (IntKind.i64.wrap ((↑i : Int) + (3 : Int))).toNat)
  ((0 : Nat) +
    ((IntKind.i64.wrap
          (IntKind.i64.wrap ((↑i : Int) + (3 : Int)) +
            IntKind.i64.wrap
              (X.getD ((IntKind.i64.wrap ((↑i : Int) + (2 : Int))).toNat * [IntKind.u8].length + (0 : Nat))
                (0 : Int)))).toNat -
      (IntKind.i64.wrap ((↑i : Int) + (3 : Int))).toNat)) =>
        (.chk (sym.XC w A [IntKind.u8] X ∧
  (0 : Nat) < (1 : Nat) ∧
    (IntKind.i64.wrap ((↑i : Int) + (1 : Int))).toNat * [IntKind.u8].length + (1 : Nat) ≤ X.length)
        (.chk (x_2.nl' = x_2.nl' ∧
  (0 : Nat) +
      ((0 : Nat) +
        ((IntKind.i64.wrap
              (IntKind.i64.wrap ((↑i : Int) + (3 : Int)) +
                IntKind.i64.wrap
                  (X.getD ((IntKind.i64.wrap ((↑i : Int) + (2 : Int))).toNat * [IntKind.u8].length + (0 : Nat))
                    (0 : Int)))).toNat -
          (IntKind.i64.wrap ((↑i : Int) + (3 : Int))).toNat)) ≤
    ([] ++
        sym.cutL X (IntKind.i64.wrap ((↑i : Int) + (3 : Int))).toNat
          (IntKind.i64.wrap
              (IntKind.i64.wrap ((↑i : Int) + (3 : Int)) +
                IntKind.i64.wrap
                  (X.getD ((IntKind.i64.wrap ((↑i : Int) + (2 : Int))).toNat * [IntKind.u8].length + (0 : Nat))
                    (0 : Int)))).toNat
          [IntKind.u8].length).length)
        (.all fun x_3 : sym.FrOf
  (X.getD ((IntKind.i64.wrap ((↑i : Int) + (1 : Int))).toNat * [IntKind.u8].length + (0 : Nat)) (0 : Int))
  (sym.cutL
    ([] ++
      sym.cutL X (IntKind.i64.wrap ((↑i : Int) + (3 : Int))).toNat
        (IntKind.i64.wrap
            (IntKind.i64.wrap ((↑i : Int) + (3 : Int)) +
              IntKind.i64.wrap
                (X.getD ((IntKind.i64.wrap ((↑i : Int) + (2 : Int))).toNat * [IntKind.u8].length + (0 : Nat))
                  (0 : Int)))).toNat
        [IntKind.u8].length)
    (0 : Nat)
    ((0 : Nat) +
      ((0 : Nat) +
        ((IntKind.i64.wrap
              (IntKind.i64.wrap ((↑i : Int) + (3 : Int)) +
                IntKind.i64.wrap
                  (X.getD ((IntKind.i64.wrap ((↑i : Int) + (2 : Int))).toNat * [IntKind.u8].length + (0 : Nat))
                    (0 : Int)))).toNat -
          (IntKind.i64.wrap ((↑i : Int) + (3 : Int))).toNat)))
    (1 : Nat)) =>
         (.chk ((fn = fn ∧
    (0 : Nat) = (0 : Nat) ∧ fc = fc ∧ fl ≤ fs.length ∧ fl ≤ fc ∧ fc ≤ Go.maxLen ∧ (fn = true → fc = (0 : Nat))) ∧
  (fl + [x_3.val].length) * (32 : Nat) ≤ (140737488355328 : Nat))
         (.all fun x_4 : sym.Grown fn [x_3.val].length (fl + [x_3.val].length) =>
          (.chk (A = A ∧ [IntKind.u8] = [IntKind.u8] ∧ X = X ∧ n = n ∧ cap = cap)
          (.chk (IntKind.i64 = IntKind.i64 ∧ (0 : Int) = (0 : Int))
          (.chk (IntKind.i64 = IntKind.i64 ∧ (0 : Int) = (0 : Int))
          (.chk (x_4.nl' = x_4.nl' ∧
  (2 : Nat) = (2 : Nat) ∧ (0 : Nat) = (0 : Nat) ∧ fl + [x_3.val].length = fl + [x_3.val].length ∧ x_4.cap = x_4.cap)
          (.chk (IntKind.i64 = IntKind.i64 ∧ (↑sk : Int) = (↑(↑sk : Int).toNat : Int))
          (.chk (IntKind.i64 = IntKind.i64 ∧
  IntKind.i64.wrap
      (IntKind.i64.wrap ((↑i : Int) + (5 : Int)) +
        IntKind.i64.wrap
          (X.getD ((IntKind.i64.wrap ((↑i : Int) + (2 : Int))).toNat * [IntKind.u8].length + (0 : Nat))
            (0 : Int))) =
    (↑(IntKind.i64.wrap
            (IntKind.i64.wrap ((↑i : Int) + (5 : Int)) +
              IntKind.i64.wrap
                (X.getD ((IntKind.i64.wrap ((↑i : Int) + (2 : Int))).toNat * [IntKind.u8].length + (0 : Nat))
                  (0 : Int)))).toNat :
      Int))
          (.chk (L = L ∧ O = O)
          (.chk (x_4.nl' = x_4.nl' ∧ List.take fl fs ++ [x_3.val] = List.take fl fs ++ [x_3.val] ∧ x_4.cap = x_4.cap)
          (.leaf (.inl ⟨List.take fl fs ++ [x_3.val], fl + [x_3.val].length, x_4.nl', x_4.cap, (↑sk : Int).toNat, (IntKind.i64.wrap
    (IntKind.i64.wrap ((↑i : Int) + (5 : Int)) +
      IntKind.i64.wrap
        (X.getD ((IntKind.i64.wrap ((↑i : Int) + (2 : Int))).toNat * [IntKind.u8].length + (0 : Nat))
          (0 : Int)))).toNat⟩)))))))))))))))))))))))))
   (.br ((↑(atL (List.drop (↑i : Int).toNat X)) : Int) == (2 : Int))
    (.chk (fn = fn ∧ (2 : Nat) = (2 : Nat) ∧ (0 : Nat) = (0 : Nat) ∧ fl = fl ∧ fc = fc)
    (.chk (IntKind.i64 = IntKind.i64 ∧ (↑sk : Int) = (↑(↑sk : Int).toNat : Int))
    (.chk (IntKind.i64 = IntKind.i64 ∧
  IntKind.i64.wrap ((↑n : Int) - (↑i : Int)) = (↑(IntKind.i64.wrap ((↑n : Int) - (↑i : Int))).toNat : Int))
    (.chk (L = L ∧ O = O)
    (.chk (fn = fn ∧ fs = fs ∧ fc = fc)
    (.leaf (.inr (.inr ⟨fs, fl, fn, fc, (↑sk : Int).toNat, (IntKind.i64.wrap ((↑n : Int) - (↑i : Int))).toNat⟩))))))))
    (.chk (A = A ∧ [IntKind.u8] = [IntKind.u8] ∧ X = X ∧ n = n ∧ cap = cap)
    (.chk (IntKind.i64 = IntKind.i64 ∧ (0 : Int) = (0 : Int))
    (.chk (IntKind.i64 = IntKind.i64 ∧ (0 : Int) = (0 : Int))
    (.chk (fn = fn ∧ (2 : Nat) = (2 : Nat) ∧ (0 : Nat) = (0 : Nat) ∧ fl = fl ∧ fc = fc)
    (.chk (IntKind.i64 = IntKind.i64 ∧ (↑sk : Int) = (↑(↑sk : Int).toNat : Int))
    (.chk (IntKind.i64 = IntKind.i64 ∧ (↑i : Int) = (↑(↑i : Int).toNat : Int))
    (.chk (L = L ∧ O = O)
    (.chk (fn = fn ∧ fs = fs ∧ fc = fc)
    (.leaf (.inl ⟨fs, fl, fn, fc, (↑sk : Int).toNat, (↑i : Int).toNat⟩)))))))))))))))
 (.chk (A = A ∧ [IntKind.u8] = [IntKind.u8] ∧ X = X ∧ n = n ∧ cap = cap)
 (.chk (IntKind.i64 = IntKind.i64 ∧ (0 : Int) = (0 : Int))
 (.chk (IntKind.i64 = IntKind.i64 ∧ (0 : Int) = (0 : Int))
 (.chk (fn = fn ∧ (2 : Nat) = (2 : Nat) ∧ (0 : Nat) = (0 : Nat) ∧ fl = fl ∧ fc = fc)
 (.chk (IntKind.i64 = IntKind.i64 ∧ (↑sk : Int) = (↑(↑sk : Int).toNat : Int))
 (.chk (IntKind.i64 = IntKind.i64 ∧ (↑i : Int) = (↑(↑i : Int).toNat : Int))
 (.chk (L = L ∧ O = O)
 (.chk (fn = fn ∧ fs = fs ∧ fc = fc)
 (.leaf (.inr (.inl ⟨fs, fl, fn, fc, (↑sk : Int).toNat, (↑i : Int).toNat⟩)))))))))))) := by kernel_rfl
theorem rscan_tree (w : World) (L : Nat → Option Obj) (O : Nat → Bool) (A : Option Addr) (X : List Int) (n cap : Nat) :
    callT Try.prog w (flatT Try.prog) noCtr (preOr (preOf w tab2) (fpreOf [concatC w])) (lpOf Try.prog [scLp L O A X n cap]) 20 20 [.v (.one (.xr A [.u8] X n cap))] [⟨[.keep L O], 0⟩] =
(.chk (sym.textAt Go.Proofs.Try.prog (20 : Go.FuncId) (0 : Nat) = sym.textAt Go.Proofs.Try.prog (20 : Go.FuncId) (0 : Nat))
(.chk (A = A ∧ [IntKind.u8] = [IntKind.u8] ∧ X = X ∧ n = n ∧ cap = cap)
(.chk (IntKind.i64 = IntKind.i64 ∧ (0 : Int) = (0 : Int))
(.chk (IntKind.i64 = IntKind.i64 ∧ (0 : Int) = (0 : Int))
(.chk (true = true ∧ (0 : Nat) = (0 : Nat) ∧ (0 : Nat) = (0 : Nat))
(.chk (IntKind.i64 = IntKind.i64 ∧ (0 : Int) = (↑(0 : Nat) : Int))
(.chk (IntKind.i64 = IntKind.i64 ∧ (0 : Int) = (↑(0 : Nat) : Int))
(.chk (L = L ∧ O = O)
(.chk (true = true ∧ ([] : List Fr) = [])
(.chk (scInv L O A X n cap { }
  { fs := [], fl := (0 : Nat), fn := true, fc := (0 : Nat), sk := (0 : Nat), i := (0 : Nat) })
(.all fun x : Bool =>
 (.br (x)
  (.all fun x_1 : sym.Got scX (scPost L O A X n cap { }) =>
   (.leaf ((.tuple [(.one (.gs 1 (x_1.1.3) 2 0 (x_1.1.2) (x_1.1.4))), (.one (.int false .i64 ((↑x_1.1.5 : Int)))), (.one (.int true .i64 (0)))]), [⟨[(.keep (L) (O))], 0⟩, ⟨[(.frs (x_1.1.3) (x_1.1.1) (x_1.1.4))], 24⟩])))
  (.all fun x_1 : sym.Got scZ (scBack L O A X n cap { }) =>
   (.leaf ((.tuple [(.one (.gs 1 (x_1.1.3) 2 0 (x_1.1.2) (x_1.1.4))), (.one (.int false .i64 ((↑x_1.1.5 : Int)))), (.one (.int false .i64 ((↑x_1.1.6 : Int))))]), [⟨[(.keep (L) (O))], 0⟩, ⟨[(.frs (x_1.1.3) (x_1.1.1) (x_1.1.4))], 24⟩]))))))))))))))) := by kernel_rfl
set_option maxHeartbeats 2000000 in
def scMu (L : Nat → Option Obj) (O : Nat → Bool) (A : Option Addr) (X : List Int) (n cap : Nat) (p : scP) (x : scX) : Nat := n - x.i
theorem sc_step (w : World) (L : Nat → Option Obj) (O : Nat → Bool) (A : Option Addr) (X : List Int) (n cap : Nat) (p : scP) (x : scX) (hX : XR w A [.u8] X n) (hc : n ≤ cap) (h : scInv L O A X n cap p x) : Hid (roundT Try.prog w (flatT Try.prog) (noCtr) (callT Try.prog w (flatT Try.prog) (noCtr) (preOr (preOf w tab2) (fpreOf [concatC w])) (lpOf Try.prog [mixLp 20 10]) 20) ((lpOf Try.prog [mixLp 20 10]) 20) (roundOf (bodyAt Try.prog 20 0)) 0 1 scRo scRf scRb (scSt L O A X n cap p) (scFin L O A X n cap p) (scBck L O A X n cap p) scNxX scNxX scNxZ x) (Kept (scInv L O A X n cap p) (scPost L O A X n cap p) (scBack L O A X n cap p) (scMu L O A X n cap p) x) := by
  obtain ⟨⟩ := p
  obtain ⟨fs, fl, fn, fc, sk, i⟩ := x
  constructor
  rw [scstep_tree]
  simp only [T.holds, Kept, scMu, and_self, true_and, and_true]
  obtain ⟨i1, big, hB, fl1, fd, fnil, fi, ks, e1, e2', e3⟩ := h
  simp only at i1 big hB fl1 fd fnil fi ks e1 e2' e3
  subst fl1
  have htk : fs.take fs.length = fs := List.take_of_length_le (Nat.le_refl _)
  have hXl : X.length = n := by simpa using hX.1
  refine ⟨fun hlt => ?_, fun hge => ?_⟩
  · have hlt : i < n := by have := of_decide_eq_true hlt; omega
    have w1 : IntKind.i64.wrap ((i : Int) + 1) = ((i + 1 : Nat) : Int) := by rw [wi64 _ (by omega) (by omega)]; omega
    have w2 : IntKind.i64.wrap ((i : Int) + 2) = ((i + 2 : Nat) : Int) := by rw [wi64 _ (by omega) (by omega)]; omega
    have w3 : IntKind.i64.wrap ((i : Int) + 3) = ((i + 3 : Nat) : Int) := by rw [wi64 _ (by omega) (by omega)]; omega
    have w5 : IntKind.i64.wrap ((i : Int) + 5) = ((i + 5 : Nat) : Int) := by rw [wi64 _ (by omega) (by omega)]; omega
    have ws : IntKind.i64.wrap ((sk : Int) + 1) = ((sk + 1 : Nat) : Int) := by rw [wi64 _ (by omega) (by omega)]; omega
    have hBd : Bs (X.drop i) := hB.drop i
    obtain ⟨e2, l2⟩ := whN_B hBd
    rw [getD_drop] at e2
    have hd1 : (X.drop i).drop 1 = X.drop (i + 1) := by rw [List.drop_drop]
    have hdl : (X.drop i).length = n - i := by rw [List.length_drop]; omega
    have hne : X.drop i ≠ [] := fun e => by rw [e] at hdl; simp at hdl; omega
    simp only [Int.toNat_natCast]
    refine ⟨⟨hX, hc⟩, ⟨by omega, hB, by omega, by omega⟩, fun h0 => ?_, fun h0 => ⟨fun h1 => ?_, fun h1 => ?_⟩⟩
    · have h0 : atL (X.drop i) = 0 := by have : (atL (X.drop i) : Int) = 0 := by simpa using h0
                                         omega
      have hsc := scan_0 hne h0
      rw [hd1] at hsc
      simp only [w1, ws, Int.toNat_natCast, true_and, and_true]
      refine ⟨⟨by show i + 1 ≤ n; omega, big, hB, rfl, fd, fnil, by show fs.length ≤ i + 1; omega, by show sk + 1 ≤ i + 1; omega, ?_, ?_, ?_⟩, by omega⟩
      · show pj fs ++ (scanL (X.drop (i + 1))).1 = _
        rw [hsc] at e1; exact e1
      · show sk + 1 + (scanL (X.drop (i + 1))).2.1 = (scanL X).2.1
        rw [hsc] at e2'
        simp only at e2'
        omega
      · show (scanL (X.drop (i + 1))).2.2 = _
        rw [hsc] at e3; exact e3
    · have h1 : atL (X.drop i) = 1 := by have : (atL (X.drop i) : Int) = 1 := by simpa using h1
                                         omega
      have hsc := scan_1 hne h1
      obtain ⟨_, b1, b2, _⟩ := at_1 h1
      rw [hdl] at b2
      generalize hN : whN (X.drop i) = Nn at *
      have wN : IntKind.i64.wrap (Nn : Int) = (Nn : Int) := wi64 _ (by omega) (by omega)
      have a3 : IntKind.i64.wrap (((i + 3 : Nat) : Int) + (Nn : Int)) = ((i + 3 + Nn : Nat) : Int) := by rw [wi64 _ (by omega) (by omega)]; omega
      have a5 : IntKind.i64.wrap (((i + 5 : Nat) : Int) + (Nn : Int)) = ((i + 5 + Nn : Nat) : Int) := by rw [wi64 _ (by omega) (by omega)]; omega
      have hdn : i + 3 + Nn - (i + 3) = Nn := by omega
      have hcc : sym.cutL X (i + 3) (i + 3 + Nn) 1 = ((X.drop i).drop 3).take Nn := by rw [cut1, hdn, List.drop_drop]
      have hcl : (((X.drop i).drop 3).take Nn).length = Nn := by rw [List.length_take, List.length_drop, hdl]; omega
      have hcc2 : sym.cutL (((X.drop i).drop 3).take Nn) 0 Nn 1 = ((X.drop i).drop 3).take Nn := by rw [cut0, List.take_of_length_le (by omega)]
      have hcut := xr_cut (l := i + 3) (h := i + 3 + Nn) hX hc (by omega) (by omega)
      simp only [w1, w2, w3, w5, Int.toNat_natCast, e2, wN, a3, a5, List.length_singleton, Nat.mul_one, Nat.add_zero, Nat.zero_add, List.nil_append, hdn, hcc, htk, true_and, and_true]
      rw [hdn] at hcut
      have hcut : sym.XR w (sym.cutA A cap (i + 3) 1) [.u8] (((X.drop i).drop 3).take Nn) Nn := by rw [← hcc]; exact hcut
      have fin : ∀ f : Fr, f.s = X.getD (i + 1) 0 → f.xs = ((X.drop i).drop 3).take Nn → ∀ gr : sym.Grown fn 1 (fs.length + 1), scInv L O A X n cap ⟨⟩ ⟨fs ++ [f], fs.length + 1, gr.nl', gr.cap, sk, i + 5 + Nn⟩ := fun f f1 f2 gr => by
        have hpf : pj [f] = [frOfL (X.drop i)] := by
          show [(f.s, f.xs)] = _
          rw [f1, f2]
          unfold frOfL
          rw [hN, getD_drop]
        refine ⟨by show i + 5 + Nn ≤ n; omega, big, hB, by show fs.length + 1 = (fs ++ [f]).length; simp, ⟨gr.le, gr.max⟩, (rowR gr).nil, by show fs.length + 1 ≤ i + 5 + Nn; omega, by show sk ≤ i + 5 + Nn; omega, ?_, ?_, ?_⟩
        · show pj (fs ++ [f]) ++ (scanL (X.drop (i + 5 + Nn))).1 = _
          rw [pj_append, hpf, List.append_assoc, show i + 5 + Nn = i + (Nn + 5) by omega, ← List.drop_drop]
          rw [hsc] at e1
          exact e1
        · show sk + (scanL (X.drop (i + 5 + Nn))).2.1 = _
          rw [show i + 5 + Nn = i + (Nn + 5) by omega, ← List.drop_drop]
          rw [hsc] at e2'
          exact e2'
        · show (scanL (X.drop (i + 5 + Nn))).2.2 = _
          rw [show i + 5 + Nn = i + (Nn + 5) by omega, ← List.drop_drop]
          rw [hsc] at e3
          exact e3
      have pR : sym.XC w A [.u8] X ∧ 0 < 1 ∧ i + 1 + 1 ≤ X.length := ⟨hX.2, by decide, by omega⟩
      have pS : (sym.XR w (sym.cutA A cap (i + 3) 1) [.u8] (((X.drop i).drop 3).take Nn) Nn ∧ Nn ≤ cap - (i + 3)) ∧ Nn ≤ 140737488355328 := ⟨⟨hcut, by omega⟩, by omega⟩
      have pL : Nn ≤ (((X.drop i).drop 3).take Nn).length := by omega
      refine ⟨⟨hX, by omega, by omega, by decide⟩, ⟨hX.2, by decide, by omega⟩, ⟨hX, by omega, by omega, by decide⟩, ⟨by omega, by omega, by omega, hc⟩, fun b => ⟨fun _ => ⟨pR, pS, fun g => ?_⟩, fun _ b2 => ⟨fun _ => ⟨pR, pS, fun g => ?_⟩, fun _ => ⟨pS, fun g => ⟨pR, ?_⟩⟩⟩⟩⟩
      · refine ⟨pL, fun f => ⟨⟨⟨Nat.le_refl _, fd.1, fd.2, fun h => (fnil h).2⟩, by omega⟩, fun gr => ⟨?_, by omega⟩⟩⟩
        obtain ⟨f1, f2⟩ := f.2
        simp only [w1, w2, w3, w5, Int.toNat_natCast, e2, wN, a3, a5, List.length_singleton, Nat.mul_one, Nat.add_zero, Nat.zero_add, List.nil_append, hdn, hcc, hcc2] at f1 f2
        exact fin f.1 f1 f2 gr
      · refine ⟨pL, fun f => ⟨⟨⟨Nat.le_refl _, fd.1, fd.2, fun h => (fnil h).2⟩, by omega⟩, fun gr => ⟨?_, by omega⟩⟩⟩
        obtain ⟨f1, f2⟩ := f.2
        simp only [w1, w2, w3, w5, Int.toNat_natCast, e2, wN, a3, a5, List.length_singleton, Nat.mul_one, Nat.add_zero, Nat.zero_add, List.nil_append, hdn, hcc, hcc2] at f1 f2
        exact fin f.1 f1 f2 gr
      · refine ⟨pL, fun f => ⟨⟨⟨Nat.le_refl _, fd.1, fd.2, fun h => (fnil h).2⟩, by omega⟩, fun gr => ⟨?_, by omega⟩⟩⟩
        obtain ⟨f1, f2⟩ := f.2
        simp only [w1, w2, w3, w5, Int.toNat_natCast, e2, wN, a3, a5, List.length_singleton, Nat.mul_one, Nat.add_zero, Nat.zero_add, List.nil_append, hdn, hcc, hcc2] at f1 f2
        exact fin f.1 f1 f2 gr
    · have h2 : atL (X.drop i) = 2 := by
        have g0 : (atL (X.drop i) : Int) ≠ 0 := by simpa using h0
        have g1 : (atL (X.drop i) : Int) ≠ 1 := by simpa using h1
        have := at_le (X.drop i)
        omega
      have hsc := scan_2 h2
      rw [hsc] at e1 e2' e3
      have wn : IntKind.i64.wrap ((n : Int) - (i : Int)) = ((n - i : Nat) : Int) := by rw [wi64 _ (by omega) (by omega)]; omega
      have b1 : pj fs = (scanL X).1 := by simpa using e1
      have b2 : sk = (scanL X).2.1 := by simpa using e2'
      have b3 : n - i = (scanL X).2.2.length := by rw [← e3, hdl]
      simp only [h2, wn, Int.toNat_natCast, true_and, and_true]
      refine ⟨fun _ => ⟨rfl, fd, fnil, b1, b2, b3⟩, fun hf => absurd hf (by decide)⟩
  · have hge : ¬ (i : Int) < (n : Int) := of_decide_eq_false hge
    have hd : X.drop i = [] := List.drop_of_length_le (by omega)
    rw [hd, scan_nil] at e1 e2' e3
    simp only [Int.toNat_natCast, true_and, and_true]
    refine ⟨rfl, fd, fnil, ?_, ?_, ?_⟩
    · show pj fs = _
      simpa using e1
    · show sk = _
      simpa using e2'
    · exact e3.symm
theorem scLp_ok (w : World) (L : Nat → Option Obj) (O : Nat → Bool) (A : Option Addr) (X : List Int) (n cap : Nat) (hX : XR w A [.u8] X n) (hc : n ≤ cap) : (scLp L O A X n cap).ok Try.prog w := by
  intro s t h
  unfold scLp at h
  simp only at h
  split at h
  · rename_i p _
    split at h
    · rename_i x _
      cases h
      exact loop_ok base2 (ctrs_none _ w) (callT_ok base2.mixed base2.names base2.eqs (ctrs_none _ w).ok (ctrs_none _ w).there (pre3_ok w) ((lps_ok (ls := [mixLp 20 10]) fun l hl => by (simp only [List.mem_cons, List.not_mem_nil, or_false] at hl; subst hl; exact mixLp_ok _ _ _ _))) 20) (((lps_ok (ls := [mixLp 20 10]) fun l hl => by (simp only [List.mem_cons, List.not_mem_nil, or_false] at hl; subst hl; exact mixLp_ok _ _ _ _))) 20) (c := roundOf (bodyAt Try.prog 20 0)) (by kernel_rfl) (id := 0) (n := 1) (hr := true) (ro := scRo) (rf := scRf) (rr := scRb) (st := scSt L O A X n cap p) (fin := scFin L O A X n cap p) (bck := scBck L O A X n cap p) (inv := scInv L O A X n cap p) (post := scPost L O A X n cap p) (back := scBack L O A X n cap p) (nx := scNxX) (fx := scNxX) (bx := scNxZ) (scMu L O A X n cap p) (nf := 2) (nf' := 2) (nf'' := 2) (fun x => by kernel_rfl) (fun y => by kernel_rfl) (fun z => by kernel_rfl) (.inl rfl) (fun x hx => sc_step w L O A X n cap p x hX hc hx) s x
    · cases h
  · cases h
theorem rscanC_ok (w0 : World) : (rscanC w0).Ok Try.prog w0 := by
  refine fctr_ok base2 (ctrs_none _ _) (pre3_ok w0) (n := 20) fun args h t h0 => ?_
  unfold rscanC at h0
  simp only at h0
  split at h0
  · rename_i A X n cap
    cases h0
    intro L O K hK
    obtain ⟨⟨hX, hc, big, hB⟩, hK⟩ := hK
    refine ⟨lpOf Try.prog [scLp L O A X n cap], lps_ok fun l hl => ?_, ?_⟩
    · simp only [List.mem_cons, List.not_mem_nil, or_false] at hl
      subst hl
      exact scLp_ok w0 L O A X n cap hX hc
    show T.holds (callT Try.prog w0 (flatT Try.prog) noCtr (preOr (preOf w0 tab2) (fpreOf [concatC w0])) (lpOf Try.prog [scLp L O A X n cap]) 20 20 [.v (.one (.xr A [.u8] X n cap))] [⟨[.keep L O], 0⟩]) _
    rw [rscan_tree]
    simp only [T.holds, true_and, and_true, and_self]
    refine ⟨rfl, rfl, ⟨Nat.zero_le _, big, hB, rfl, ⟨Nat.le_refl _, by show 0 ≤ maxLen; decide⟩, fun _ => ⟨rfl, rfl⟩, Nat.le_refl _, Nat.le_refl _, rfl, Nat.zero_add _, rfl⟩, fun b => ⟨fun _ y => ?_, fun _ y => ?_⟩⟩
    · have q1 := y.so.fl1
      have q2 := y.so.fd
      have q3 := y.so.fnil
      have q4 := y.so.e1
      have q5 := y.so.e2
      have q6 := y.so.e3
      generalize y.it = z at *
      obtain ⟨fs, fl, fn, fc, sk, i⟩ := z
      simp only at q1 q2 q3 q4 q5 q6
      subst q1
      have q7 : (0 : Int) = (((scanL X).2.2.length : Nat) : Int) := by rw [q6]; rfl
      have q8 : (sk : Int) = (((scanL X).2.1 : Nat) : Int) := by rw [q5]
      refine ⟨_, _, hK ⟨fs, fn, fc, q4, q2, q3⟩, as_end [some 1] ?_ (by kernel_rfl) (fun h => by cases h)⟩
      repeat' (first | exact trivial | exact rfl | exact q7 | exact q8 | (refine And.intro ?_ ?_))
    · have q1 := y.so.fl1
      have q2 := y.so.fd
      have q3 := y.so.fnil
      have q4 := y.so.e1
      have q5 := y.so.e2
      have q6 := y.so.e3
      generalize y.it = z at *
      obtain ⟨fs, fl, fn, fc, sk, wt⟩ := z
      simp only at q1 q2 q3 q4 q5 q6
      subst q1
      have q7 : (wt : Int) = (((scanL X).2.2.length : Nat) : Int) := by rw [q6]
      have q8 : (sk : Int) = (((scanL X).2.1 : Nat) : Int) := by rw [q5]
      refine ⟨_, _, hK ⟨fs, fn, fc, q4, q2, q3⟩, as_end [some 1] ?_ (by kernel_rfl) (fun h => by cases h)⟩
      repeat' (first | exact trivial | exact rfl | exact q7 | exact q8 | (refine And.intro ?_ ?_))
  · cases h0
end Go.Proofs.Ytmenafkmkcodlaa
