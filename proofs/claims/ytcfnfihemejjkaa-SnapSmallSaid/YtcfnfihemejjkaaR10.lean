/-
  Walks of the statements of packs, of these the ones with loops. Slices that hold bytes and pairs of words; no other condition.
-/
import Derived.Test.YtcfnfihemejjkaaR9
namespace Go.Proofs.Ytcfnfihemejjkaa
open Go.RowKit sym
set_option linter.unusedVariables false
set_option linter.unusedSimpArgs false
set_option maxRecDepth 100000
def pv (X C : List Int) (i : Nat) : Bool := decide (i = 0 ∨ X.getD (i - 1) 0 = C.getD (i - 1) 0)
theorem cnt_step (f : Bool) {X C : List Int} {i : Nat} (h : i < X.length) (h2 : i < C.length) : cnt f (X.drop i) (C.drop i) = if X.getD i 0 = C.getD i 0 then cnt true (X.drop (i + 1)) (C.drop (i + 1)) else ((cnt false (X.drop (i + 1)) (C.drop (i + 1))).1 + 1, (cnt false (X.drop (i + 1)) (C.drop (i + 1))).2 + if f then 1 else 0) := by
  rw [List.drop_eq_getElem_cons h, List.drop_eq_getElem_cons h2, List.getD_eq_getElem?_getD, List.getD_eq_getElem?_getD, List.getElem?_eq_getElem h, List.getElem?_eq_getElem h2]
  rfl
theorem pv_succ (X C : List Int) (i : Nat) : pv X C (i + 1) = decide (X.getD i 0 = C.getD i 0) := by
  unfold pv
  simp
structure ssP where
  D : List Int
  nl : Bool
  r : Nat
  d : Nat
  P : List Int
  pl : Nat
  pn : Bool
  pc : Nat
structure ssX where
  a : Nat
  b : Nat
  i : Nat
structure ssY where
  a : Nat
  b : Nat
def ssSt (A : Option Addr) (X : List Int) (n cap : Nat) (C : List Int) : ssP → ssX → ASt := fun ⟨D, nl, r, d, P, pl, pn, pc⟩ ⟨a, b, i⟩ => ⟨slots (List.replicate 78 .any) [(0, .v (.one (.xr A [.u8] X n cap))), (5, .v (.one (.gs 0 nl 1 0 r d))), (6, .v (.one (.gs 1 pn 1 0 pl pc))), (8, .v (.one (.int false .i64 (a : Int)))), (9, .v (.one (.int false .i64 (b : Int)))), (34, .v (.one (.int false .i64 (r : Int)))), (35, .v (.one (.int false .i64 (i : Int))))], [⟨[.row nl [.u8] D d], 5⟩, ⟨[.row pn [.u8] P pc], 5⟩]⟩
def ssFin (A : Option Addr) (X : List Int) (n cap : Nat) (C : List Int) : ssP → ssY → ASt := fun ⟨D, nl, r, d, P, pl, pn, pc⟩ ⟨a, b⟩ => ⟨slots (List.replicate 78 .any) [(6, .v (.one (.gs 1 pn 1 0 pl pc))), (8, .v (.one (.int false .i64 (a : Int)))), (9, .v (.one (.int false .i64 (b : Int))))], [⟨[.dead], 5⟩, ⟨[.row pn [.u8] P pc], 5⟩]⟩
def ssBck (A : Option Addr) (X : List Int) (n cap : Nat) (C : List Int) : ssP → Empty → ASt := fun _ z => nomatch z
def ssNxP : ASt → Option ssP := fun s => match sym.gX s 5 with | none => none | some D => match sym.gN s 5 with | none => none | some nl => match sym.gL s 5 with | none => none | some r => match sym.gC s 5 with | none => none | some d => match sym.gX s 6 with | none => none | some P => match sym.gL s 6 with | none => none | some pl => match sym.gN s 6 with | none => none | some pn => match sym.gC s 6 with | none => none | some pc => some ⟨D, nl, r, d, P, pl, pn, pc⟩
def ssNxX : ASt → Option ssX := fun s => match (sym.gI s 8).map Int.toNat with | none => none | some a => match (sym.gI s 9).map Int.toNat with | none => none | some b => match (sym.gI s 35).map Int.toNat with | none => none | some i => some ⟨a, b, i⟩
def ssNxY : ASt → Option ssY := fun s => match (sym.gI s 8).map Int.toNat with | none => none | some a => match (sym.gI s 9).map Int.toNat with | none => none | some b => some ⟨a, b⟩
def ssNxZ : ASt → Option Empty := fun _ => none
def ssRo : ASt → List (Option Nat) := (fun _ => [])
def ssRf : ASt → List (Option Nat) := (fun _ => [])
def ssRb : ASt → List (Option Nat) := (fun _ => [])
structure ssInv (A : Option Addr) (X : List Int) (n cap : Nat) (C : List Int) (p : ssP) (x : ssX) : Prop where
  rn : p.r = n
  rc : p.D = C
  cl : C.length = n
  nil : p.nl = true → p.r = 0
  big : n ≤ 3000
  i1 : x.i ≤ n
  ab : x.a ≤ x.i ∧ x.b ≤ x.i
  e1 : x.a + (cnt (pv X C x.i) (X.drop x.i) (C.drop x.i)).1 = (cnt true X C).1
  e2 : x.b + (cnt (pv X C x.i) (X.drop x.i) (C.drop x.i)).2 = (cnt true X C).2
structure ssPost (A : Option Addr) (X : List Int) (n cap : Nat) (C : List Int) (p : ssP) (x : ssY) : Prop where
  ab : x.a ≤ 3000 ∧ x.b ≤ 3000
  eq : x.a + 9 * x.b = wgt true X C
def ssBack (A : Option Addr) (X : List Int) (n cap : Nat) (C : List Int) (p : ssP) (x : Empty) : Prop := False
def ssLp (A : Option Addr) (X : List Int) (n cap : Nat) (C : List Int) : Lp := ⟨6, 0, fun s => match ssNxP s with
  | some p => match ssNxX s with
    | some x => some (loopT 0 2 false ssRo (ssSt A X n cap C p) (ssFin A X n cap C p) (ssBck A X n cap C p) (ssInv A X n cap C p) (ssPost A X n cap C p) (ssBack A X n cap C p) s x)
    | none => none
  | none => none⟩
theorem ssstep_tree (w : World) (A : Option Addr) (X : List Int) (n cap : Nat) (C : List Int) (D : List Int) (nl : Bool) (r : Nat) (d : Nat) (P : List Int) (pl : Nat) (pn : Bool) (pc : Nat) (a : Nat) (b : Nat) (i : Nat) :
    roundT Try.prog w (flatT Try.prog) (noCtr) (callT Try.prog w (flatT Try.prog) (noCtr) (noPre) (noLoop) 20) ((noLoop) 6) (roundOf (bodyAt Try.prog 6 0)) 0 2 ssRo ssRf ssRb (ssSt A X n cap C ⟨D, nl, r, d, P, pl, pn, pc⟩) (ssFin A X n cap C ⟨D, nl, r, d, P, pl, pn, pc⟩) (ssBck A X n cap C ⟨D, nl, r, d, P, pl, pn, pc⟩) ssNxX ssNxY ssNxZ ⟨a, b, i⟩ =
(.br (decide ((↑i : Int) < (↑r : Int)))
 (.chk (nl = false ∧ (0 : Int) ≤ (↑i : Int) ∧ (↑i : Int) < (↑r : Int))
 (.chk (nl = false ∧ ((0 : Nat) + (↑i : Int).toNat) * (1 : Nat) + (1 : Nat) ≤ D.length)
 (.chk (sym.XR w A [IntKind.u8] X n ∧
  (0 : Int) ≤ (↑i : Int) ∧ (↑i : Int) < (↑n : Int) ∧ (0 : Nat) < [IntKind.u8].length)
 (.chk (sym.XC w A [IntKind.u8] X ∧
  (0 : Nat) < (1 : Nat) ∧ (↑i : Int).toNat * [IntKind.u8].length + (1 : Nat) ≤ X.length)
 (.br (D.getD (((0 : Nat) + (↑i : Int).toNat) * (1 : Nat) + (0 : Nat)) (0 : Int) !=
  X.getD ((↑i : Int).toNat * [IntKind.u8].length + (0 : Nat)) (0 : Int))
  (.br ((↑i : Int) == (0 : Int))
   (.chk (A = A ∧ [IntKind.u8] = [IntKind.u8] ∧ X = X ∧ n = n ∧ cap = cap)
   (.chk (nl = nl ∧ (1 : Nat) = (1 : Nat) ∧ (0 : Nat) = (0 : Nat) ∧ r = r ∧ d = d)
   (.chk (pn = pn ∧ (1 : Nat) = (1 : Nat) ∧ (0 : Nat) = (0 : Nat) ∧ pl = pl ∧ pc = pc)
   (.chk (IntKind.i64 = IntKind.i64 ∧
  IntKind.i64.wrap ((↑a : Int) + (1 : Int)) = (↑(IntKind.i64.wrap ((↑a : Int) + (1 : Int))).toNat : Int))
   (.chk (IntKind.i64 = IntKind.i64 ∧
  IntKind.i64.wrap ((↑b : Int) + (1 : Int)) = (↑(IntKind.i64.wrap ((↑b : Int) + (1 : Int))).toNat : Int))
   (.chk (IntKind.i64 = IntKind.i64 ∧ (↑r : Int) = (↑r : Int))
   (.chk (IntKind.i64 = IntKind.i64 ∧
  IntKind.i64.wrap ((↑i : Int) + (1 : Int)) = (↑(IntKind.i64.wrap ((↑i : Int) + (1 : Int))).toNat : Int))
   (.chk (nl = nl ∧ [IntKind.u8] = [IntKind.u8] ∧ D = D ∧ d = d)
   (.chk (pn = pn ∧ [IntKind.u8] = [IntKind.u8] ∧ P = P ∧ pc = pc)
   (.leaf (.inl ⟨(IntKind.i64.wrap ((↑a : Int) + (1 : Int))).toNat, (IntKind.i64.wrap ((↑b : Int) + (1 : Int))).toNat, (IntKind.i64.wrap ((↑i : Int) + (1 : Int))).toNat⟩)))))))))))
   (.chk (nl = false ∧
  (0 : Int) ≤ IntKind.i64.wrap ((↑i : Int) - (1 : Int)) ∧ IntKind.i64.wrap ((↑i : Int) - (1 : Int)) < (↑r : Int))
   (.chk (nl = false ∧ ((0 : Nat) + (IntKind.i64.wrap ((↑i : Int) - (1 : Int))).toNat) * (1 : Nat) + (1 : Nat) ≤ D.length)
   (.chk (sym.XR w A [IntKind.u8] X n ∧
  (0 : Int) ≤ IntKind.i64.wrap ((↑i : Int) - (1 : Int)) ∧
    IntKind.i64.wrap ((↑i : Int) - (1 : Int)) < (↑n : Int) ∧ (0 : Nat) < [IntKind.u8].length)
   (.chk (sym.XC w A [IntKind.u8] X ∧
  (0 : Nat) < (1 : Nat) ∧
    (IntKind.i64.wrap ((↑i : Int) - (1 : Int))).toNat * [IntKind.u8].length + (1 : Nat) ≤ X.length)
   (.br (D.getD (((0 : Nat) + (IntKind.i64.wrap ((↑i : Int) - (1 : Int))).toNat) * (1 : Nat) + (0 : Nat)) (0 : Int) ==
  X.getD ((IntKind.i64.wrap ((↑i : Int) - (1 : Int))).toNat * [IntKind.u8].length + (0 : Nat)) (0 : Int))
    (.chk (A = A ∧ [IntKind.u8] = [IntKind.u8] ∧ X = X ∧ n = n ∧ cap = cap)
    (.chk (nl = nl ∧ (1 : Nat) = (1 : Nat) ∧ (0 : Nat) = (0 : Nat) ∧ r = r ∧ d = d)
    (.chk (pn = pn ∧ (1 : Nat) = (1 : Nat) ∧ (0 : Nat) = (0 : Nat) ∧ pl = pl ∧ pc = pc)
    (.chk (IntKind.i64 = IntKind.i64 ∧
  IntKind.i64.wrap ((↑a : Int) + (1 : Int)) = (↑(IntKind.i64.wrap ((↑a : Int) + (1 : Int))).toNat : Int))
    (.chk (IntKind.i64 = IntKind.i64 ∧
  IntKind.i64.wrap ((↑b : Int) + (1 : Int)) = (↑(IntKind.i64.wrap ((↑b : Int) + (1 : Int))).toNat : Int))
    (.chk (IntKind.i64 = IntKind.i64 ∧ (↑r : Int) = (↑r : Int))
    (.chk (IntKind.i64 = IntKind.i64 ∧
  IntKind.i64.wrap ((↑i : Int) + (1 : Int)) = (↑(IntKind.i64.wrap ((↑i : Int) + (1 : Int))).toNat : Int))
    (.chk (nl = nl ∧ [IntKind.u8] = [IntKind.u8] ∧ D = D ∧ d = d)
    (.chk (pn = pn ∧ [IntKind.u8] = [IntKind.u8] ∧ P = P ∧ pc = pc)
    (.leaf (.inl ⟨(IntKind.i64.wrap ((↑a : Int) + (1 : Int))).toNat, (IntKind.i64.wrap ((↑b : Int) + (1 : Int))).toNat, (IntKind.i64.wrap ((↑i : Int) + (1 : Int))).toNat⟩)))))))))))
    (.chk (A = A ∧ [IntKind.u8] = [IntKind.u8] ∧ X = X ∧ n = n ∧ cap = cap)
    (.chk (nl = nl ∧ (1 : Nat) = (1 : Nat) ∧ (0 : Nat) = (0 : Nat) ∧ r = r ∧ d = d)
    (.chk (pn = pn ∧ (1 : Nat) = (1 : Nat) ∧ (0 : Nat) = (0 : Nat) ∧ pl = pl ∧ pc = pc)
    (.chk (IntKind.i64 = IntKind.i64 ∧
  IntKind.i64.wrap ((↑a : Int) + (1 : Int)) = (↑(IntKind.i64.wrap ((↑a : Int) + (1 : Int))).toNat : Int))
    (.chk (IntKind.i64 = IntKind.i64 ∧ (↑b : Int) = (↑(↑b : Int).toNat : Int))
    (.chk (IntKind.i64 = IntKind.i64 ∧ (↑r : Int) = (↑r : Int))
    (.chk (IntKind.i64 = IntKind.i64 ∧
  IntKind.i64.wrap ((↑i : Int) + (1 : Int)) = (↑(IntKind.i64.wrap ((↑i : Int) + (1 : Int))).toNat : Int))
    (.chk (nl = nl ∧ [IntKind.u8] = [IntKind.u8] ∧ D = D ∧ d = d)
    (.chk (pn = pn ∧ [IntKind.u8] = [IntKind.u8] ∧ P = P ∧ pc = pc)
    (.leaf (.inl ⟨(IntKind.i64.wrap ((↑a : Int) + (1 : Int))).toNat, (↑b : Int).toNat, (IntKind.i64.wrap ((↑i : Int) + (1 : Int))).toNat⟩)))))))))))))))))
  (.chk (A = A ∧ [IntKind.u8] = [IntKind.u8] ∧ X = X ∧ n = n ∧ cap = cap)
  (.chk (nl = nl ∧ (1 : Nat) = (1 : Nat) ∧ (0 : Nat) = (0 : Nat) ∧ r = r ∧ d = d)
  (.chk (pn = pn ∧ (1 : Nat) = (1 : Nat) ∧ (0 : Nat) = (0 : Nat) ∧ pl = pl ∧ pc = pc)
  (.chk (IntKind.i64 = IntKind.i64 ∧ (↑a : Int) = (↑(↑a : Int).toNat : Int))
  (.chk (IntKind.i64 = IntKind.i64 ∧ (↑b : Int) = (↑(↑b : Int).toNat : Int))
  (.chk (IntKind.i64 = IntKind.i64 ∧ (↑r : Int) = (↑r : Int))
  (.chk (IntKind.i64 = IntKind.i64 ∧
  IntKind.i64.wrap ((↑i : Int) + (1 : Int)) = (↑(IntKind.i64.wrap ((↑i : Int) + (1 : Int))).toNat : Int))
  (.chk (nl = nl ∧ [IntKind.u8] = [IntKind.u8] ∧ D = D ∧ d = d)
  (.chk (pn = pn ∧ [IntKind.u8] = [IntKind.u8] ∧ P = P ∧ pc = pc)
  (.leaf (.inl ⟨(↑a : Int).toNat, (↑b : Int).toNat, (IntKind.i64.wrap ((↑i : Int) + (1 : Int))).toNat⟩))))))))))))))))
 (.chk (pn = pn ∧ (1 : Nat) = (1 : Nat) ∧ (0 : Nat) = (0 : Nat) ∧ pl = pl ∧ pc = pc)
 (.chk (IntKind.i64 = IntKind.i64 ∧ (↑a : Int) = (↑(↑a : Int).toNat : Int))
 (.chk (IntKind.i64 = IntKind.i64 ∧ (↑b : Int) = (↑(↑b : Int).toNat : Int))
 (.chk (pn = pn ∧ [IntKind.u8] = [IntKind.u8] ∧ P = P ∧ pc = pc)
 (.leaf (.inr (.inl ⟨(↑a : Int).toNat, (↑b : Int).toNat⟩)))))))) := by kernel_rfl
def ssMu (A : Option Addr) (X : List Int) (n cap : Nat) (C : List Int) (p : ssP) (x : ssX) : Nat := n - x.i
theorem ss_step (w : World) (A : Option Addr) (X : List Int) (n cap : Nat) (C : List Int) (p : ssP) (x : ssX) (hX : XR w A [.u8] X n) (hc : n ≤ cap) (h : ssInv A X n cap C p x) : Hid (roundT Try.prog w (flatT Try.prog) (noCtr) (callT Try.prog w (flatT Try.prog) (noCtr) (noPre) (noLoop) 20) ((noLoop) 6) (roundOf (bodyAt Try.prog 6 0)) 0 2 ssRo ssRf ssRb (ssSt A X n cap C p) (ssFin A X n cap C p) (ssBck A X n cap C p) ssNxX ssNxY ssNxZ x) (Kept (ssInv A X n cap C p) (ssPost A X n cap C p) (ssBack A X n cap C p) (ssMu A X n cap C p) x) := by
  obtain ⟨D, nl, r, d, P, pl, pn, pc⟩ := p
  obtain ⟨a, b, i⟩ := x
  constructor
  rw [ssstep_tree]
  simp only [T.holds, Kept, ssMu, and_self, true_and, and_true]
  obtain ⟨rn, rc, cl, nil, big, i1, ab, e1, e2⟩ := h
  simp only at rn rc cl nil big i1 ab e1 e2
  subst rc
  have hn : X.length = n := by simpa using hX.1
  have wa := winc (show a < 1000000000 by omega)
  have wb := winc (show b < 1000000000 by omega)
  have wi := winc (show i < 1000000000 by omega)
  simp only [T.holds, List.length_singleton, Int.toNat_natCast, Nat.mul_one, Nat.sub_zero, Nat.zero_add, Nat.add_zero, true_and, and_true, and_self, decide_eq_true_eq, decide_eq_false_iff_not, bne_iff_ne, ne_eq, Bool.not_eq_true, bne_eq_false_iff_eq, not_true_eq_false, false_implies, true_implies, beq_iff_eq, beq_eq_false_iff_ne, wa, wb, wi]
  refine ⟨fun hlt => ?_, fun hge => ?_⟩
  · have hlt : i < n := by omega
    have hnl : nl = false := by
      cases nl with
      | false => rfl
      | true => have := nil rfl; omega
    rw [cnt_step _ (by omega) (by omega)] at e1 e2
    have pe := pv_succ X D i
    refine ⟨⟨hnl, by omega, by omega⟩, ⟨hnl, by omega⟩, ⟨hX, by omega, by omega, by decide⟩, ⟨hX.2, by decide, by omega⟩, fun hne => ?_, fun he => ?_⟩
    · have hne2 : ¬ X.getD i 0 = D.getD i 0 := fun e => hne e.symm
      rw [if_neg hne2] at e1 e2
      rw [decide_eq_false hne2] at pe
      simp only at e1 e2
      refine ⟨fun h0 => ?_, fun h0 => ?_⟩
      · have h0 : i = 0 := by omega
        have pt : pv X D i = true := by unfold pv; exact decide_eq_true (.inl h0)
        rw [pt, if_pos rfl] at e2
        refine ⟨⟨rn, rfl, cl, nil, big, by show i + 1 ≤ n; omega, ⟨by show a + 1 ≤ i + 1; omega, by show b + 1 ≤ i + 1; omega⟩, ?_, ?_⟩, by omega⟩
        · show a + 1 + (cnt (pv X D (i + 1)) (X.drop (i + 1)) (D.drop (i + 1))).1 = _
          rw [pe]; omega
        · show b + 1 + (cnt (pv X D (i + 1)) (X.drop (i + 1)) (D.drop (i + 1))).2 = _
          rw [pe]; omega
      have w1 : IntKind.i64.wrap ((i : Int) - 1) = ((i - 1 : Nat) : Int) := by rw [wi64 _ (by omega) (by omega)]; omega
      simp only [w1, Int.toNat_natCast]
      refine ⟨⟨hnl, by omega, by omega⟩, ⟨hnl, by omega⟩, ⟨hX, by omega, by omega, by decide⟩, ⟨hX.2, by decide, by omega⟩, fun hp => ?_, fun hp => ?_⟩
      · have pt : pv X D i = true := by unfold pv; exact decide_eq_true (.inr hp.symm)
        rw [pt, if_pos rfl] at e2
        refine ⟨⟨rn, rfl, cl, nil, big, by show i + 1 ≤ n; omega, ⟨by show a + 1 ≤ i + 1; omega, by show b + 1 ≤ i + 1; omega⟩, ?_, ?_⟩, by omega⟩
        · show a + 1 + (cnt (pv X D (i + 1)) (X.drop (i + 1)) (D.drop (i + 1))).1 = _
          rw [pe]; omega
        · show b + 1 + (cnt (pv X D (i + 1)) (X.drop (i + 1)) (D.drop (i + 1))).2 = _
          rw [pe]; omega
      · have pt : pv X D i = false := by
          unfold pv
          refine decide_eq_false ?_
          rintro (h | h)
          · omega
          · exact hp h.symm
        rw [pt] at e2
        simp only [Bool.false_eq_true, if_false] at e2
        refine ⟨⟨rn, rfl, cl, nil, big, by show i + 1 ≤ n; omega, ⟨by show a + 1 ≤ i + 1; omega, by show b ≤ i + 1; omega⟩, ?_, ?_⟩, by omega⟩
        · show a + 1 + (cnt (pv X D (i + 1)) (X.drop (i + 1)) (D.drop (i + 1))).1 = _
          rw [pe]; omega
        · show b + (cnt (pv X D (i + 1)) (X.drop (i + 1)) (D.drop (i + 1))).2 = _
          rw [pe]; omega
    · have he2 : X.getD i 0 = D.getD i 0 := he.symm
      rw [if_pos he2] at e1 e2
      rw [decide_eq_true he2] at pe
      refine ⟨⟨rn, rfl, cl, nil, big, by show i + 1 ≤ n; omega, ⟨by show a ≤ i + 1; omega, by show b ≤ i + 1; omega⟩, ?_, ?_⟩, by omega⟩
      · show a + (cnt (pv X D (i + 1)) (X.drop (i + 1)) (D.drop (i + 1))).1 = _
        rw [pe]; exact e1
      · show b + (cnt (pv X D (i + 1)) (X.drop (i + 1)) (D.drop (i + 1))).2 = _
        rw [pe]; exact e2
  · have h0 : X.drop i = [] := List.drop_of_length_le (by omega)
    have c0 : cnt (pv X D i) (X.drop i) (D.drop i) = (0, 0) := by rw [h0]; rfl
    rw [c0] at e1 e2
    refine ⟨⟨by show a ≤ 3000; omega, by show b ≤ 3000; omega⟩, ?_⟩
    show a + 9 * b = _
    unfold wgt
    omega
theorem ssLp_ok (w : World) (A : Option Addr) (X : List Int) (n cap : Nat) (C : List Int) (hX : XR w A [.u8] X n) (hc : n ≤ cap) : (ssLp A X n cap C).ok Try.prog w := by
  intro s t h
  unfold ssLp at h
  simp only at h
  split at h
  · rename_i p _
    split at h
    · rename_i x _
      cases h
      exact loop_ok base2 (ctrs_none _ w) (callT_ok base2.mixed base2.names base2.eqs (ctrs_none _ w).ok (ctrs_none _ w).there (pre_none _ _) (loops_none _ _) 20) ((loops_none _ _) 6) (c := roundOf (bodyAt Try.prog 6 0)) (by kernel_rfl) (id := 0) (n := 2) (hr := false) (ro := ssRo) (rf := ssRf) (rr := ssRb) (st := ssSt A X n cap C p) (fin := ssFin A X n cap C p) (bck := ssBck A X n cap C p) (inv := ssInv A X n cap C p) (post := ssPost A X n cap C p) (back := ssBack A X n cap C p) (nx := ssNxX) (fx := ssNxY) (bx := ssNxZ) (ssMu A X n cap C p) (nf := 2) (nf' := 2) (nf'' := 2) (fun x => by kernel_rfl) (fun y => by kernel_rfl) (fun z => nomatch z) (.inr fun z => nomatch z) (fun x hx => ss_step w A X n cap C p x hX hc hx) s x
    · cases h
  · cases h
theorem small_tree (w : World) (A : Option Addr) (X : List Int) (n cap : Nat) (A2 : Option Addr) (L : List Int) (k cap2 : Nat) (C : List Int) :
    callV Try.prog w (flatT Try.prog) (ctrOf awT) (preOf w tab9) (lpOf Try.prog [ssLp A X n cap C]) 20 6 [.v (.one (.xr A [.u8] X n cap)), .v (.one (.xr A2 [.u16, .u16] L k cap2))] =
(.br (decide ((↑n : Int) > (3000 : Int)))
 (.leaf (.v (.one (.bool true true))))
 (.br (decide ((↑k : Int) > (60 : Int)))
  (.leaf (.v (.one (.bool true true))))
  (.chk ((sym.XR w A [IntKind.u8] X n ∧ n ≤ cap) ∧
  (sym.XR w A2 [IntKind.u16, IntKind.u16] L k ∧ k ≤ cap2) ∧ True)
  (.chk (n ≤ (16000 : Nat) ∧ k ≤ (1000 : Nat) ∧ ∀ (j : Nat), W (L.getD j (0 : Int)))
  (.all fun x : RowR n =>
   (.chk ((sym.XR w A [IntKind.u8] X n ∧ n ≤ cap) ∧
  (x.nl = x.nl ∧ ((0 : Nat) + n) * [IntKind.u8].length ≤ (chg X L).length ∧ n ≤ x.cap) ∧
    True)
   (.chk (n ≤ (16000 : Nat))
   (.all fun x_1 : RowR
  (pk n n X
      (sym.cutL (chg X L) (0 : Nat) ((0 : Nat) + n)
        [IntKind.u8].length)).length =>
    (.chk (sym.textAt Go.Proofs.Try.prog (6 : Go.FuncId) (0 : Nat) = sym.textAt Go.Proofs.Try.prog (6 : Go.FuncId) (0 : Nat))
    (.chk (A = A ∧ [IntKind.u8] = [IntKind.u8] ∧ X = X ∧ n = n ∧ cap = cap)
    (.chk (x.nl = x.nl ∧ [IntKind.u8].length = (1 : Nat) ∧ (0 : Nat) = (0 : Nat) ∧ n = n ∧ x.cap = x.cap)
    (.chk (x_1.nl = x_1.nl ∧
  [IntKind.u8].length = (1 : Nat) ∧
    (0 : Nat) = (0 : Nat) ∧
      (pk n n X
              (sym.cutL (chg X L) (0 : Nat) ((0 : Nat) + n)
                [IntKind.u8].length)).length =
          (pk n n X
              (sym.cutL (chg X L) (0 : Nat) ((0 : Nat) + n)
                [IntKind.u8].length)).length ∧
        x_1.cap = x_1.cap)
    (.chk (IntKind.i64 = IntKind.i64 ∧ (0 : Int) = (↑(0 : Nat) : Int))
    (.chk (IntKind.i64 = IntKind.i64 ∧ (0 : Int) = (↑(0 : Nat) : Int))
    (.chk (IntKind.i64 = IntKind.i64 ∧ (↑n : Int) = (↑n : Int))
    (.chk (IntKind.i64 = IntKind.i64 ∧ (0 : Int) = (↑(0 : Nat) : Int))
    (.chk (x.nl = x.nl ∧
  [IntKind.u8] = [IntKind.u8] ∧
    chg X L = chg X L ∧ x.cap = x.cap)
    (.chk (x_1.nl = x_1.nl ∧
  [IntKind.u8] = [IntKind.u8] ∧
    pk n n X
          (sym.cutL (chg X L) (0 : Nat) ((0 : Nat) + n)
            [IntKind.u8].length) =
        pk n n X
          (sym.cutL (chg X L) (0 : Nat) ((0 : Nat) + n)
            [IntKind.u8].length) ∧
      x_1.cap = x_1.cap)
    (.chk (ssInv A X n cap C
  { D := chg X L, nl := x.nl, r := n, d := x.cap,
    P :=
      pk n n X
        (sym.cutL (chg X L) (0 : Nat) ((0 : Nat) + n)
          [IntKind.u8].length),
    pl :=
      (pk n n X
          (sym.cutL (chg X L) (0 : Nat) ((0 : Nat) + n)
            [IntKind.u8].length)).length,
    pn := x_1.nl, pc := x_1.cap }
  { a := (0 : Nat), b := (0 : Nat), i := (0 : Nat) })
    (.all fun x_2 : sym.Got ssY
  (ssPost A X n cap C
    { D := chg X L, nl := x.nl, r := n, d := x.cap,
      P :=
        pk n n X
          (sym.cutL (chg X L) (0 : Nat) ((0 : Nat) + n)
            [IntKind.u8].length),
      pl :=
        (pk n n X
            (sym.cutL (chg X L) (0 : Nat) ((0 : Nat) + n)
              [IntKind.u8].length)).length,
      pn := x_1.nl, pc := x_1.cap }) =>
     (.leaf (.v (.one (.bool false (decide
  ((↑(pk n n X
            (sym.cutL (chg X L) (0 : Nat) ((0 : Nat) + n)
              [IntKind.u8].length)).length :
      Int) ≤
    IntKind.i64.wrap
      (IntKind.i64.wrap
          (IntKind.i64.wrap ((↑x_2.1.1 : Int) + IntKind.i64.wrap ((3 : Int) * (↑x_2.1.2 : Int))) +
            IntKind.i64.wrap ((6 : Int) * (↑x_2.1.2 : Int))) +
        (6 : Int)))))))))))))))))))))))))))) := by kernel_rfl
set_option maxHeartbeats 2000000 in
theorem small_walk (w : World) (A : Option Addr) (X : List Int) (n cap : Nat) (A2 : Option Addr) (L : List Int) (k cap2 : Nat) (hX : XR w A [.u8] X n) (hc : n ≤ cap) (hb : Bs X) (hL : XR w A2 [.u16, .u16] L k) (hc2 : k ≤ cap2) (hW : ∀ j, W (L.getD j 0)) : Calls Try.prog 6 #[.slice A n cap, .slice A2 k cap2] w fun e w' => e = .returned (.bool true) ∧ Below w.heap.size w w' := by
  have hn : X.length = n := by simpa using hX.1
  have hg : (chg X L).length = n := by rw [chg_len, hn]
  refine val_eq base2 (awT_ok w) (preOf_ok tab9_ok w) (lps_ok (ls := [ssLp A X n cap (chg X L)]) fun l hl => ?_) (small_tree w A X n cap A2 L k cap2 (chg X L)) rfl ?_
  · simp only [List.mem_cons, List.not_mem_nil, or_false] at hl
    subst hl
    exact ssLp_ok w _ _ _ _ _ hX hc
  rw [own_cut hg]
  by_cases hbig : 3000 < n
  · exact ⟨fun _ => ⟨rfl, rfl⟩, fun h => absurd (of_decide_eq_false h) (by omega)⟩
  have l1 := pk_len n n X (chg X L)
  have sm := pack_small _ X (chg X L) (Nat.le_refl _) (by omega)
  have e0 : pk n n X (chg X L) = pack X (chg X L) := by unfold pk; rw [if_pos rfl]
  simp only [T.holds, show ((0 : Nat) : Int) = 0 from rfl, List.length_singleton, Nat.mul_one, Nat.zero_add, true_and, and_true, and_self]
  refine ⟨fun _ => ⟨rfl, rfl⟩, fun _ => ⟨fun _ => ⟨rfl, rfl⟩, fun hk => ⟨⟨⟨hX, hc⟩, hL, hc2⟩, ⟨by omega, by have := of_decide_eq_false hk; omega, hW⟩, fun g => ⟨⟨⟨hX, hc⟩, by omega, g.le⟩, by omega, fun g2 => ?_⟩⟩⟩⟩
  refine ⟨⟨rfl, rfl, hg, fun e => (g.nil e).1, by omega, Nat.zero_le _, ⟨Nat.zero_le _, Nat.zero_le _⟩, by show 0 + (cnt (pv _ _ 0) (X.drop 0) ((chg X L).drop 0)).1 = _; rw [Nat.zero_add]; rfl, by show 0 + (cnt (pv _ _ 0) (X.drop 0) ((chg X L).drop 0)).2 = _; rw [Nat.zero_add]; rfl⟩, fun y => ⟨rfl, ?_⟩⟩
  obtain ⟨⟨a, b⟩, ⟨y1, y2⟩, y3⟩ := y
  simp only at y1 y2 y3
  have w1 : IntKind.i64.wrap (3 * (b : Int)) = 3 * b := wi64 _ (by omega) (by omega)
  have w2 : IntKind.i64.wrap (6 * (b : Int)) = 6 * b := wi64 _ (by omega) (by omega)
  have w3 : IntKind.i64.wrap ((a : Int) + 3 * b) = a + 3 * b := wi64 _ (by omega) (by omega)
  have w4 : IntKind.i64.wrap ((a : Int) + 3 * b + 6 * b) = a + 3 * b + 6 * b := wi64 _ (by omega) (by omega)
  have w5 : IntKind.i64.wrap ((a : Int) + 3 * b + 6 * b + 6) = a + 3 * b + 6 * b + 6 := wi64 _ (by omega) (by omega)
  simp only [AV.γ, V.γ, Sc.γ, w1, w2, w3, w4, w5]
  congr 1
  rw [decide_eq_true_eq, e0]
  omega
theorem back_tree (w : World) (A : Option Addr) (X : List Int) (n cap : Nat) (A2 : Option Addr) (L : List Int) (k cap2 : Nat) :
    callV Try.prog w (flatT Try.prog) (ctrOf awT) (preOf w tab9) (lpOf Try.prog [fewLp Try.prog w (flatT Try.prog) 4 0 2]) 20 4 [.v (.one (.xr A [.u8] X n cap)), .v (.one (.xr A2 [.u16, .u16] L k cap2))] =
(.br (decide ((↑n : Int) > (3000 : Int)))
 (.leaf (.v (.one (.bool true true))))
 (.br (decide ((↑k : Int) > (60 : Int)))
  (.leaf (.v (.one (.bool true true))))
  (.chk ((sym.XR w A [IntKind.u8] X n ∧ n ≤ cap) ∧
  (sym.XR w A2 [IntKind.u16, IntKind.u16] L k ∧ k ≤ cap2) ∧ True)
  (.chk (n ≤ (16000 : Nat) ∧ k ≤ (1000 : Nat) ∧ ∀ (j : Nat), W (L.getD j (0 : Int)))
  (.all fun x : RowR n =>
   (.chk ((sym.XR w A [IntKind.u8] X n ∧ n ≤ cap) ∧
  (x.nl = x.nl ∧ ((0 : Nat) + n) * [IntKind.u8].length ≤ (chg X L).length ∧ n ≤ x.cap) ∧
    True)
   (.chk (n ≤ (16000 : Nat))
   (.all fun x_1 : RowR
  (pk n n X
      (sym.cutL (chg X L) (0 : Nat) ((0 : Nat) + n)
        [IntKind.u8].length)).length =>
    (.chk ((sym.XR w A [IntKind.u8] X n ∧ n ≤ cap) ∧
  (x_1.nl = x_1.nl ∧
      ((0 : Nat) +
              (pk n n X
                  (sym.cutL (chg X L) (0 : Nat) ((0 : Nat) + n)
                    [IntKind.u8].length)).length) *
            [IntKind.u8].length ≤
          (pk n n X
              (sym.cutL (chg X L) (0 : Nat) ((0 : Nat) + n)
                [IntKind.u8].length)).length ∧
        (pk n n X
              (sym.cutL (chg X L) (0 : Nat) ((0 : Nat) + n)
                [IntKind.u8].length)).length ≤
          x_1.cap) ∧
    True)
    (.chk (n ≤ (16000 : Nat) ∧
  (pk n n X
          (sym.cutL (chg X L) (0 : Nat) ((0 : Nat) + n)
            [IntKind.u8].length)).length ≤
      (1000000 : Nat) ∧
    Bs X ∧
      Bs
        (sym.cutL
          (pk n n X
            (sym.cutL (chg X L) (0 : Nat) ((0 : Nat) + n)
              [IntKind.u8].length))
          (0 : Nat)
          ((0 : Nat) +
            (pk n n X
                (sym.cutL (chg X L) (0 : Nat) ((0 : Nat) + n)
                  [IntKind.u8].length)).length)
          [IntKind.u8].length))
    (.all fun x_2 : RowR
  (unp X
        (sym.cutL
          (pk n n X
            (sym.cutL (chg X L) (0 : Nat) ((0 : Nat) + n)
              [IntKind.u8].length))
          (0 : Nat)
          ((0 : Nat) +
            (pk n n X
                (sym.cutL (chg X L) (0 : Nat) ((0 : Nat) + n)
                  [IntKind.u8].length)).length)
          [IntKind.u8].length)).snd.length =>
     (.chk ((sym.XR w A [IntKind.u8] X n ∧ n ≤ cap) ∧
  (sym.XR w A [IntKind.u8] X n ∧ n ≤ cap) ∧ True)
     (.chk (n ≤ (16000 : Nat))
     (.all fun x_3 : RowR (pk n n X X).length =>
      (.chk (sym.textAt Go.Proofs.Try.prog (4 : Nat) (0 : Nat) = sym.textAt Go.Proofs.Try.prog (4 : Nat) (0 : Nat))
      (.br (decide ((↑n : Int) ≥ (128 : Int)))
       (.br (decide (IntKind.i64.wrap ((↑n : Int).tdiv (128 : Int)) ≥ (128 : Int)))
        (.fail "rounds")
        (.br (pe n n == (0 : Int))
         (.br ((unp X
      (sym.cutL
        (pk n n X
          (sym.cutL (chg X L) (0 : Nat) ((0 : Nat) + n)
            [IntKind.u8].length))
        (0 : Nat)
        ((0 : Nat) +
          (pk n n X
              (sym.cutL (chg X L) (0 : Nat) ((0 : Nat) + n)
                [IntKind.u8].length)).length)
        [IntKind.u8].length)).fst ==
  (0 : Int))
          (.chk ((x_2.nl = x_2.nl ∧
    ((0 : Nat) +
            (unp X
                  (sym.cutL
                    (pk n n X
                      (sym.cutL (chg X L) (0 : Nat)
                        ((0 : Nat) + n) [IntKind.u8].length))
                    (0 : Nat)
                    ((0 : Nat) +
                      (pk n n X
                          (sym.cutL (chg X L) (0 : Nat)
                            ((0 : Nat) + n) [IntKind.u8].length)).length)
                    [IntKind.u8].length)).snd.length) *
          [IntKind.u8].length ≤
        (unp X
              (sym.cutL
                (pk n n X
                  (sym.cutL (chg X L) (0 : Nat) ((0 : Nat) + n)
                    [IntKind.u8].length))
                (0 : Nat)
                ((0 : Nat) +
                  (pk n n X
                      (sym.cutL (chg X L) (0 : Nat)
                        ((0 : Nat) + n) [IntKind.u8].length)).length)
                [IntKind.u8].length)).snd.length ∧
      (unp X
              (sym.cutL
                (pk n n X
                  (sym.cutL (chg X L) (0 : Nat) ((0 : Nat) + n)
                    [IntKind.u8].length))
                (0 : Nat)
                ((0 : Nat) +
                  (pk n n X
                      (sym.cutL (chg X L) (0 : Nat)
                        ((0 : Nat) + n) [IntKind.u8].length)).length)
                [IntKind.u8].length)).snd.length ≤
        x_2.cap) ∧
  (x.nl = x.nl ∧ ((0 : Nat) + n) * [IntKind.u8].length ≤ (chg X L).length ∧ n ≤ x.cap) ∧
    True)
          (.chk ((unp X
        (sym.cutL
          (pk n n X
            (sym.cutL (chg X L) (0 : Nat) ((0 : Nat) + n)
              [IntKind.u8].length))
          (0 : Nat)
          ((0 : Nat) +
            (pk n n X
                (sym.cutL (chg X L) (0 : Nat) ((0 : Nat) + n)
                  [IntKind.u8].length)).length)
          [IntKind.u8].length)).snd.length ≤
  (1000000000 : Nat))
          (.br (decide
  (sym.cutL
      (unp X
          (sym.cutL
            (pk n n X
              (sym.cutL (chg X L) (0 : Nat) ((0 : Nat) + n)
                [IntKind.u8].length))
            (0 : Nat)
            ((0 : Nat) +
              (pk n n X
                  (sym.cutL (chg X L) (0 : Nat) ((0 : Nat) + n)
                    [IntKind.u8].length)).length)
            [IntKind.u8].length)).snd
      (0 : Nat)
      ((0 : Nat) +
        (unp X
              (sym.cutL
                (pk n n X
                  (sym.cutL (chg X L) (0 : Nat) ((0 : Nat) + n)
                    [IntKind.u8].length))
                (0 : Nat)
                ((0 : Nat) +
                  (pk n n X
                      (sym.cutL (chg X L) (0 : Nat)
                        ((0 : Nat) + n) [IntKind.u8].length)).length)
                [IntKind.u8].length)).snd.length)
      [IntKind.u8].length =
    sym.cutL (chg X L) (0 : Nat) ((0 : Nat) + n)
      [IntKind.u8].length))
           (.br (pe n n == (0 : Int))
            (.leaf (.v (.one (.bool false ((↑(pk n n X X).length : Int) == IntKind.i64.wrap ((1 : Int) + (1 : Int)))))))
            (.leaf (.v (.one (.bool true false)))))
           (.leaf (.v (.one (.bool true false)))))))
          (.leaf (.v (.one (.bool true false)))))
         (.leaf (.v (.one (.bool true false))))))
       (.br (pe n n == (0 : Int))
        (.br ((unp X
      (sym.cutL
        (pk n n X
          (sym.cutL (chg X L) (0 : Nat) ((0 : Nat) + n)
            [IntKind.u8].length))
        (0 : Nat)
        ((0 : Nat) +
          (pk n n X
              (sym.cutL (chg X L) (0 : Nat) ((0 : Nat) + n)
                [IntKind.u8].length)).length)
        [IntKind.u8].length)).fst ==
  (0 : Int))
         (.chk ((x_2.nl = x_2.nl ∧
    ((0 : Nat) +
            (unp X
                  (sym.cutL
                    (pk n n X
                      (sym.cutL (chg X L) (0 : Nat)
                        ((0 : Nat) + n) [IntKind.u8].length))
                    (0 : Nat)
                    ((0 : Nat) +
                      (pk n n X
                          (sym.cutL (chg X L) (0 : Nat)
                            ((0 : Nat) + n) [IntKind.u8].length)).length)
                    [IntKind.u8].length)).snd.length) *
          [IntKind.u8].length ≤
        (unp X
              (sym.cutL
                (pk n n X
                  (sym.cutL (chg X L) (0 : Nat) ((0 : Nat) + n)
                    [IntKind.u8].length))
                (0 : Nat)
                ((0 : Nat) +
                  (pk n n X
                      (sym.cutL (chg X L) (0 : Nat)
                        ((0 : Nat) + n) [IntKind.u8].length)).length)
                [IntKind.u8].length)).snd.length ∧
      (unp X
              (sym.cutL
                (pk n n X
                  (sym.cutL (chg X L) (0 : Nat) ((0 : Nat) + n)
                    [IntKind.u8].length))
                (0 : Nat)
                ((0 : Nat) +
                  (pk n n X
                      (sym.cutL (chg X L) (0 : Nat)
                        ((0 : Nat) + n) [IntKind.u8].length)).length)
                [IntKind.u8].length)).snd.length ≤
        x_2.cap) ∧
  (x.nl = x.nl ∧ ((0 : Nat) + n) * [IntKind.u8].length ≤ (chg X L).length ∧ n ≤ x.cap) ∧
    True)
         (.chk ((unp X
        (sym.cutL
          (pk n n X
            (sym.cutL (chg X L) (0 : Nat) ((0 : Nat) + n)
              [IntKind.u8].length))
          (0 : Nat)
          ((0 : Nat) +
            (pk n n X
                (sym.cutL (chg X L) (0 : Nat) ((0 : Nat) + n)
                  [IntKind.u8].length)).length)
          [IntKind.u8].length)).snd.length ≤
  (1000000000 : Nat))
         (.br (decide
  (sym.cutL
      (unp X
          (sym.cutL
            (pk n n X
              (sym.cutL (chg X L) (0 : Nat) ((0 : Nat) + n)
                [IntKind.u8].length))
            (0 : Nat)
            ((0 : Nat) +
              (pk n n X
                  (sym.cutL (chg X L) (0 : Nat) ((0 : Nat) + n)
                    [IntKind.u8].length)).length)
            [IntKind.u8].length)).snd
      (0 : Nat)
      ((0 : Nat) +
        (unp X
              (sym.cutL
                (pk n n X
                  (sym.cutL (chg X L) (0 : Nat) ((0 : Nat) + n)
                    [IntKind.u8].length))
                (0 : Nat)
                ((0 : Nat) +
                  (pk n n X
                      (sym.cutL (chg X L) (0 : Nat)
                        ((0 : Nat) + n) [IntKind.u8].length)).length)
                [IntKind.u8].length)).snd.length)
      [IntKind.u8].length =
    sym.cutL (chg X L) (0 : Nat) ((0 : Nat) + n)
      [IntKind.u8].length))
          (.br (pe n n == (0 : Int))
           (.leaf (.v (.one (.bool false ((↑(pk n n X X).length : Int) == (1 : Int))))))
           (.leaf (.v (.one (.bool true false)))))
          (.leaf (.v (.one (.bool true false)))))))
         (.leaf (.v (.one (.bool true false)))))
        (.leaf (.v (.one (.bool true false))))))))))))))))))))) := by kernel_rfl
set_option maxHeartbeats 2000000 in
theorem back_walk (w : World) (A : Option Addr) (X : List Int) (n cap : Nat) (A2 : Option Addr) (L : List Int) (k cap2 : Nat) (hX : XR w A [.u8] X n) (hc : n ≤ cap) (hb : Bs X) (hL : XR w A2 [.u16, .u16] L k) (hc2 : k ≤ cap2) (hW : ∀ j, W (L.getD j 0)) : Calls Try.prog 4 #[.slice A n cap, .slice A2 k cap2] w fun e w' => e = .returned (.bool true) ∧ Below w.heap.size w w' := by
  have hn : X.length = n := by simpa using hX.1
  have hg : (chg X L).length = n := by rw [chg_len, hn]
  refine val_eq base2 (awT_ok w) (preOf_ok tab9_ok w) (lps_ok (ls := [fewLp Try.prog w (flatT Try.prog) 4 0 2]) fun l hl => ?_) (back_tree w A X n cap A2 L k cap2) rfl ?_
  · simp only [List.mem_cons, List.not_mem_nil, or_false] at hl
    subst hl
    exact fewLp_ok base2 w (by kernel_rfl) rfl rfl
  rw [own_cut hg]
  by_cases hbig : 3000 < n
  · exact ⟨fun _ => ⟨rfl, rfl⟩, fun h => absurd (of_decide_eq_false h) (by omega)⟩
  have l1 := pk_len n n X (chg X L)
  have e0 : pk n n X (chg X L) = pack X (chg X L) := by unfold pk; rw [if_pos rfl]
  have e1 : pk n n X X = num n := by unfold pk; rw [if_pos rfl, pack_self, hn]
  have e2 : pe n n = 0 := by unfold pe; rw [if_pos rfl]
  have hbc : Bs (pk n n X (chg X L)) := by rw [e0]; exact pack_B _ _ _ (Nat.le_refl _) (by omega) (chg_Bs hb L)
  rw [own_cut (rfl : (pk n n X (chg X L)).length = _)]
  have hu : unp X (pk n n X (chg X L)) = (0, chg X L) := by rw [e0]; exact unp_pack (by omega) (by omega)
  rw [hu, e1]
  have g1 := num_len n
  have v1 : IntKind.i64.wrap ((n : Int).tdiv 128) = ((n / 128 : Nat) : Int) := by rw [Int.tdiv_eq_ediv_of_nonneg (by omega), wi64 _ (by omega) (by omega)]; omega
  simp only [T.holds, e2, own_cut1, List.length_singleton, Nat.mul_one, Nat.zero_add, true_and, and_true, and_self, v1, hg, own_cut hg, beq_self_eq_true, decide_true, forall_const, Bool.true_eq_false, false_implies]
  have own1 : cutL (chg X L) 0 n 1 = chg X L := by
    have := own_cut1 (chg X L)
    rwa [hg] at this
  try simp only [own1, beq_self_eq_true, decide_true, forall_const, Bool.true_eq_false, false_implies, and_true]
  refine ⟨fun _ => ⟨rfl, rfl⟩, fun _ => ⟨fun _ => ⟨rfl, rfl⟩, fun hk => ⟨⟨⟨hX, hc⟩, hL, hc2⟩, ⟨by omega, by have := of_decide_eq_false hk; omega, hW⟩, fun g => ⟨⟨⟨hX, hc⟩, by omega, g.le⟩, by omega, fun g2 => ?_⟩⟩⟩⟩
  refine ⟨⟨⟨hX, hc⟩, Nat.le_refl _, g2.le⟩, ⟨by omega, by omega, hb, hbc⟩, fun x => ⟨⟨hX, hc⟩, by omega, fun z => ?_⟩⟩
  have xl := x.le
  refine ⟨fun hge => ⟨fun h => ?_, fun _ => ⟨⟨⟨Nat.le_refl _, by omega⟩, Nat.le_refl _, g.le⟩, by omega, rfl, ?_⟩⟩, fun hlt => ⟨⟨⟨Nat.le_refl _, by omega⟩, Nat.le_refl _, g.le⟩, by omega, rfl, ?_⟩⟩
  · have := of_decide_eq_true h
    omega
  · have hge := of_decide_eq_true hge
    have : (num n).length = 2 := by unfold num; rw [if_neg (by omega)]; rfl
    rw [this]
    rfl
  · have hlt := of_decide_eq_false hlt
    have : (num n).length = 1 := by unfold num; rw [if_pos (by omega)]; rfl
    rw [this]
    rfl
end Go.Proofs.Ytcfnfihemejjkaa
