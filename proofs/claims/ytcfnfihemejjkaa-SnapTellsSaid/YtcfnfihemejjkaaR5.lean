/-
  Contract of the document's pack. Bytes are below 256, at most 16000 of them; no other condition.
-/
import Derived.Test.YtcfnfihemejjkaaR4
namespace Go.Proofs.Ytcfnfihemejjkaa
open Go.RowKit sym
set_option linter.unusedVariables false
set_option linter.unusedSimpArgs false
set_option maxRecDepth 100000
def tab3 : List RCtr := [ralikeC, numberC]
theorem tab3_ok : ∀ c ∈ tab3, c.Ok Try.prog := fun c hc => by
  simp only [tab3, List.mem_cons, List.not_mem_nil, or_false] at hc
  rcases hc with rfl | rfl
  · exact ralikeC_ok
  · exact numberC_ok
structure riP where
  R : List Int
  r : Nat
  nl : Bool
  d : Nat
  i : Nat
structure riX where
  k : Nat
def riSt (A : Option Addr) (X : List Int) (n cap : Nat) (A2 : Option Addr) (Y : List Int) (m cap2 : Nat) : riP → riX → ASt := fun ⟨R, r, nl, d, i⟩ ⟨k⟩ => ⟨slots (List.replicate 75 .any) [(0, .v (.one (.xr A [.u8] X n cap))), (1, .v (.one (.xr A2 [.u8] Y m cap2))), (6, .v (.one (.gs 2 nl 1 0 r d))), (7, .v (.one (.int false .i64 (i : Int)))), (9, .v (.one (.int false .i64 (k : Int))))], [⟨[.dead], 5⟩, ⟨[.dead], 5⟩, ⟨[.row nl [.u8] R d], 5⟩]⟩
def riFin (A : Option Addr) (X : List Int) (n cap : Nat) (A2 : Option Addr) (Y : List Int) (m cap2 : Nat) : riP → riX → ASt := fun ⟨R, r, nl, d, i⟩ ⟨k⟩ => ⟨slots (List.replicate 75 .any) [(0, .v (.one (.xr A [.u8] X n cap))), (1, .v (.one (.xr A2 [.u8] Y m cap2))), (6, .v (.one (.gs 2 nl 1 0 r d))), (7, .v (.one (.int false .i64 (i : Int)))), (9, .v (.one (.int false .i64 (k : Int))))], [⟨[.dead], 5⟩, ⟨[.dead], 5⟩, ⟨[.row nl [.u8] R d], 5⟩]⟩
def riBck (A : Option Addr) (X : List Int) (n cap : Nat) (A2 : Option Addr) (Y : List Int) (m cap2 : Nat) : riP → Empty → ASt := fun _ z => nomatch z
def riNxP : ASt → Option riP := fun s => match sym.gX s 6 with | none => none | some R => match sym.gL s 6 with | none => none | some r => match sym.gN s 6 with | none => none | some nl => match sym.gC s 6 with | none => none | some d => match (sym.gI s 7).map Int.toNat with | none => none | some i => some ⟨R, r, nl, d, i⟩
def riNxX : ASt → Option riX := fun s => match (sym.gI s 9).map Int.toNat with | none => none | some k => some ⟨k⟩
def riNxZ : ASt → Option Empty := fun _ => none
def riRo : ASt → List (Option Nat) := (fun _ => [])
def riRf : ASt → List (Option Nat) := (fun _ => [])
def riRb : ASt → List (Option Nat) := (fun _ => [])
structure riInv (A : Option Addr) (X : List Int) (n cap : Nat) (A2 : Option Addr) (Y : List Int) (m cap2 : Nat) (p : riP) (x : riX) : Prop where
  k1 : p.i + x.k ≤ m
  mn : m = n
  big : n ≤ 16000
  eq : oth (X.drop p.i) (Y.drop p.i) x.k = oth (X.drop p.i) (Y.drop p.i) 0
structure riPost (A : Option Addr) (X : List Int) (n cap : Nat) (A2 : Option Addr) (Y : List Int) (m cap2 : Nat) (p : riP) (x : riX) : Prop where
  eq : x.k = oth (X.drop p.i) (Y.drop p.i) 0
def riBack (A : Option Addr) (X : List Int) (n cap : Nat) (A2 : Option Addr) (Y : List Int) (m cap2 : Nat) (p : riP) (x : Empty) : Prop := False
def riLp (A : Option Addr) (X : List Int) (n cap : Nat) (A2 : Option Addr) (Y : List Int) (m cap2 : Nat) : Lp := ⟨12, 2, fun s => match riNxP s with
  | some p => match riNxX s with
    | some x => some (loopT 2 3 false riRo (riSt A X n cap A2 Y m cap2 p) (riFin A X n cap A2 Y m cap2 p) (riBck A X n cap A2 Y m cap2 p) (riInv A X n cap A2 Y m cap2 p) (riPost A X n cap A2 Y m cap2 p) (riBack A X n cap A2 Y m cap2 p) s x)
    | none => none
  | none => none⟩
theorem ristep_tree (w : World) (A : Option Addr) (X : List Int) (n cap : Nat) (A2 : Option Addr) (Y : List Int) (m cap2 : Nat) (R : List Int) (r : Nat) (nl : Bool) (d : Nat) (i : Nat) (k : Nat) :
    roundT Try.prog w (flatT Try.prog) (noCtr) (callT Try.prog w (flatT Try.prog) (noCtr) (preOf w tab3) (noLoop) 20) ((noLoop) 12) (roundOf (bodyAt Try.prog 12 2)) 2 3 riRo riRf riRb (riSt A X n cap A2 Y m cap2 ⟨R, r, nl, d, i⟩) (riFin A X n cap A2 Y m cap2 ⟨R, r, nl, d, i⟩) (riBck A X n cap A2 Y m cap2 ⟨R, r, nl, d, i⟩) riNxX riNxX riNxZ ⟨k⟩ =
(.br (decide (IntKind.i64.wrap ((↑i : Int) + (↑k : Int)) < (↑m : Int)))
 (.chk ((sym.XR w A [IntKind.u8] X n ∧ n ≤ cap) ∧
  (sym.XR w A2 [IntKind.u8] Y m ∧ m ≤ cap2) ∧ True)
 (.chk (n ≤ (1000000000 : Nat) ∧
  m = n ∧
    (0 : Int) ≤ IntKind.i64.wrap ((↑i : Int) + (↑k : Int)) ∧
      IntKind.i64.wrap ((↑i : Int) + (↑k : Int)) ≤ (↑n : Int))
 (.br (decide
  ((↑(lcp (List.drop (IntKind.i64.wrap ((↑i : Int) + (↑k : Int))).toNat X)
          (List.drop (IntKind.i64.wrap ((↑i : Int) + (↑k : Int))).toNat Y)) :
      Int) ≥
    (4 : Int)))
  (.chk (A = A ∧ [IntKind.u8] = [IntKind.u8] ∧ X = X ∧ n = n ∧ cap = cap)
  (.chk (A2 = A2 ∧ [IntKind.u8] = [IntKind.u8] ∧ Y = Y ∧ m = m ∧ cap2 = cap2)
  (.chk (nl = nl ∧ (1 : Nat) = (1 : Nat) ∧ (0 : Nat) = (0 : Nat) ∧ r = r ∧ d = d)
  (.chk (IntKind.i64 = IntKind.i64 ∧ (↑i : Int) = (↑i : Int))
  (.chk (IntKind.i64 = IntKind.i64 ∧ (↑k : Int) = (↑(↑k : Int).toNat : Int))
  (.chk (nl = nl ∧ [IntKind.u8] = [IntKind.u8] ∧ R = R ∧ d = d)
  (.leaf (.inr (.inl ⟨(↑k : Int).toNat⟩)))))))))
  (.br (IntKind.i64.wrap
    (IntKind.i64.wrap ((↑i : Int) + (↑k : Int)) +
      (↑(lcp (List.drop (IntKind.i64.wrap ((↑i : Int) + (↑k : Int))).toNat X)
            (List.drop (IntKind.i64.wrap ((↑i : Int) + (↑k : Int))).toNat Y)) :
        Int)) ==
  (↑m : Int))
   (.chk (A = A ∧ [IntKind.u8] = [IntKind.u8] ∧ X = X ∧ n = n ∧ cap = cap)
   (.chk (A2 = A2 ∧ [IntKind.u8] = [IntKind.u8] ∧ Y = Y ∧ m = m ∧ cap2 = cap2)
   (.chk (nl = nl ∧ (1 : Nat) = (1 : Nat) ∧ (0 : Nat) = (0 : Nat) ∧ r = r ∧ d = d)
   (.chk (IntKind.i64 = IntKind.i64 ∧ (↑i : Int) = (↑i : Int))
   (.chk (IntKind.i64 = IntKind.i64 ∧ (↑k : Int) = (↑(↑k : Int).toNat : Int))
   (.chk (nl = nl ∧ [IntKind.u8] = [IntKind.u8] ∧ R = R ∧ d = d)
   (.leaf (.inr (.inl ⟨(↑k : Int).toNat⟩)))))))))
   (.chk (A = A ∧ [IntKind.u8] = [IntKind.u8] ∧ X = X ∧ n = n ∧ cap = cap)
   (.chk (A2 = A2 ∧ [IntKind.u8] = [IntKind.u8] ∧ Y = Y ∧ m = m ∧ cap2 = cap2)
   (.chk (nl = nl ∧ (1 : Nat) = (1 : Nat) ∧ (0 : Nat) = (0 : Nat) ∧ r = r ∧ d = d)
   (.chk (IntKind.i64 = IntKind.i64 ∧ (↑i : Int) = (↑i : Int))
   (.chk (IntKind.i64 = IntKind.i64 ∧
  IntKind.i64.wrap
      (IntKind.i64.wrap
          ((↑k : Int) +
            (↑(lcp (List.drop (IntKind.i64.wrap ((↑i : Int) + (↑k : Int))).toNat X)
                  (List.drop (IntKind.i64.wrap ((↑i : Int) + (↑k : Int))).toNat Y)) :
              Int)) +
        (1 : Int)) =
    (↑(IntKind.i64.wrap
            (IntKind.i64.wrap
                ((↑k : Int) +
                  (↑(lcp (List.drop (IntKind.i64.wrap ((↑i : Int) + (↑k : Int))).toNat X)
                        (List.drop (IntKind.i64.wrap ((↑i : Int) + (↑k : Int))).toNat Y)) :
                    Int)) +
              (1 : Int))).toNat :
      Int))
   (.chk (nl = nl ∧ [IntKind.u8] = [IntKind.u8] ∧ R = R ∧ d = d)
   (.leaf (.inl ⟨(IntKind.i64.wrap
    (IntKind.i64.wrap
        ((↑k : Int) +
          (↑(lcp (List.drop (IntKind.i64.wrap ((↑i : Int) + (↑k : Int))).toNat X)
                (List.drop (IntKind.i64.wrap ((↑i : Int) + (↑k : Int))).toNat Y)) :
            Int)) +
      (1 : Int))).toNat⟩))))))))))))
 (.chk (A = A ∧ [IntKind.u8] = [IntKind.u8] ∧ X = X ∧ n = n ∧ cap = cap)
 (.chk (A2 = A2 ∧ [IntKind.u8] = [IntKind.u8] ∧ Y = Y ∧ m = m ∧ cap2 = cap2)
 (.chk (nl = nl ∧ (1 : Nat) = (1 : Nat) ∧ (0 : Nat) = (0 : Nat) ∧ r = r ∧ d = d)
 (.chk (IntKind.i64 = IntKind.i64 ∧ (↑i : Int) = (↑i : Int))
 (.chk (IntKind.i64 = IntKind.i64 ∧ (↑k : Int) = (↑(↑k : Int).toNat : Int))
 (.chk (nl = nl ∧ [IntKind.u8] = [IntKind.u8] ∧ R = R ∧ d = d)
 (.leaf (.inr (.inl ⟨(↑k : Int).toNat⟩)))))))))) := by kernel_rfl
def riMu (A : Option Addr) (X : List Int) (n cap : Nat) (A2 : Option Addr) (Y : List Int) (m cap2 : Nat) (p : riP) (x : riX) : Nat := m - (x.k + p.i)
theorem ri_step (w : World) (A : Option Addr) (X : List Int) (n cap : Nat) (A2 : Option Addr) (Y : List Int) (m cap2 : Nat) (p : riP) (x : riX) (hX : XR w A [.u8] X n) (hY : XR w A2 [.u8] Y m) (hcX : n ≤ cap) (hcY : m ≤ cap2) (h : riInv A X n cap A2 Y m cap2 p x) : Hid (roundT Try.prog w (flatT Try.prog) (noCtr) (callT Try.prog w (flatT Try.prog) (noCtr) (preOf w tab3) (noLoop) 20) ((noLoop) 12) (roundOf (bodyAt Try.prog 12 2)) 2 3 riRo riRf riRb (riSt A X n cap A2 Y m cap2 p) (riFin A X n cap A2 Y m cap2 p) (riBck A X n cap A2 Y m cap2 p) riNxX riNxX riNxZ x) (Kept (riInv A X n cap A2 Y m cap2 p) (riPost A X n cap A2 Y m cap2 p) (riBack A X n cap A2 Y m cap2 p) (riMu A X n cap A2 Y m cap2 p) x) := by
  obtain ⟨R, r, nl, d, i⟩ := p
  obtain ⟨k⟩ := x
  constructor
  rw [ristep_tree]
  simp only [T.holds, Kept, riMu, and_self, true_and, and_true]
  obtain ⟨k1, mn, big, eq⟩ := h
  simp only at k1 mn big eq
  have hn : X.length = n := by simpa using hX.1
  have hm : Y.length = m := by simpa using hY.1
  have hw : IntKind.i64.wrap ((i : Int) + (k : Int)) = ((i + k : Nat) : Int) := by rw [wi64 _ (by omega) (by omega)]; omega
  have hL := (lcp_le (X.drop (i + k)) (Y.drop (i + k))).2
  simp only [List.length_drop] at hL
  have w1 : IntKind.i64.wrap (((i + k : Nat) : Int) + (lcp (X.drop (i + k)) (Y.drop (i + k)) : Nat)) = ((i + k + lcp (X.drop (i + k)) (Y.drop (i + k)) : Nat) : Int) := by rw [wi64 _ (by omega) (by omega)]; omega
  have w2 : IntKind.i64.wrap ((k : Int) + (lcp (X.drop (i + k)) (Y.drop (i + k)) : Nat)) = ((k + lcp (X.drop (i + k)) (Y.drop (i + k)) : Nat) : Int) := by rw [wi64 _ (by omega) (by omega)]; omega
  have w3 : IntKind.i64.wrap (((k + lcp (X.drop (i + k)) (Y.drop (i + k)) : Nat) : Int) + 1) = ((k + lcp (X.drop (i + k)) (Y.drop (i + k)) + 1 : Nat) : Int) := by rw [wi64 _ (by omega) (by omega)]; omega
  simp only [hw, List.length_singleton, Int.toNat_natCast, w1, w2, w3, true_and, and_true, and_self]
  refine ⟨fun hlt => ?_, fun hge => ?_⟩
  · have hlt : i + k < m := by have := of_decide_eq_true hlt; omega
    refine ⟨⟨⟨hX, hcX⟩, hY, hcY⟩, ⟨by omega, by omega, by omega, by omega⟩, fun h4 => ⟨?_⟩, fun h4 => ⟨fun h5 => ⟨?_⟩, fun h5 => ⟨⟨?_, mn, big, ?_⟩, ?_⟩⟩⟩
    · have h4 := of_decide_eq_true h4
      show k = _
      rw [← eq, oth_stop fun _ => .inl (by rw [List.drop_drop, List.drop_drop]; omega)]
    · have h5 : ((i + k + lcp (X.drop (i + k)) (Y.drop (i + k)) : Nat) : Int) = m := by simpa using h5
      show k = _
      rw [← eq, oth_stop fun _ => .inr (by rw [List.drop_drop, List.drop_drop, List.length_drop]; omega)]
    all_goals
      have h4 := of_decide_eq_false h4
      have h5 : ¬ ((i + k + lcp (X.drop (i + k)) (Y.drop (i + k)) : Nat) : Int) = m := by simpa using h5
    · show i + (k + _ + 1) ≤ m
      omega
    · show oth (X.drop i) (Y.drop i) (k + _ + 1) = _
      rw [← eq, oth_next (k := k) (by rw [List.length_drop]; omega) (by rw [List.drop_drop, List.drop_drop, List.length_drop]; omega), List.drop_drop, List.drop_drop]
    · omega
  · have hge := of_decide_eq_false hge
    refine ⟨?_⟩
    show k = _
    rw [← eq, oth_stop fun h => by rw [List.length_drop] at h; omega]
theorem riLp_ok (w : World) (A : Option Addr) (X : List Int) (n cap : Nat) (A2 : Option Addr) (Y : List Int) (m cap2 : Nat) (hX : XR w A [.u8] X n) (hY : XR w A2 [.u8] Y m) (hcX : n ≤ cap) (hcY : m ≤ cap2) : (riLp A X n cap A2 Y m cap2).ok Try.prog w := by
  intro s t h
  unfold riLp at h
  simp only at h
  split at h
  · rename_i p _
    split at h
    · rename_i x _
      cases h
      exact loop_ok base2 (ctrs_none _ w) (callT_ok base2.mixed base2.names base2.eqs (ctrs_none _ w).ok (ctrs_none _ w).there (preOf_ok tab3_ok w) (loops_none _ _) 20) ((loops_none _ _) 12) (c := roundOf (bodyAt Try.prog 12 2)) (by kernel_rfl) (id := 2) (n := 3) (hr := false) (ro := riRo) (rf := riRf) (rr := riRb) (st := riSt A X n cap A2 Y m cap2 p) (fin := riFin A X n cap A2 Y m cap2 p) (bck := riBck A X n cap A2 Y m cap2 p) (inv := riInv A X n cap A2 Y m cap2 p) (post := riPost A X n cap A2 Y m cap2 p) (back := riBack A X n cap A2 Y m cap2 p) (nx := riNxX) (fx := riNxX) (bx := riNxZ) (riMu A X n cap A2 Y m cap2 p) (nf := 3) (nf' := 3) (nf'' := 3) (fun x => by kernel_rfl) (fun y => by kernel_rfl) (fun z => nomatch z) (.inr fun z => nomatch z) (fun x hx => ri_step w A X n cap A2 Y m cap2 p x hX hY hcX hcY hx) s x
    · cases h
  · cases h
structure rpP where
structure rpX where
  R : List Int
  r : Nat
  nl : Bool
  d : Nat
  i : Nat
structure rpZ where
  R : List Int
  r : Nat
  nl : Bool
  d : Nat
def rpSt (A : Option Addr) (X : List Int) (n cap : Nat) (A2 : Option Addr) (Y : List Int) (m cap2 : Nat) : rpP → rpX → ASt := fun ⟨⟩ ⟨R, r, nl, d, i⟩ => ⟨slots (List.replicate 75 .any) [(0, .v (.one (.xr A [.u8] X n cap))), (1, .v (.one (.xr A2 [.u8] Y m cap2))), (6, .v (.one (.gs 0 nl 1 0 r d))), (7, .v (.one (.int false .i64 (i : Int))))], [⟨[.row nl [.u8] R d], 5⟩]⟩
def rpFin (A : Option Addr) (X : List Int) (n cap : Nat) (A2 : Option Addr) (Y : List Int) (m cap2 : Nat) : rpP → rpX → ASt := fun ⟨⟩ ⟨R, r, nl, d, i⟩ => ⟨slots (List.replicate 75 .any) [(0, .v (.one (.xr A [.u8] X n cap))), (1, .v (.one (.xr A2 [.u8] Y m cap2))), (6, .v (.one (.gs 0 nl 1 0 r d))), (7, .v (.one (.int false .i64 (i : Int))))], [⟨[.row nl [.u8] R d], 5⟩]⟩
def rpBck (A : Option Addr) (X : List Int) (n cap : Nat) (A2 : Option Addr) (Y : List Int) (m cap2 : Nat) : rpP → rpZ → ASt := fun ⟨⟩ ⟨R, r, nl, d⟩ => ⟨slots (List.replicate 75 .any) [(4, .v (.one (.gs 0 nl 1 0 r d))), (5, .v (.one (.int true .i64 0)))], [⟨[.row nl [.u8] R d], 5⟩]⟩
def rpNxP : ASt → Option rpP := fun s => some ⟨⟩
def rpNxX : ASt → Option rpX := fun s => match sym.gX s 6 with | none => none | some R => match sym.gL s 6 with | none => none | some r => match sym.gN s 6 with | none => none | some nl => match sym.gC s 6 with | none => none | some d => match (sym.gI s 7).map Int.toNat with | none => none | some i => some ⟨R, r, nl, d, i⟩
def rpNxZ : ASt → Option rpZ := fun s => match sym.gX s 4 with | none => none | some R => match sym.gL s 4 with | none => none | some r => match sym.gN s 4 with | none => none | some nl => match sym.gC s 4 with | none => none | some d => some ⟨R, r, nl, d⟩
def rpRo : ASt → List (Option Nat) := (fun s => [sym.rowAt s 6])
def rpRf : ASt → List (Option Nat) := (fun s => [sym.rowAt s 6])
def rpRb : ASt → List (Option Nat) := (fun s => [sym.rowAt s 4])
structure rpInv (A : Option Addr) (X : List Int) (n cap : Nat) (A2 : Option Addr) (Y : List Int) (m cap2 : Nat) (p : rpP) (x : rpX) : Prop where
  i1 : x.i ≤ m
  mn : m = n
  big : n ≤ 16000
  rl : x.R.length = x.r
  rd : x.r ≤ x.d ∧ x.d ≤ maxLen
  nil : x.nl = true → x.r = 0 ∧ x.d = 0
  sm : x.r + 5 * (m - x.i) ≤ 1000000
  eq : x.R ++ pack (X.drop x.i) (Y.drop x.i) = pack X Y
structure rpPost (A : Option Addr) (X : List Int) (n cap : Nat) (A2 : Option Addr) (Y : List Int) (m cap2 : Nat) (p : rpP) (x : rpX) : Prop where
  no : False
structure rpBack (A : Option Addr) (X : List Int) (n cap : Nat) (A2 : Option Addr) (Y : List Int) (m cap2 : Nat) (p : rpP) (x : rpZ) : Prop where
  rl : x.R.length = x.r
  rd : x.r ≤ x.d ∧ x.d ≤ maxLen
  nil : x.nl = true → x.r = 0 ∧ x.d = 0
  eq : x.R = pack X Y
def rpLp (A : Option Addr) (X : List Int) (n cap : Nat) (A2 : Option Addr) (Y : List Int) (m cap2 : Nat) : Lp := ⟨12, 0, fun s => match rpNxP s with
  | some p => match rpNxX s with
    | some x => some (loopT 0 0 true rpRo (rpSt A X n cap A2 Y m cap2 p) (rpFin A X n cap A2 Y m cap2 p) (rpBck A X n cap A2 Y m cap2 p) (rpInv A X n cap A2 Y m cap2 p) (rpPost A X n cap A2 Y m cap2 p) (rpBack A X n cap A2 Y m cap2 p) s x)
    | none => none
  | none => none⟩
theorem rpstep_tree (w : World) (A : Option Addr) (X : List Int) (n cap : Nat) (A2 : Option Addr) (Y : List Int) (m cap2 : Nat) (R : List Int) (r : Nat) (nl : Bool) (d : Nat) (i : Nat) :
    roundT Try.prog w (flatT Try.prog) (noCtr) (callT Try.prog w (flatT Try.prog) (noCtr) (preOf w tab3) (lpOf Try.prog [riLp A X n cap A2 Y m cap2]) 20) ((lpOf Try.prog [riLp A X n cap A2 Y m cap2]) 12) (roundOf (bodyAt Try.prog 12 0)) 0 0 rpRo rpRf rpRb (rpSt A X n cap A2 Y m cap2 ⟨⟩) (rpFin A X n cap A2 Y m cap2 ⟨⟩) (rpBck A X n cap A2 Y m cap2 ⟨⟩) rpNxX rpNxX rpNxZ ⟨R, r, nl, d, i⟩ =
(.chk ((sym.XR w A [IntKind.u8] X n ∧ n ≤ cap) ∧
  (sym.XR w A2 [IntKind.u8] Y m ∧ m ≤ cap2) ∧ True)
(.chk (n ≤ (1000000000 : Nat) ∧ m = n ∧ (0 : Int) ≤ (↑i : Int) ∧ (↑i : Int) ≤ (↑n : Int))
(.chk (True)
(.chk ((0 : Int) ≤ (↑(lcp (List.drop (↑i : Int).toNat X) (List.drop (↑i : Int).toNat Y)) : Int) ∧
  (↑(lcp (List.drop (↑i : Int).toNat X) (List.drop (↑i : Int).toNat Y)) : Int) <
    (16384 : Int))
(.all fun x : RowR
  (num
      (↑(lcp (List.drop (↑i : Int).toNat X) (List.drop (↑i : Int).toNat Y)) :
          Int).toNat).length =>
 (.chk ((x.nl = x.nl ∧
    ((0 : Nat) +
            (num
                (↑(lcp (List.drop (↑i : Int).toNat X) (List.drop (↑i : Int).toNat Y)) :
                    Int).toNat).length) *
          [IntKind.u8].length ≤
        (num
            (↑(lcp (List.drop (↑i : Int).toNat X) (List.drop (↑i : Int).toNat Y)) :
                Int).toNat).length ∧
      (num
            (↑(lcp (List.drop (↑i : Int).toNat X) (List.drop (↑i : Int).toNat Y)) :
                Int).toNat).length ≤
        x.cap) ∧
  (nl = nl ∧
      (0 : Nat) = (0 : Nat) ∧
        d = d ∧ r * [IntKind.u8].length ≤ R.length ∧ r ≤ d ∧ d ≤ Go.maxLen ∧ (nl = true → d = (0 : Nat))) ∧
    (r +
          (num
              (↑(lcp (List.drop (↑i : Int).toNat X) (List.drop (↑i : Int).toNat Y)) :
                  Int).toNat).length) *
        (1 : Nat) ≤
      (140737488355328 : Nat))
 (.all fun x_1 : sym.Grown nl
  (num
      (↑(lcp (List.drop (↑i : Int).toNat X) (List.drop (↑i : Int).toNat Y)) :
          Int).toNat).length
  (r +
    (num
        (↑(lcp (List.drop (↑i : Int).toNat X) (List.drop (↑i : Int).toNat Y)) :
            Int).toNat).length) =>
  (.br (IntKind.i64.wrap
    ((↑i : Int) +
      (↑(lcp (List.drop (↑i : Int).toNat X) (List.drop (↑i : Int).toNat Y)) : Int)) ==
  (↑m : Int))
   (.chk (x_1.nl' = x_1.nl' ∧
  [IntKind.u8].length = (1 : Nat) ∧
    (0 : Nat) = (0 : Nat) ∧
      r +
            (num
                (↑(lcp (List.drop (↑i : Int).toNat X) (List.drop (↑i : Int).toNat Y)) :
                    Int).toNat).length =
          r +
            (num
                (↑(lcp (List.drop (↑i : Int).toNat X) (List.drop (↑i : Int).toNat Y)) :
                    Int).toNat).length ∧
        x_1.cap = x_1.cap)
   (.chk (IntKind.i64 = IntKind.i64 ∧ (0 : Int) = (0 : Int))
   (.chk (x_1.nl' = x_1.nl' ∧
  [IntKind.u8] = [IntKind.u8] ∧
    List.take (r * [IntKind.u8].length) R ++
          sym.cutL
            (num
              (↑(lcp (List.drop (↑i : Int).toNat X) (List.drop (↑i : Int).toNat Y)) :
                  Int).toNat)
            (0 : Nat)
            ((0 : Nat) +
              (num
                  (↑(lcp (List.drop (↑i : Int).toNat X) (List.drop (↑i : Int).toNat Y)) :
                      Int).toNat).length)
            [IntKind.u8].length =
        List.take (r * [IntKind.u8].length) R ++
          sym.cutL
            (num
              (↑(lcp (List.drop (↑i : Int).toNat X) (List.drop (↑i : Int).toNat Y)) :
                  Int).toNat)
            (0 : Nat)
            ((0 : Nat) +
              (num
                  (↑(lcp (List.drop (↑i : Int).toNat X) (List.drop (↑i : Int).toNat Y)) :
                      Int).toNat).length)
            [IntKind.u8].length ∧
      x_1.cap = x_1.cap)
   (.leaf (.inr (.inr ⟨List.take (r * [IntKind.u8].length) R ++
  sym.cutL
    (num
      (↑(lcp (List.drop (↑i : Int).toNat X) (List.drop (↑i : Int).toNat Y)) : Int).toNat)
    (0 : Nat)
    ((0 : Nat) +
      (num
          (↑(lcp (List.drop (↑i : Int).toNat X) (List.drop (↑i : Int).toNat Y)) :
              Int).toNat).length)
    [IntKind.u8].length, r +
  (num
      (↑(lcp (List.drop (↑i : Int).toNat X) (List.drop (↑i : Int).toNat Y)) :
          Int).toNat).length, x_1.nl', x_1.cap⟩))))))
   (.chk (sym.textAt Go.Proofs.Try.prog (12 : Go.FuncId) (2 : Nat) = sym.textAt Go.Proofs.Try.prog (12 : Go.FuncId) (2 : Nat))
   (.chk (A = A ∧ [IntKind.u8] = [IntKind.u8] ∧ X = X ∧ n = n ∧ cap = cap)
   (.chk (A2 = A2 ∧ [IntKind.u8] = [IntKind.u8] ∧ Y = Y ∧ m = m ∧ cap2 = cap2)
   (.chk (x_1.nl' = x_1.nl' ∧
  [IntKind.u8].length = (1 : Nat) ∧
    (0 : Nat) = (0 : Nat) ∧
      r +
            (num
                (↑(lcp (List.drop (↑i : Int).toNat X) (List.drop (↑i : Int).toNat Y)) :
                    Int).toNat).length =
          r +
            (num
                (↑(lcp (List.drop (↑i : Int).toNat X) (List.drop (↑i : Int).toNat Y)) :
                    Int).toNat).length ∧
        x_1.cap = x_1.cap)
   (.chk (IntKind.i64 = IntKind.i64 ∧
  IntKind.i64.wrap
      ((↑i : Int) +
        (↑(lcp (List.drop (↑i : Int).toNat X) (List.drop (↑i : Int).toNat Y)) : Int)) =
    (↑(IntKind.i64.wrap
            ((↑i : Int) +
              (↑(lcp (List.drop (↑i : Int).toNat X) (List.drop (↑i : Int).toNat Y)) :
                Int))).toNat :
      Int))
   (.chk (IntKind.i64 = IntKind.i64 ∧ (0 : Int) = (↑(0 : Nat) : Int))
   (.chk (x_1.nl' = x_1.nl' ∧
  [IntKind.u8] = [IntKind.u8] ∧
    List.take (r * [IntKind.u8].length) R ++
          sym.cutL
            (num
              (↑(lcp (List.drop (↑i : Int).toNat X) (List.drop (↑i : Int).toNat Y)) :
                  Int).toNat)
            (0 : Nat)
            ((0 : Nat) +
              (num
                  (↑(lcp (List.drop (↑i : Int).toNat X) (List.drop (↑i : Int).toNat Y)) :
                      Int).toNat).length)
            [IntKind.u8].length =
        List.take (r * [IntKind.u8].length) R ++
          sym.cutL
            (num
              (↑(lcp (List.drop (↑i : Int).toNat X) (List.drop (↑i : Int).toNat Y)) :
                  Int).toNat)
            (0 : Nat)
            ((0 : Nat) +
              (num
                  (↑(lcp (List.drop (↑i : Int).toNat X) (List.drop (↑i : Int).toNat Y)) :
                      Int).toNat).length)
            [IntKind.u8].length ∧
      x_1.cap = x_1.cap)
   (.chk (riInv A X n cap A2 Y m cap2
  {
    R :=
      List.take (r * [IntKind.u8].length) R ++
        sym.cutL
          (num
            (↑(lcp (List.drop (↑i : Int).toNat X) (List.drop (↑i : Int).toNat Y)) :
                Int).toNat)
          (0 : Nat)
          ((0 : Nat) +
            (num
                (↑(lcp (List.drop (↑i : Int).toNat X) (List.drop (↑i : Int).toNat Y)) :
                    Int).toNat).length)
          [IntKind.u8].length,
    r :=
      r +
        (num
            (↑(lcp (List.drop (↑i : Int).toNat X) (List.drop (↑i : Int).toNat Y)) :
                Int).toNat).length,
    nl := x_1.nl', d := x_1.cap,
    i :=
      (IntKind.i64.wrap
          ((↑i : Int) +
            (↑(lcp (List.drop (↑i : Int).toNat X) (List.drop (↑i : Int).toNat Y)) :
              Int))).toNat }
  { k := (0 : Nat) })
   (.all fun x_2 : sym.Got riX
  (riPost A X n cap A2 Y m cap2
    {
      R :=
        List.take (r * [IntKind.u8].length) R ++
          sym.cutL
            (num
              (↑(lcp (List.drop (↑i : Int).toNat X) (List.drop (↑i : Int).toNat Y)) :
                  Int).toNat)
            (0 : Nat)
            ((0 : Nat) +
              (num
                  (↑(lcp (List.drop (↑i : Int).toNat X) (List.drop (↑i : Int).toNat Y)) :
                      Int).toNat).length)
            [IntKind.u8].length,
      r :=
        r +
          (num
              (↑(lcp (List.drop (↑i : Int).toNat X) (List.drop (↑i : Int).toNat Y)) :
                  Int).toNat).length,
      nl := x_1.nl', d := x_1.cap,
      i :=
        (IntKind.i64.wrap
            ((↑i : Int) +
              (↑(lcp (List.drop (↑i : Int).toNat X) (List.drop (↑i : Int).toNat Y)) :
                Int))).toNat }) =>
    (.chk (True)
    (.chk ((0 : Int) ≤ (↑x_2.1.1 : Int) ∧ (↑x_2.1.1 : Int) < (16384 : Int))
    (.all fun x_3 : RowR (num (↑x_2.1.1 : Int).toNat).length =>
     (.chk ((x_3.nl = x_3.nl ∧
    ((0 : Nat) + (num (↑x_2.1.1 : Int).toNat).length) * [IntKind.u8].length ≤
        (num (↑x_2.1.1 : Int).toNat).length ∧
      (num (↑x_2.1.1 : Int).toNat).length ≤ x_3.cap) ∧
  (x_1.nl' = x_1.nl' ∧
      (0 : Nat) = (0 : Nat) ∧
        x_1.cap = x_1.cap ∧
          (r +
                  (num
                      (↑(lcp (List.drop (↑i : Int).toNat X) (List.drop (↑i : Int).toNat Y)) :
                          Int).toNat).length) *
                [IntKind.u8].length ≤
              (List.take (r * [IntKind.u8].length) R ++
                  sym.cutL
                    (num
                      (↑(lcp (List.drop (↑i : Int).toNat X) (List.drop (↑i : Int).toNat Y)) :
                          Int).toNat)
                    (0 : Nat)
                    ((0 : Nat) +
                      (num
                          (↑(lcp (List.drop (↑i : Int).toNat X)
                                  (List.drop (↑i : Int).toNat Y)) :
                              Int).toNat).length)
                    [IntKind.u8].length).length ∧
            r +
                  (num
                      (↑(lcp (List.drop (↑i : Int).toNat X) (List.drop (↑i : Int).toNat Y)) :
                          Int).toNat).length ≤
                x_1.cap ∧
              x_1.cap ≤ Go.maxLen ∧ (x_1.nl' = true → x_1.cap = (0 : Nat))) ∧
    (r +
            (num
                (↑(lcp (List.drop (↑i : Int).toNat X) (List.drop (↑i : Int).toNat Y)) :
                    Int).toNat).length +
          (num (↑x_2.1.1 : Int).toNat).length) *
        (1 : Nat) ≤
      (140737488355328 : Nat))
     (.all fun x_4 : sym.Grown x_1.nl' (num (↑x_2.1.1 : Int).toNat).length
  (r +
      (num
          (↑(lcp (List.drop (↑i : Int).toNat X) (List.drop (↑i : Int).toNat Y)) :
              Int).toNat).length +
    (num (↑x_2.1.1 : Int).toNat).length) =>
      (.chk ((0 : Int) ≤
    (↑(IntKind.i64.wrap
            ((↑i : Int) +
              (↑(lcp (List.drop (↑i : Int).toNat X) (List.drop (↑i : Int).toNat Y)) :
                Int))).toNat :
      Int) ∧
  (↑(IntKind.i64.wrap
              ((↑i : Int) +
                (↑(lcp (List.drop (↑i : Int).toNat X) (List.drop (↑i : Int).toNat Y)) :
                  Int))).toNat :
        Int) ≤
      IntKind.i64.wrap
        ((↑(IntKind.i64.wrap
                  ((↑i : Int) +
                    (↑(lcp (List.drop (↑i : Int).toNat X) (List.drop (↑i : Int).toNat Y)) :
                      Int))).toNat :
            Int) +
          (↑x_2.1.1 : Int)) ∧
    IntKind.i64.wrap
          ((↑(IntKind.i64.wrap
                    ((↑i : Int) +
                      (↑(lcp (List.drop (↑i : Int).toNat X) (List.drop (↑i : Int).toNat Y)) :
                        Int))).toNat :
              Int) +
            (↑x_2.1.1 : Int)) ≤
        (↑m : Int) ∧
      m ≤ cap2)
      (.chk ((sym.XR w
      (sym.cutA A2 cap2
        (↑(IntKind.i64.wrap
                  ((↑i : Int) +
                    (↑(lcp (List.drop (↑i : Int).toNat X) (List.drop (↑i : Int).toNat Y)) :
                      Int))).toNat :
            Int).toNat
        [IntKind.u8].length)
      [IntKind.u8]
      (sym.cutL Y
        (↑(IntKind.i64.wrap
                  ((↑i : Int) +
                    (↑(lcp (List.drop (↑i : Int).toNat X) (List.drop (↑i : Int).toNat Y)) :
                      Int))).toNat :
            Int).toNat
        (IntKind.i64.wrap
            ((↑(IntKind.i64.wrap
                      ((↑i : Int) +
                        (↑(lcp (List.drop (↑i : Int).toNat X)
                              (List.drop (↑i : Int).toNat Y)) :
                          Int))).toNat :
                Int) +
              (↑x_2.1.1 : Int))).toNat
        [IntKind.u8].length)
      ((IntKind.i64.wrap
            ((↑(IntKind.i64.wrap
                      ((↑i : Int) +
                        (↑(lcp (List.drop (↑i : Int).toNat X)
                              (List.drop (↑i : Int).toNat Y)) :
                          Int))).toNat :
                Int) +
              (↑x_2.1.1 : Int))).toNat -
        (↑(IntKind.i64.wrap
                  ((↑i : Int) +
                    (↑(lcp (List.drop (↑i : Int).toNat X) (List.drop (↑i : Int).toNat Y)) :
                      Int))).toNat :
            Int).toNat) ∧
    (IntKind.i64.wrap
            ((↑(IntKind.i64.wrap
                      ((↑i : Int) +
                        (↑(lcp (List.drop (↑i : Int).toNat X)
                              (List.drop (↑i : Int).toNat Y)) :
                          Int))).toNat :
                Int) +
              (↑x_2.1.1 : Int))).toNat -
        (↑(IntKind.i64.wrap
                  ((↑i : Int) +
                    (↑(lcp (List.drop (↑i : Int).toNat X) (List.drop (↑i : Int).toNat Y)) :
                      Int))).toNat :
            Int).toNat ≤
      cap2 -
        (↑(IntKind.i64.wrap
                  ((↑i : Int) +
                    (↑(lcp (List.drop (↑i : Int).toNat X) (List.drop (↑i : Int).toNat Y)) :
                      Int))).toNat :
            Int).toNat) ∧
  (x_4.nl' = x_4.nl' ∧
      (0 : Nat) = (0 : Nat) ∧
        x_4.cap = x_4.cap ∧
          (r +
                    (num
                        (↑(lcp (List.drop (↑i : Int).toNat X)
                                (List.drop (↑i : Int).toNat Y)) :
                            Int).toNat).length +
                  (num (↑x_2.1.1 : Int).toNat).length) *
                [IntKind.u8].length ≤
              (List.take
                    ((r +
                        (num
                            (↑(lcp (List.drop (↑i : Int).toNat X)
                                    (List.drop (↑i : Int).toNat Y)) :
                                Int).toNat).length) *
                      [IntKind.u8].length)
                    (List.take (r * [IntKind.u8].length) R ++
                      sym.cutL
                        (num
                          (↑(lcp (List.drop (↑i : Int).toNat X)
                                  (List.drop (↑i : Int).toNat Y)) :
                              Int).toNat)
                        (0 : Nat)
                        ((0 : Nat) +
                          (num
                              (↑(lcp (List.drop (↑i : Int).toNat X)
                                      (List.drop (↑i : Int).toNat Y)) :
                                  Int).toNat).length)
                        [IntKind.u8].length) ++
                  sym.cutL (num (↑x_2.1.1 : Int).toNat) (0 : Nat)
                    ((0 : Nat) + (num (↑x_2.1.1 : Int).toNat).length)
                    [IntKind.u8].length).length ∧
            r +
                    (num
                        (↑(lcp (List.drop (↑i : Int).toNat X)
                                (List.drop (↑i : Int).toNat Y)) :
                            Int).toNat).length +
                  (num (↑x_2.1.1 : Int).toNat).length ≤
                x_4.cap ∧
              x_4.cap ≤ Go.maxLen ∧ (x_4.nl' = true → x_4.cap = (0 : Nat))) ∧
    (r +
              (num
                  (↑(lcp (List.drop (↑i : Int).toNat X) (List.drop (↑i : Int).toNat Y)) :
                      Int).toNat).length +
            (num (↑x_2.1.1 : Int).toNat).length +
          ((IntKind.i64.wrap
                ((↑(IntKind.i64.wrap
                          ((↑i : Int) +
                            (↑(lcp (List.drop (↑i : Int).toNat X)
                                  (List.drop (↑i : Int).toNat Y)) :
                              Int))).toNat :
                    Int) +
                  (↑x_2.1.1 : Int))).toNat -
            (↑(IntKind.i64.wrap
                      ((↑i : Int) +
                        (↑(lcp (List.drop (↑i : Int).toNat X)
                              (List.drop (↑i : Int).toNat Y)) :
                          Int))).toNat :
                Int).toNat)) *
        (1 : Nat) ≤
      (140737488355328 : Nat))
      (.all fun x_5 : sym.Grown x_4.nl'
  ((IntKind.i64.wrap
        ((↑(IntKind.i64.wrap
                  ((↑i : Int) +
                    (↑(lcp (List.drop (↑i : Int).toNat X) (List.drop (↑i : Int).toNat Y)) :
                      Int))).toNat :
            Int) +
          (↑x_2.1.1 : Int))).toNat -
    (↑(IntKind.i64.wrap
              ((↑i : Int) +
                (↑(lcp (List.drop (↑i : Int).toNat X) (List.drop (↑i : Int).toNat Y)) :
                  Int))).toNat :
        Int).toNat)
  (r +
        (num
            (↑(lcp (List.drop (↑i : Int).toNat X) (List.drop (↑i : Int).toNat Y)) :
                Int).toNat).length +
      (num (↑x_2.1.1 : Int).toNat).length +
    ((IntKind.i64.wrap
          ((↑(IntKind.i64.wrap
                    ((↑i : Int) +
                      (↑(lcp (List.drop (↑i : Int).toNat X) (List.drop (↑i : Int).toNat Y)) :
                        Int))).toNat :
              Int) +
            (↑x_2.1.1 : Int))).toNat -
      (↑(IntKind.i64.wrap
                ((↑i : Int) +
                  (↑(lcp (List.drop (↑i : Int).toNat X) (List.drop (↑i : Int).toNat Y)) :
                    Int))).toNat :
          Int).toNat)) =>
       (.chk (A = A ∧ [IntKind.u8] = [IntKind.u8] ∧ X = X ∧ n = n ∧ cap = cap)
       (.chk (A2 = A2 ∧ [IntKind.u8] = [IntKind.u8] ∧ Y = Y ∧ m = m ∧ cap2 = cap2)
       (.chk (x_5.nl' = x_5.nl' ∧
  [IntKind.u8].length = (1 : Nat) ∧
    (0 : Nat) = (0 : Nat) ∧
      r +
                (num
                    (↑(lcp (List.drop (↑i : Int).toNat X) (List.drop (↑i : Int).toNat Y)) :
                        Int).toNat).length +
              (num (↑x_2.1.1 : Int).toNat).length +
            ((IntKind.i64.wrap
                  ((↑(IntKind.i64.wrap
                            ((↑i : Int) +
                              (↑(lcp (List.drop (↑i : Int).toNat X)
                                    (List.drop (↑i : Int).toNat Y)) :
                                Int))).toNat :
                      Int) +
                    (↑x_2.1.1 : Int))).toNat -
              (↑(IntKind.i64.wrap
                        ((↑i : Int) +
                          (↑(lcp (List.drop (↑i : Int).toNat X)
                                (List.drop (↑i : Int).toNat Y)) :
                            Int))).toNat :
                  Int).toNat) =
          r +
                (num
                    (↑(lcp (List.drop (↑i : Int).toNat X) (List.drop (↑i : Int).toNat Y)) :
                        Int).toNat).length +
              (num (↑x_2.1.1 : Int).toNat).length +
            ((IntKind.i64.wrap
                  ((↑(IntKind.i64.wrap
                            ((↑i : Int) +
                              (↑(lcp (List.drop (↑i : Int).toNat X)
                                    (List.drop (↑i : Int).toNat Y)) :
                                Int))).toNat :
                      Int) +
                    (↑x_2.1.1 : Int))).toNat -
              (↑(IntKind.i64.wrap
                        ((↑i : Int) +
                          (↑(lcp (List.drop (↑i : Int).toNat X)
                                (List.drop (↑i : Int).toNat Y)) :
                            Int))).toNat :
                  Int).toNat) ∧
        x_5.cap = x_5.cap)
       (.chk (IntKind.i64 = IntKind.i64 ∧
  IntKind.i64.wrap
      ((↑(IntKind.i64.wrap
                ((↑i : Int) +
                  (↑(lcp (List.drop (↑i : Int).toNat X) (List.drop (↑i : Int).toNat Y)) :
                    Int))).toNat :
          Int) +
        (↑x_2.1.1 : Int)) =
    (↑(IntKind.i64.wrap
            ((↑(IntKind.i64.wrap
                      ((↑i : Int) +
                        (↑(lcp (List.drop (↑i : Int).toNat X)
                              (List.drop (↑i : Int).toNat Y)) :
                          Int))).toNat :
                Int) +
              (↑x_2.1.1 : Int))).toNat :
      Int))
       (.chk (x_5.nl' = x_5.nl' ∧
  [IntKind.u8] = [IntKind.u8] ∧
    List.take
            ((r +
                  (num
                      (↑(lcp (List.drop (↑i : Int).toNat X) (List.drop (↑i : Int).toNat Y)) :
                          Int).toNat).length +
                (num (↑x_2.1.1 : Int).toNat).length) *
              [IntKind.u8].length)
            (List.take
                ((r +
                    (num
                        (↑(lcp (List.drop (↑i : Int).toNat X)
                                (List.drop (↑i : Int).toNat Y)) :
                            Int).toNat).length) *
                  [IntKind.u8].length)
                (List.take (r * [IntKind.u8].length) R ++
                  sym.cutL
                    (num
                      (↑(lcp (List.drop (↑i : Int).toNat X) (List.drop (↑i : Int).toNat Y)) :
                          Int).toNat)
                    (0 : Nat)
                    ((0 : Nat) +
                      (num
                          (↑(lcp (List.drop (↑i : Int).toNat X)
                                  (List.drop (↑i : Int).toNat Y)) :
                              Int).toNat).length)
                    [IntKind.u8].length) ++
              sym.cutL (num (↑x_2.1.1 : Int).toNat) (0 : Nat)
                ((0 : Nat) + (num (↑x_2.1.1 : Int).toNat).length) [IntKind.u8].length) ++
          sym.cutL Y
            (↑(IntKind.i64.wrap
                      ((↑i : Int) +
                        (↑(lcp (List.drop (↑i : Int).toNat X)
                              (List.drop (↑i : Int).toNat Y)) :
                          Int))).toNat :
                Int).toNat
            (IntKind.i64.wrap
                ((↑(IntKind.i64.wrap
                          ((↑i : Int) +
                            (↑(lcp (List.drop (↑i : Int).toNat X)
                                  (List.drop (↑i : Int).toNat Y)) :
                              Int))).toNat :
                    Int) +
                  (↑x_2.1.1 : Int))).toNat
            [IntKind.u8].length =
        List.take
            ((r +
                  (num
                      (↑(lcp (List.drop (↑i : Int).toNat X) (List.drop (↑i : Int).toNat Y)) :
                          Int).toNat).length +
                (num (↑x_2.1.1 : Int).toNat).length) *
              [IntKind.u8].length)
            (List.take
                ((r +
                    (num
                        (↑(lcp (List.drop (↑i : Int).toNat X)
                                (List.drop (↑i : Int).toNat Y)) :
                            Int).toNat).length) *
                  [IntKind.u8].length)
                (List.take (r * [IntKind.u8].length) R ++
                  sym.cutL
                    (num
                      (↑(lcp (List.drop (↑i : Int).toNat X) (List.drop (↑i : Int).toNat Y)) :
                          Int).toNat)
                    (0 : Nat)
                    ((0 : Nat) +
                      (num
                          (↑(lcp (List.drop (↑i : Int).toNat X)
                                  (List.drop (↑i : Int).toNat Y)) :
                              Int).toNat).length)
                    [IntKind.u8].length) ++
              sym.cutL (num (↑x_2.1.1 : Int).toNat) (0 : Nat)
                ((0 : Nat) + (num (↑x_2.1.1 : Int).toNat).length) [IntKind.u8].length) ++
          sym.cutL Y
            (↑(IntKind.i64.wrap
                      ((↑i : Int) +
                        (↑(lcp (List.drop (↑i : Int).toNat X)
                              (List.drop (↑i : Int).toNat Y)) :
                          Int))).toNat :
                Int).toNat
            (IntKind.i64.wrap
                ((↑(IntKind.i64.wrap
                          ((↑i : Int) +
                            (↑(lcp (List.drop (↑i : Int).toNat X)
                                  (List.drop (↑i : Int).toNat Y)) :
                              Int))).toNat :
                    Int) +
                  (↑x_2.1.1 : Int))).toNat
            [IntKind.u8].length ∧
      x_5.cap = x_5.cap)
       (.leaf (.inl ⟨List.take
    ((r +
          (num
              (↑(lcp (List.drop (↑i : Int).toNat X) (List.drop (↑i : Int).toNat Y)) :
                  Int).toNat).length +
        (num (↑x_2.1.1 : Int).toNat).length) *
      [IntKind.u8].length)
    (List.take
        ((r +
            (num
                (↑(lcp (List.drop (↑i : Int).toNat X) (List.drop (↑i : Int).toNat Y)) :
                    Int).toNat).length) *
          [IntKind.u8].length)
        (List.take (r * [IntKind.u8].length) R ++
          sym.cutL
            (num
              (↑(lcp (List.drop (↑i : Int).toNat X) (List.drop (↑i : Int).toNat Y)) :
                  Int).toNat)
            (0 : Nat)
            ((0 : Nat) +
              (num
                  (↑(lcp (List.drop (↑i : Int).toNat X) (List.drop (↑i : Int).toNat Y)) :
                      Int).toNat).length)
            [IntKind.u8].length) ++
      sym.cutL (num (↑x_2.1.1 : Int).toNat) (0 : Nat)
        ((0 : Nat) + (num (↑x_2.1.1 : Int).toNat).length) [IntKind.u8].length) ++
  sym.cutL Y
    (↑(IntKind.i64.wrap
              ((↑i : Int) +
                (↑(lcp (List.drop (↑i : Int).toNat X) (List.drop (↑i : Int).toNat Y)) :
                  Int))).toNat :
        Int).toNat
    (IntKind.i64.wrap
        ((↑(IntKind.i64.wrap
                  ((↑i : Int) +
                    (↑(lcp (List.drop (↑i : Int).toNat X) (List.drop (↑i : Int).toNat Y)) :
                      Int))).toNat :
            Int) +
          (↑x_2.1.1 : Int))).toNat
    [IntKind.u8].length, r +
      (num
          (↑(lcp (List.drop (↑i : Int).toNat X) (List.drop (↑i : Int).toNat Y)) :
              Int).toNat).length +
    (num (↑x_2.1.1 : Int).toNat).length +
  ((IntKind.i64.wrap
        ((↑(IntKind.i64.wrap
                  ((↑i : Int) +
                    (↑(lcp (List.drop (↑i : Int).toNat X) (List.drop (↑i : Int).toNat Y)) :
                      Int))).toNat :
            Int) +
          (↑x_2.1.1 : Int))).toNat -
    (↑(IntKind.i64.wrap
              ((↑i : Int) +
                (↑(lcp (List.drop (↑i : Int).toNat X) (List.drop (↑i : Int).toNat Y)) :
                  Int))).toNat :
        Int).toNat), x_5.nl', x_5.cap, (IntKind.i64.wrap
    ((↑(IntKind.i64.wrap
              ((↑i : Int) +
                (↑(lcp (List.drop (↑i : Int).toNat X) (List.drop (↑i : Int).toNat Y)) :
                  Int))).toNat :
        Int) +
      (↑x_2.1.1 : Int))).toNat⟩)))))))))))))))))))))))))))))))) := by kernel_rfl
def rpMu (A : Option Addr) (X : List Int) (n cap : Nat) (A2 : Option Addr) (Y : List Int) (m cap2 : Nat) (p : rpP) (x : rpX) : Nat := m - x.i
theorem rp_step (w : World) (A : Option Addr) (X : List Int) (n cap : Nat) (A2 : Option Addr) (Y : List Int) (m cap2 : Nat) (p : rpP) (x : rpX) (hX : XR w A [.u8] X n) (hY : XR w A2 [.u8] Y m) (hcX : n ≤ cap) (hcY : m ≤ cap2) (h : rpInv A X n cap A2 Y m cap2 p x) : Hid (roundT Try.prog w (flatT Try.prog) (noCtr) (callT Try.prog w (flatT Try.prog) (noCtr) (preOf w tab3) (lpOf Try.prog [riLp A X n cap A2 Y m cap2]) 20) ((lpOf Try.prog [riLp A X n cap A2 Y m cap2]) 12) (roundOf (bodyAt Try.prog 12 0)) 0 0 rpRo rpRf rpRb (rpSt A X n cap A2 Y m cap2 p) (rpFin A X n cap A2 Y m cap2 p) (rpBck A X n cap A2 Y m cap2 p) rpNxX rpNxX rpNxZ x) (Kept (rpInv A X n cap A2 Y m cap2 p) (rpPost A X n cap A2 Y m cap2 p) (rpBack A X n cap A2 Y m cap2 p) (rpMu A X n cap A2 Y m cap2 p) x) := by
  obtain ⟨⟩ := p
  obtain ⟨R, r, nl, d, i⟩ := x
  constructor
  rw [rpstep_tree]
  simp only [T.holds, Kept, rpMu, and_self, true_and, and_true]
  obtain ⟨i1, mn, big, rl, rd, nil, sm, eq⟩ := h
  simp only at i1 mn big rl rd nil sm eq
  have hn : X.length = n := by simpa using hX.1
  have hm : Y.length = m := by simpa using hY.1
  have hL := lcp_le (X.drop i) (Y.drop i)
  simp only [List.length_drop] at hL
  have hk := kk_le (X.drop i) (Y.drop i)
  simp only [List.length_drop] at hk
  have hpk := pack.eq_def (X.drop i) (Y.drop i)
  have w1 : IntKind.i64.wrap ((i : Int) + (lcp (X.drop i) (Y.drop i) : Nat)) = ((i + lcp (X.drop i) (Y.drop i) : Nat) : Int) := by rw [wi64 _ (by omega) (by omega)]; omega
  simp only [List.length_singleton, Int.toNat_natCast, Nat.mul_one, Nat.sub_zero, Nat.zero_add, Nat.add_zero, Nat.zero_mul, cut1, List.drop_zero, List.take_length, true_and, and_true, and_self, w1]
  generalize hLL : lcp (X.drop i) (Y.drop i) = L at *
  have g1 := num_len L
  have x1 := fun (l h : Nat) (h1 : l ≤ h) (h2 : h ≤ m) => xr_cut (l := l) (h := h) hY hcY h1 h2
  simp only [List.length_singleton, cut1] at x1
  have f0 : List.take r R = R := List.take_of_length_le (by omega)
  simp only [f0]
  refine ⟨⟨⟨hX, hcX⟩, hY, hcY⟩, ⟨by omega, mn, by omega, by omega⟩, ⟨by omega, by omega⟩, fun a => ⟨⟨⟨Nat.le_refl _, a.le⟩, ⟨Nat.le_of_eq rl.symm, rd.1, rd.2, fun e => (nil e).2⟩, by omega⟩, fun g => ⟨fun he => ⟨?_, ⟨g.le, g.max⟩, (rowR g).nil, ?_⟩, fun hne => ?_⟩⟩⟩
  · show (R ++ num L).length = r + (num L).length
    rw [List.length_append]; omega
  · have he : ((i + L : Nat) : Int) = m := by simpa using he
    show R ++ num L = pack X Y
    rw [← eq, hpk, dif_pos (by rw [List.length_drop]; omega), List.append_nil]
  have hne : ¬ ((i + L : Nat) : Int) = m := by simpa using hne
  have hpos := kk_pos (X.drop i) (Y.drop i) (by rw [List.length_drop]; omega)
  rw [dif_neg (by rw [List.length_drop]; omega)] at hpk
  refine ⟨rfl, ⟨by show i + L + 0 ≤ m; omega, mn, big, rfl⟩, fun y => ?_⟩
  have ye : y.it.k = kk (X.drop i) (Y.drop i) := by
    have := y.so.eq
    simp only [w1, Int.toNat_natCast, ← List.drop_drop] at this
    rw [this]
    unfold kk
    rw [hLL]
  have w4 : IntKind.i64.wrap (((i + L : Nat) : Int) + (y.it.k : Int)) = ((i + L + y.it.k : Nat) : Int) := by rw [wi64 _ (by omega) (by omega)]; omega
  have g2 := num_len y.it.k
  simp only [w4, Int.toNat_natCast, true_and]
  refine ⟨⟨by omega, by omega⟩, fun b => ⟨⟨⟨Nat.le_refl _, b.le⟩, ⟨by rw [List.length_append]; omega, g.le, g.max, g.none⟩, by omega⟩, fun g' => ?_⟩⟩
  have f1 : List.take (r + (num L).length) (R ++ num L) = R ++ num L := List.take_of_length_le (by rw [List.length_append]; omega)
  have f2 : List.take (r + (num L).length + (num y.it.k).length) (R ++ num L ++ num y.it.k) = R ++ num L ++ num y.it.k := List.take_of_length_le (by simp only [List.length_append]; omega)
  rw [f1]
  refine ⟨⟨by omega, by omega, by omega, hcY⟩, ⟨⟨x1 _ _ (by omega) (by omega), by omega⟩, ⟨by simp only [List.length_append]; omega, g'.le, g'.max, g'.none⟩, by omega⟩, fun z => ?_⟩
  rw [f2]
  have z1 := (rowR z).le
  have z2 := (rowR z).max
  have z3 := (rowR z).nil
  simp only [rowR] at z1 z2 z3
  simp only [w1, w4, Int.toNat_natCast] at z1 z3
  refine ⟨⟨?_, mn, big, ?_, ⟨z1, z2⟩, z3, ?_, ?_⟩, by omega⟩
  · show i + L + y.it.k ≤ m; omega
  · show (R ++ num L ++ num y.it.k ++ List.take (i + L + y.it.k - (i + L)) (List.drop (i + L) Y)).length = r + (num L).length + (num y.it.k).length + (i + L + y.it.k - (i + L))
    simp only [List.length_append, List.length_take, List.length_drop]
    omega
  · show r + (num L).length + (num y.it.k).length + (i + L + y.it.k - (i + L)) + 5 * (m - (i + L + y.it.k)) ≤ 1000000
    omega
  · show R ++ num L ++ num y.it.k ++ List.take (i + L + y.it.k - (i + L)) (List.drop (i + L) Y) ++ pack (X.drop (i + L + y.it.k)) (Y.drop (i + L + y.it.k)) = pack X Y
    rw [← eq, hpk, ← ye, List.drop_drop, List.drop_drop, List.drop_drop, show i + L + y.it.k - (i + L) = y.it.k by omega, show i + (L + y.it.k) = i + L + y.it.k by omega]
    simp only [List.append_assoc]
theorem rpLp_ok (w : World) (A : Option Addr) (X : List Int) (n cap : Nat) (A2 : Option Addr) (Y : List Int) (m cap2 : Nat) (hX : XR w A [.u8] X n) (hY : XR w A2 [.u8] Y m) (hcX : n ≤ cap) (hcY : m ≤ cap2) : (rpLp A X n cap A2 Y m cap2).ok Try.prog w := by
  intro s t h
  unfold rpLp at h
  simp only at h
  split at h
  · rename_i p _
    split at h
    · rename_i x _
      cases h
      exact loop_ok base2 (ctrs_none _ w) (callT_ok base2.mixed base2.names base2.eqs (ctrs_none _ w).ok (ctrs_none _ w).there (preOf_ok tab3_ok w) (lps_ok fun l hl => by (simp only [List.mem_cons, List.not_mem_nil, or_false] at hl; subst hl; exact riLp_ok w A X n cap A2 Y m cap2 hX hY hcX hcY)) 20) ((lps_ok fun l hl => by (simp only [List.mem_cons, List.not_mem_nil, or_false] at hl; subst hl; exact riLp_ok w A X n cap A2 Y m cap2 hX hY hcX hcY)) 12) (c := roundOf (bodyAt Try.prog 12 0)) (by kernel_rfl) (id := 0) (n := 0) (hr := true) (ro := rpRo) (rf := rpRf) (rr := rpRb) (st := rpSt A X n cap A2 Y m cap2 p) (fin := rpFin A X n cap A2 Y m cap2 p) (bck := rpBck A X n cap A2 Y m cap2 p) (inv := rpInv A X n cap A2 Y m cap2 p) (post := rpPost A X n cap A2 Y m cap2 p) (back := rpBack A X n cap A2 Y m cap2 p) (nx := rpNxX) (fx := rpNxX) (bx := rpNxZ) (rpMu A X n cap A2 Y m cap2 p) (nf := 1) (nf' := 1) (nf'' := 1) (fun x => by kernel_rfl) (fun y => by kernel_rfl) (fun z => by kernel_rfl) (.inl rfl) (fun x hx => rp_step w A X n cap A2 Y m cap2 p x hX hY hcX hcY hx) s x
    · cases h
  · cases h
theorem rpack_tree (w : World) (A : Option Addr) (X : List Int) (n cap : Nat) (A2 : Option Addr) (Y : List Int) (m cap2 : Nat) :
    callT Try.prog w (flatT Try.prog) (noCtr) (preOf w tab3) (lpOf Try.prog [rpLp A X n cap A2 Y m cap2, riLp A X n cap A2 Y m cap2]) 20 12 [.v (.one (.xr A [.u8] X n cap)), .v (.one (.xr A2 [.u8] Y m cap2))] [] =
(.br ((↑n : Int) != (↑m : Int))
 (.leaf ((.tuple [(.one .nos), (.one (.int true .i64 (6)))]), []))
 (.chk (sym.textAt Go.Proofs.Try.prog (12 : Go.FuncId) (0 : Nat) = sym.textAt Go.Proofs.Try.prog (12 : Go.FuncId) (0 : Nat))
 (.chk (A = A ∧ [IntKind.u8] = [IntKind.u8] ∧ X = X ∧ n = n ∧ cap = cap)
 (.chk (A2 = A2 ∧ [IntKind.u8] = [IntKind.u8] ∧ Y = Y ∧ m = m ∧ cap2 = cap2)
 (.chk (true = true ∧ (0 : Nat) = (0 : Nat) ∧ (0 : Nat) = (0 : Nat))
 (.chk (IntKind.i64 = IntKind.i64 ∧ (0 : Int) = (↑(0 : Nat) : Int))
 (.chk (true = true ∧ ([] : List Int) = [])
 (.chk (rpInv A X n cap A2 Y m cap2 { }
  { R := [], r := (0 : Nat), nl := true, d := (0 : Nat), i := (0 : Nat) })
 (.all fun x : Bool =>
  (.br (x)
   (.all fun x_1 : sym.Got rpX
  (rpPost A X n cap A2 Y m cap2 { }) =>
    (.fail ""))
   (.all fun x_1 : sym.Got rpZ
  (rpBack A X n cap A2 Y m cap2 { }) =>
    (.leaf ((.tuple [(.one (.gs 0 (x_1.1.3) 1 0 (x_1.1.2) (x_1.1.4))), (.one (.int true .i64 (0)))]), [⟨[(.row (x_1.1.3) ([IntKind.u8]) (x_1.1.1) (x_1.1.4))], 5⟩]))))))))))))) := by kernel_rfl
def rpackC : RCtr := ⟨12, [some [.u8], some [.u8]], fun | [.row [.u8] n xs, .row [.u8] m ys] => some (.chk (n ≤ 16000) (.br (decide (n = m)) (.all fun g : RowR (pack xs ys).length => .leaf [.row g.nl 5 [.u8] (pack xs ys) (pack xs ys).length g.cap, .av (.one (.int false .i64 0))]) (.leaf [.row true 5 [.u8] [] 0 0, .av (.one (.int false .i64 6))]))) | _ => none⟩
theorem rpackC_ok : rpackC.Ok Try.prog := by
  refine rctr_ok base2 ⟨_, Try.func12, rfl⟩ (ctr := fun w => noCtr) (fun w => ctrs_none _ w) (pre := fun w => preOf w tab3) (fun w => preOf_ok tab3_ok w) (n := 20) fun w cas args t h ha K hK => ?_
  unfold rpackC at h
  simp only at h
  split at h
  · cases h
    obtain ⟨y0, y1, rfl, q0, q1⟩ := all2_2 ha
    obtain ⟨A, c, rfl, hX, hc⟩ := argRow q0
    obtain ⟨A2, c2, rfl, hY, hc2⟩ := argRow q1
    rename_i n X m Y
    obtain ⟨big, hK⟩ := hK
    refine ⟨lpOf Try.prog [rpLp A X n c A2 Y m c2, riLp A X n c A2 Y m c2], lps_ok fun l hl => ?_, ?_⟩
    · simp only [List.mem_cons, List.not_mem_nil, or_false] at hl
      rcases hl with rfl | rfl
      · exact rpLp_ok w A X n c A2 Y m c2 hX hY hc hc2
      · exact riLp_ok w A X n c A2 Y m c2 hX hY hc hc2
    rw [show rpackC.f = 12 from rfl, rpack_tree]
    simp only [T.holds, and_self, true_and, and_true]
    refine ⟨fun hne => ?_, fun he => ?_⟩
    · have hne : n ≠ m := by rintro rfl; simp at hne
      exact ⟨_, [_, _], hK.2 (by simp [hne]), rfl, .cons .nil (.cons (.av rfl fun _ => rfl) .nil)⟩
    have he : n = m := by have : (n : Int) = m := by simpa using he
                          omega
    have hK := hK.1 (by simp [he])
    refine ⟨rfl, ⟨by show 0 ≤ m; omega, he.symm, big, rfl, ⟨Nat.le_refl _, Nat.zero_le _⟩, fun _ => ⟨rfl, rfl⟩, by show 0 + 5 * (m - 0) ≤ 1000000; omega, rfl⟩, fun b => ⟨fun _ y => y.so.no.elim, fun _ z => ?_⟩⟩
    obtain ⟨⟨xs, len, nl, cap⟩, h1, ⟨h2, h2'⟩, h3, h4⟩ := z
    simp only at h1 h2 h2' h3 h4
    subst h4 h1
    exact ⟨_, [_, _], hK ⟨nl, cap, h3, h2, h2'⟩, rfl, .cons (.row (r := 0) rfl h3) (.cons (.av rfl fun _ => rfl) .nil)⟩
  · cases h
end Go.Proofs.Ytcfnfihemejjkaa
