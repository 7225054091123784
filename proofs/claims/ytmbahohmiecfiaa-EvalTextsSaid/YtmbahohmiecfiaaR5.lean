/-
  The contract of what orders come to, with the document's function to peek by. Rows have at most 1000000 orders; no other condition.
-/
import Derived.Test.YtmbahohmiecfiaaR2
namespace Go.Proofs.Ytmbahohmiecfiaa
open Go.RowKit sym
set_option linter.unusedVariables false
set_option linter.unusedSimpArgs false
set_option maxRecDepth 100000
/-- What is peeked by the document's function. -/
def rpkC (ev : Value) (F : Int → Int) : RCtr := ⟨17, [none, none], fun | [.av (.v y), .av (.v (.one (.int _ .u16 x)))] => some (.chk (y.γ [] = ev ∧ 0 ≤ x ∧ x < 65536) (.leaf [.av (.one (.int false .u8 (F x)))])) | _ => none⟩
def nameB (ev : Value) : Ctr := ⟨22, fun | [.v (.agg [.int _ .u8 qa, .int _ .u8 qf, .int _ .u8 qb, .int _ .u8 qc, .int _ .u8 qd, .int _ .u8 qe, .int _ .u8 qh, .int _ .u8 ql, .int _ .u16 sp, .int _ .u16 pc, .int _ .i64 ad, .int _ .i64 va, .int _ .i64 ki, .int _ .i64 ba, .val v]), .v (.one (.int _ .i64 n))] => some (.chk (v = .func (.func 17) #[ev] #[] ∧ 0 ≤ n ∧ n < 18) (.leaf (.v (.one (.int false .i64 (nameL qa qf qb qc qd qe qh ql sp pc ad va ki ba n)))))) | _ => none⟩
def oneB (ev : Value) (F : Int → Int) : Ctr := ⟨23, fun | [.v (.agg [.int _ .u8 qa, .int _ .u8 qf, .int _ .u8 qb, .int _ .u8 qc, .int _ .u8 qd, .int _ .u8 qe, .int _ .u8 qh, .int _ .u8 ql, .int _ .u16 sp, .int _ .u16 pc, .int _ .i64 ad, .int _ .i64 va, .int _ .i64 ki, .int _ .i64 ba, .val v]), .v (.one (.int _ .i64 op)), .v (.one (.int _ .i64 x))] => some (.chk (v = .func (.func 17) #[ev] #[]) (.leaf (.v (.one (.int false .i64 (oneL F op x)))))) | _ => none⟩
def etabB (ev : Value) (F : Int → Int) : List Ctr := [takesC, twoC, nameB ev, oneB ev F]
theorem Ok_later {c : RCtr} {w0 w : World} (h : c.Ok Try.prog w0) (hb : Below w0.heap.size w0 w) : c.Ok Try.prog w := ⟨h.there, fun w' hw' => h.it w' (hb.trans (hw'.mono hb.size))⟩
theorem Ctr_later {c : Ctr} {w0 w : World} (h : c.ok Try.prog w0) (hb : Below w0.heap.size w0 w) : c.ok Try.prog w := ⟨h.1, fun args t ht => ⟨(h.2 args t ht).1, fun K hK => by
  obtain ⟨x, h1, h2, h3⟩ := (h.2 args t ht).2 K hK
  exact ⟨x, h1, h2, fun w' hw' => h3 w' (hb.trans (hw'.mono hb.size))⟩⟩⟩
theorem pk_ok {ev : Value} {F : Int → Int} {w : World} (hP : (rpkC ev F).Ok Try.prog w) : ∀ c ∈ [rpkC ev F], c.Ok Try.prog w := fun c hc => by
  simp only [List.mem_cons, List.not_mem_nil, or_false] at hc
  subst hc
  exact hP
theorem nameb_tree (w : World) (n : Int) (qa qf qb qc qd qe qh ql sp pc : Int) (ad va ki ba : Int) (ev : Value) :
    callV Try.prog w (flatT Try.prog) (qctr etab) (noPre) (noLoop) 20 22 [.v (.agg [.int false .u8 qa, .int false .u8 qf, .int false .u8 qb, .int false .u8 qc, .int false .u8 qd, .int false .u8 qe, .int false .u8 qh, .int false .u8 ql, .int false .u16 sp, .int false .u16 pc, .int false .i64 ad, .int false .i64 va, .int false .i64 ki, .int false .i64 ba, .val (.func (.func 17) #[ev] #[])]), .v (.one (.int false .i64 n))] =
(.chk ((0 : Int) ≤ n ∧ n < (18 : Int))
(.br (n == (0 : Int))
 (.leaf (.v (.one (.int false .i64 (IntKind.i64.wrap qa)))))
 (.br (n == (1 : Int))
  (.leaf (.v (.one (.int false .i64 (IntKind.i64.wrap (bits BinOp.and IntKind.u8 qf (240 : Int)))))))
  (.br (n == (2 : Int))
   (.leaf (.v (.one (.int false .i64 (IntKind.i64.wrap qb)))))
   (.br (n == (3 : Int))
    (.leaf (.v (.one (.int false .i64 (IntKind.i64.wrap qc)))))
    (.br (n == (4 : Int))
     (.leaf (.v (.one (.int false .i64 (IntKind.i64.wrap qd)))))
     (.br (n == (5 : Int))
      (.leaf (.v (.one (.int false .i64 (IntKind.i64.wrap qe)))))
      (.br (n == (6 : Int))
       (.leaf (.v (.one (.int false .i64 (IntKind.i64.wrap qh)))))
       (.br (n == (7 : Int))
        (.leaf (.v (.one (.int false .i64 (IntKind.i64.wrap ql)))))
        (.br (n == (8 : Int))
         (.leaf (.v (.one (.int false .i64 (pairL (4 : Int) qa qf qb qc qd qe qh ql)))))
         (.br (n == (9 : Int))
          (.leaf (.v (.one (.int false .i64 (pairL (0 : Int) qa qf qb qc qd qe qh ql)))))
          (.br (n == (10 : Int))
           (.leaf (.v (.one (.int false .i64 (pairL (1 : Int) qa qf qb qc qd qe qh ql)))))
           (.br (n == (11 : Int))
            (.leaf (.v (.one (.int false .i64 (pairL (2 : Int) qa qf qb qc qd qe qh ql)))))
            (.br (n == (12 : Int))
             (.leaf (.v (.one (.int false .i64 (IntKind.i64.wrap sp)))))
             (.br (n == (13 : Int))
              (.leaf (.v (.one (.int false .i64 (IntKind.i64.wrap pc)))))
              (.br (n == (14 : Int))
               (.leaf (.v (.one (.int false .i64 (ad)))))
               (.br (n == (15 : Int))
                (.leaf (.v (.one (.int false .i64 (va)))))
                (.br (n == (16 : Int))
                 (.leaf (.v (.one (.int false .i64 (ki)))))
                 (.leaf (.v (.one (.int false .i64 (ba))))))))))))))))))))))) := by kernel_rfl
theorem nameB_ok (ev : Value) (w0 : World)  : (nameB ev).ok Try.prog w0 := by
  refine ⟨⟨_, Try.func22, rfl⟩, fun args t ht => ?_⟩
  unfold nameB at ht
  simp only at ht
  split at ht
  · cases ht
    refine ⟨rfl, fun K hK => ⟨_, hK.2, rfl, fun w _ => ?_⟩⟩
    obtain ⟨⟨rfl, hn⟩, _⟩ := hK
    refine val_eq base2 (qctr_ok (etab_ok w)) (pre_none _ _) (loops_none _ _) (nameb_tree w _ _ _ _ _ _ _ _ _ _ _ _ _ _ _ ev) rfl ?_
    simp only [T.holds, beq_iff_eq, beq_eq_false_iff_ne, bne_iff_ne, bne_eq_false_iff_eq, decide_eq_true_eq, decide_eq_false_iff_not, ne_eq, ge_iff_le, gt_iff_lt, Int.not_lt, Int.not_le]
    refine ⟨hn, ?_⟩
    repeat' (first | exact rfl | (intro _) | (refine And.intro ?_ ?_))
    all_goals first | exact trivial | (rw [wu16]; omega) | omega | (refine γi _ ?_) | (refine γt _ _ ?_ ?_)
    all_goals simp [nameL, *]

  · cases ht
theorem oneb_tree (w : World) (op x : Int) (qa qf qb qc qd qe qh ql sp pc : Int) (ad va ki ba : Int) (ev : Value) (F : Int → Int) :
    callV Try.prog w (flatT Try.prog) (noCtr) (preOf w [rpkC ev F]) (noLoop) 20 23 [.v (.agg [.int false .u8 qa, .int false .u8 qf, .int false .u8 qb, .int false .u8 qc, .int false .u8 qd, .int false .u8 qe, .int false .u8 qh, .int false .u8 ql, .int false .u16 sp, .int false .u16 pc, .int false .i64 ad, .int false .i64 va, .int false .i64 ki, .int false .i64 ba, .val (.func (.func 17) #[ev] #[])]), .v (.one (.int false .i64 op)), .v (.one (.int false .i64 x))] =
(.br (op == (3 : Int))
 (.chk (True)
 (.chk (sym.V.γ []
      (sym.V.one (sym.Sc.val ev)) =
    ev ∧
  (0 : Int) ≤ IntKind.u16.wrap x ∧ IntKind.u16.wrap x < (65536 : Int))
 (.leaf (.v (.one (.int false .i64 (IntKind.i64.wrap (F (IntKind.u16.wrap x)))))))))
 (.br (op == (4 : Int))
  (.leaf (.v (.one (.int false .i64 (IntKind.i64.wrap ((0 : Int) - x))))))
  (.br (op == (5 : Int))
   (.br (x == (0 : Int))
    (.leaf (.v (.one (.int true .i64 (1)))))
    (.leaf (.v (.one (.int true .i64 (0))))))
   (.leaf (.v (.one (.int false .i64 (bits BinOp.xor IntKind.i64 (-1 : Int) x)))))))) := by kernel_rfl
theorem oneB_ok (ev : Value) (F : Int → Int) (w0 : World) (hP : (rpkC ev F).Ok Try.prog w0) : (oneB ev F).ok Try.prog w0 := by
  refine ⟨⟨_, Try.func23, rfl⟩, fun args t ht => ?_⟩
  unfold oneB at ht
  simp only at ht
  split at ht
  · cases ht
    refine ⟨rfl, fun K hK => ⟨_, hK.2, rfl, fun w hw => ?_⟩⟩
    obtain ⟨rfl, _⟩ := hK
    refine val_eq base2 (ctrs_none _ _) (preOf_ok (pk_ok (Ok_later hP hw))) (loops_none _ _) (oneb_tree w _ _ _ _ _ _ _ _ _ _ _ _ _ _ _ _ ev F) rfl ?_
    simp only [T.holds, beq_iff_eq, beq_eq_false_iff_ne, bne_iff_ne, bne_eq_false_iff_eq, decide_eq_true_eq, decide_eq_false_iff_not, ne_eq, ge_iff_le, gt_iff_lt, Int.not_lt, Int.not_le]
    repeat' (first | exact rfl | (intro _) | (refine And.intro ?_ ?_))
    all_goals first | exact trivial | (rw [wu16]; omega) | omega | (refine γi _ ?_) | (refine γt _ _ ?_ ?_)
    all_goals simp [oneL, B2, peekL, F0, *]

  · cases ht
theorem etabB_ok (ev : Value) (F : Int → Int) (w : World) (hP : (rpkC ev F).Ok Try.prog w) : Ctrs Try.prog w (ctrOf (etabB ev F)) := ctrs_of fun c hc => by
  simp only [etabB, List.mem_cons, List.not_mem_nil, or_false] at hc
  rcases hc with rfl | rfl | rfl | rfl
  · exact takesC_ok w
  · exact twoC_ok w
  · exact nameB_ok ev w
  · exact oneB_ok ev F w hP
structure rbP where
structure rbX where
  R : List Int
  r : Nat
  nl : Bool
  d : Nat
  i : Nat
structure rbY where
  R : List Int
  r : Nat
  nl : Bool
  d : Nat
structure rbZ where
  er : Int
def rbSt (A : Option Addr) (L : List Int) (m cap : Nat) (qa qf qb qc qd qe qh ql sp pc : Int) (ad va ki ba : Int) (ev : Value) (F : Int → Int) : rbP → rbX → ASt := fun ⟨⟩ ⟨R, r, nl, d, i⟩ => ⟨slots (List.replicate 84 .any) [(0, .v (.one (.xr A [.i64, .i64] L m cap))), (3, .v (.one (.ptr 0 0))), (4, .v (.one (.int true .i64 0))), (5, .v (.one (.int true .i64 0))), (6, .v (.one (.gs 1 nl 1 0 r d))), (13, .v (.one (.xr A [.i64, .i64] L m cap))), (14, .v (.one (.int false .i64 (m : Int)))), (15, .v (.one (.int false .i64 (i : Int))))], [⟨[.int false .u8 qa, .int false .u8 qf, .int false .u8 qb, .int false .u8 qc, .int false .u8 qd, .int false .u8 qe, .int false .u8 qh, .int false .u8 ql, .int false .u16 sp, .int false .u16 pc, .int false .i64 ad, .int false .i64 va, .int false .i64 ki, .int false .i64 ba, .val (.func (.func 17) #[ev] #[])], 38⟩, ⟨[.row nl [.i64] R d], 3⟩]⟩
def rbFin (A : Option Addr) (L : List Int) (m cap : Nat) (qa qf qb qc qd qe qh ql sp pc : Int) (ad va ki ba : Int) (ev : Value) (F : Int → Int) : rbP → rbY → ASt := fun ⟨⟩ ⟨R, r, nl, d⟩ => ⟨slots (List.replicate 84 .any) [(4, .v (.one (.int true .i64 0))), (5, .v (.one (.int true .i64 0))), (6, .v (.one (.gs 1 nl 1 0 r d)))], [⟨[.int false .u8 qa, .int false .u8 qf, .int false .u8 qb, .int false .u8 qc, .int false .u8 qd, .int false .u8 qe, .int false .u8 qh, .int false .u8 ql, .int false .u16 sp, .int false .u16 pc, .int false .i64 ad, .int false .i64 va, .int false .i64 ki, .int false .i64 ba, .val (.func (.func 17) #[ev] #[])], 38⟩, ⟨[.row nl [.i64] R d], 3⟩]⟩
def rbBck (A : Option Addr) (L : List Int) (m cap : Nat) (qa qf qb qc qd qe qh ql sp pc : Int) (ad va ki ba : Int) (ev : Value) (F : Int → Int) : rbP → rbZ → ASt := fun ⟨⟩ ⟨er⟩ => ⟨slots (List.replicate 84 .any) [(4, .v (.one (.int true .i64 0))), (5, .v (.one (.int false .i64 er)))], [⟨[.dead], 38⟩]⟩
def rbNxP : ASt → Option rbP := fun s => some ⟨⟩
def rbNxX : ASt → Option rbX := fun s => match sym.gX s 6 with | none => none | some R => match sym.gL s 6 with | none => none | some r => match sym.gN s 6 with | none => none | some nl => match sym.gC s 6 with | none => none | some d => match (sym.gI s 15).map Int.toNat with | none => none | some i => some ⟨R, r, nl, d, i⟩
def rbNxY : ASt → Option rbY := fun s => match sym.gX s 6 with | none => none | some R => match sym.gL s 6 with | none => none | some r => match sym.gN s 6 with | none => none | some nl => match sym.gC s 6 with | none => none | some d => some ⟨R, r, nl, d⟩
def rbNxZ : ASt → Option rbZ := fun s => match sym.gI s 5 with | none => none | some er => some ⟨er⟩
def rbRo : ASt → List (Option Nat) := (fun s => [sym.rowAt s 6])
def rbRf : ASt → List (Option Nat) := (fun s => [sym.rowAt s 6])
def rbRb : ASt → List (Option Nat) := (fun s => [])
structure rbInv (A : Option Addr) (L : List Int) (m cap : Nat) (qa qf qb qc qd qe qh ql sp pc : Int) (ad va ki ba : Int) (ev : Value) (F : Int → Int) (p : rbP) (x : rbX) : Prop where
  i1 : x.i ≤ m
  big : m ≤ 1000000
  rl : x.R.length = x.r
  rd : x.r ≤ x.d ∧ x.d ≤ maxLen
  nil : x.nl = true → x.r = 0 ∧ x.d = 0
  ri : x.r ≤ x.i
  eq : evalL (nameL qa qf qb qc qd qe qh ql sp pc ad va ki ba) F (L.drop (x.i * 2)) x.R = evalL (nameL qa qf qb qc qd qe qh ql sp pc ad va ki ba) F L []
structure rbPost (A : Option Addr) (L : List Int) (m cap : Nat) (qa qf qb qc qd qe qh ql sp pc : Int) (ad va ki ba : Int) (ev : Value) (F : Int → Int) (p : rbP) (x : rbY) : Prop where
  rl : x.R.length = x.r
  rd : x.r ≤ x.d ∧ x.d ≤ maxLen
  nil : x.nl = true → x.r = 0 ∧ x.d = 0
  eq : evalL (nameL qa qf qb qc qd qe qh ql sp pc ad va ki ba) F [] x.R = evalL (nameL qa qf qb qc qd qe qh ql sp pc ad va ki ba) F L []
structure rbBack (A : Option Addr) (L : List Int) (m cap : Nat) (qa qf qb qc qd qe qh ql sp pc : Int) (ad va ki ba : Int) (ev : Value) (F : Int → Int) (p : rbP) (x : rbZ) : Prop where
  eq : evalL (nameL qa qf qb qc qd qe qh ql sp pc ad va ki ba) F L [] = (0, x.er)
def rbLp (A : Option Addr) (L : List Int) (m cap : Nat) (qa qf qb qc qd qe qh ql sp pc : Int) (ad va ki ba : Int) (ev : Value) (F : Int → Int) : Lp := ⟨10, 0, fun s => match rbNxP s with
  | some p => match rbNxX s with
    | some x => some (loopT 0 1 true rbRo (rbSt A L m cap qa qf qb qc qd qe qh ql sp pc ad va ki ba ev F p) (rbFin A L m cap qa qf qb qc qd qe qh ql sp pc ad va ki ba ev F p) (rbBck A L m cap qa qf qb qc qd qe qh ql sp pc ad va ki ba ev F p) (rbInv A L m cap qa qf qb qc qd qe qh ql sp pc ad va ki ba ev F p) (rbPost A L m cap qa qf qb qc qd qe qh ql sp pc ad va ki ba ev F p) (rbBack A L m cap qa qf qb qc qd qe qh ql sp pc ad va ki ba ev F p) s x)
    | none => none
  | none => none⟩
theorem rbstep_tree (w : World) (A : Option Addr) (L : List Int) (m cap : Nat) (qa qf qb qc qd qe qh ql sp pc : Int) (ad va ki ba : Int) (ev : Value) (F : Int → Int) (R : List Int) (r : Nat) (nl : Bool) (d : Nat) (i : Nat) :
    roundT Try.prog w (flatT Try.prog) (ctrOf (etabB ev F)) (callT Try.prog w (flatT Try.prog) (ctrOf (etabB ev F)) (noPre) (noLoop) 20) ((noLoop) 10) (roundOf (bodyAt Try.prog 10 0)) 0 1 rbRo rbRf rbRb (rbSt A L m cap qa qf qb qc qd qe qh ql sp pc ad va ki ba ev F ⟨⟩) (rbFin A L m cap qa qf qb qc qd qe qh ql sp pc ad va ki ba ev F ⟨⟩) (rbBck A L m cap qa qf qb qc qd qe qh ql sp pc ad va ki ba ev F ⟨⟩) rbNxX rbNxY rbNxZ ⟨R, r, nl, d, i⟩ =
(.br (decide ((↑i : Int) < (↑m : Int)))
 (.chk (sym.XR w A [IntKind.i64, IntKind.i64] L m ∧
  (0 : Int) ≤ (↑i : Int) ∧ (↑i : Int) < (↑m : Int) ∧ (0 : Nat) < [IntKind.i64, IntKind.i64].length)
 (.chk (sym.XC w A [IntKind.i64, IntKind.i64] L ∧
  (0 : Nat) < (2 : Nat) ∧ (↑i : Int).toNat * [IntKind.i64, IntKind.i64].length + (2 : Nat) ≤ L.length)
 (.br (decide
  (takesL
      (L.getD ((↑i : Int).toNat * [IntKind.i64, IntKind.i64].length + (0 : Nat)) (0 : Int))
      (L.getD ((↑i : Int).toNat * [IntKind.i64, IntKind.i64].length + (1 : Nat)) (0 : Int)) <
    (0 : Int)))
  (.chk (IntKind.i64 = IntKind.i64 ∧ (0 : Int) = (0 : Int))
  (.chk (IntKind.i64 = IntKind.i64 ∧ (5 : Int) = (5 : Int))
  (.leaf (.inr (.inr ⟨(5 : Int)⟩)))))
  (.br (decide
  (IntKind.i64.wrap
      ((↑r : Int) -
        takesL
          (L.getD ((↑i : Int).toNat * [IntKind.i64, IntKind.i64].length + (0 : Nat)) (0 : Int))
          (L.getD ((↑i : Int).toNat * [IntKind.i64, IntKind.i64].length + (1 : Nat)) (0 : Int))) <
    (0 : Int)))
   (.chk (IntKind.i64 = IntKind.i64 ∧ (0 : Int) = (0 : Int))
   (.chk (IntKind.i64 = IntKind.i64 ∧ (5 : Int) = (5 : Int))
   (.leaf (.inr (.inr ⟨(5 : Int)⟩)))))
   (.br (takesL
    (L.getD ((↑i : Int).toNat * [IntKind.i64, IntKind.i64].length + (0 : Nat)) (0 : Int))
    (L.getD ((↑i : Int).toNat * [IntKind.i64, IntKind.i64].length + (1 : Nat)) (0 : Int)) ==
  (0 : Int))
    (.br (L.getD ((↑i : Int).toNat * [IntKind.i64, IntKind.i64].length + (0 : Nat)) (0 : Int) == (2 : Int))
     (.chk (Go.Value.func (Go.Fn.func (17 : Go.FuncId)) #[ev] #[] = Go.Value.func (Go.Fn.func (17 : Go.FuncId)) #[ev] #[] ∧
  (0 : Int) ≤ L.getD ((↑i : Int).toNat * [IntKind.i64, IntKind.i64].length + (1 : Nat)) (0 : Int) ∧
    L.getD ((↑i : Int).toNat * [IntKind.i64, IntKind.i64].length + (1 : Nat)) (0 : Int) < (18 : Int))
     (.chk ((0 : Int) ≤ (0 : Int) ∧
  (0 : Int) ≤
      IntKind.i64.wrap
        ((↑r : Int) -
          takesL
            (L.getD ((↑i : Int).toNat * [IntKind.i64, IntKind.i64].length + (0 : Nat)) (0 : Int))
            (L.getD ((↑i : Int).toNat * [IntKind.i64, IntKind.i64].length + (1 : Nat)) (0 : Int))) ∧
    IntKind.i64.wrap
        ((↑r : Int) -
          takesL
            (L.getD ((↑i : Int).toNat * [IntKind.i64, IntKind.i64].length + (0 : Nat)) (0 : Int))
            (L.getD ((↑i : Int).toNat * [IntKind.i64, IntKind.i64].length + (1 : Nat)) (0 : Int))) ≤
      (↑d : Int))
     (.chk (True ∧
  (nl = nl ∧
      sym.cutO (0 : Nat) d (0 : Nat) = (0 : Nat) ∧
        d - (0 : Nat) = d ∧
          ((IntKind.i64.wrap
                      ((↑r : Int) -
                        takesL
                          (L.getD ((↑i : Int).toNat * [IntKind.i64, IntKind.i64].length + (0 : Nat)) (0 : Int))
                          (L.getD ((↑i : Int).toNat * [IntKind.i64, IntKind.i64].length + (1 : Nat))
                            (0 : Int)))).toNat -
                  (0 : Nat)) *
                [IntKind.i64].length ≤
              R.length ∧
            (IntKind.i64.wrap
                      ((↑r : Int) -
                        takesL
                          (L.getD ((↑i : Int).toNat * [IntKind.i64, IntKind.i64].length + (0 : Nat)) (0 : Int))
                          (L.getD ((↑i : Int).toNat * [IntKind.i64, IntKind.i64].length + (1 : Nat))
                            (0 : Int)))).toNat -
                  (0 : Nat) ≤
                d - (0 : Nat) ∧
              d - (0 : Nat) ≤ Go.maxLen ∧ (nl = true → d - (0 : Nat) = (0 : Nat))) ∧
    ((IntKind.i64.wrap
                ((↑r : Int) -
                  takesL
                    (L.getD ((↑i : Int).toNat * [IntKind.i64, IntKind.i64].length + (0 : Nat)) (0 : Int))
                    (L.getD ((↑i : Int).toNat * [IntKind.i64, IntKind.i64].length + (1 : Nat))
                      (0 : Int)))).toNat -
            (0 : Nat) +
          (1 : Nat)) *
        (8 : Nat) ≤
      (140737488355328 : Nat))
     (.all fun x : sym.Grown nl (1 : Nat)
  ((IntKind.i64.wrap
          ((↑r : Int) -
            takesL
              (L.getD ((↑i : Int).toNat * [IntKind.i64, IntKind.i64].length + (0 : Nat)) (0 : Int))
              (L.getD ((↑i : Int).toNat * [IntKind.i64, IntKind.i64].length + (1 : Nat)) (0 : Int)))).toNat -
      (0 : Nat) +
    (1 : Nat)) =>
      (.chk (A = A ∧ [IntKind.i64, IntKind.i64] = [IntKind.i64, IntKind.i64] ∧ L = L ∧ m = m ∧ cap = cap)
      (.chk (IntKind.i64 = IntKind.i64 ∧ (0 : Int) = (0 : Int))
      (.chk (IntKind.i64 = IntKind.i64 ∧ (0 : Int) = (0 : Int))
      (.chk (x.nl' = x.nl' ∧
  [IntKind.i64].length = (1 : Nat) ∧
    (0 : Nat) = (0 : Nat) ∧
      (IntKind.i64.wrap
                  ((↑r : Int) -
                    takesL
                      (L.getD ((↑i : Int).toNat * [IntKind.i64, IntKind.i64].length + (0 : Nat)) (0 : Int))
                      (L.getD ((↑i : Int).toNat * [IntKind.i64, IntKind.i64].length + (1 : Nat))
                        (0 : Int)))).toNat -
              (0 : Nat) +
            (1 : Nat) =
          (IntKind.i64.wrap
                  ((↑r : Int) -
                    takesL
                      (L.getD ((↑i : Int).toNat * [IntKind.i64, IntKind.i64].length + (0 : Nat)) (0 : Int))
                      (L.getD ((↑i : Int).toNat * [IntKind.i64, IntKind.i64].length + (1 : Nat))
                        (0 : Int)))).toNat -
              (0 : Nat) +
            (1 : Nat) ∧
        x.cap = x.cap)
      (.chk (A = A ∧ [IntKind.i64, IntKind.i64] = [IntKind.i64, IntKind.i64] ∧ L = L ∧ m = m ∧ cap = cap)
      (.chk (IntKind.i64 = IntKind.i64 ∧ (↑m : Int) = (↑m : Int))
      (.chk (IntKind.i64 = IntKind.i64 ∧
  IntKind.i64.wrap ((↑i : Int) + (1 : Int)) = (↑(IntKind.i64.wrap ((↑i : Int) + (1 : Int))).toNat : Int))
      (.chk (IntKind.u8 = IntKind.u8 ∧ qa = qa)
      (.chk (IntKind.u8 = IntKind.u8 ∧ qf = qf)
      (.chk (IntKind.u8 = IntKind.u8 ∧ qb = qb)
      (.chk (IntKind.u8 = IntKind.u8 ∧ qc = qc)
      (.chk (IntKind.u8 = IntKind.u8 ∧ qd = qd)
      (.chk (IntKind.u8 = IntKind.u8 ∧ qe = qe)
      (.chk (IntKind.u8 = IntKind.u8 ∧ qh = qh)
      (.chk (IntKind.u8 = IntKind.u8 ∧ ql = ql)
      (.chk (IntKind.u16 = IntKind.u16 ∧ sp = sp)
      (.chk (IntKind.u16 = IntKind.u16 ∧ pc = pc)
      (.chk (IntKind.i64 = IntKind.i64 ∧ ad = ad)
      (.chk (IntKind.i64 = IntKind.i64 ∧ va = va)
      (.chk (IntKind.i64 = IntKind.i64 ∧ ki = ki)
      (.chk (IntKind.i64 = IntKind.i64 ∧ ba = ba)
      (.chk (Go.Value.func (Go.Fn.func (17 : Go.FuncId)) #[ev] #[] = Go.Value.func (Go.Fn.func (17 : Go.FuncId)) #[ev] #[])
      (.chk (x.nl' = x.nl' ∧
  [IntKind.i64] = [IntKind.i64] ∧
    List.take
            (((IntKind.i64.wrap
                    ((↑r : Int) -
                      takesL
                        (L.getD ((↑i : Int).toNat * [IntKind.i64, IntKind.i64].length + (0 : Nat)) (0 : Int))
                        (L.getD ((↑i : Int).toNat * [IntKind.i64, IntKind.i64].length + (1 : Nat))
                          (0 : Int)))).toNat -
                (0 : Nat)) *
              [IntKind.i64].length)
            R ++
          [nameL qa qf qb qc qd qe qh ql sp pc ad va ki ba
              (L.getD ((↑i : Int).toNat * [IntKind.i64, IntKind.i64].length + (1 : Nat)) (0 : Int))] =
        List.take
            (((IntKind.i64.wrap
                    ((↑r : Int) -
                      takesL
                        (L.getD ((↑i : Int).toNat * [IntKind.i64, IntKind.i64].length + (0 : Nat)) (0 : Int))
                        (L.getD ((↑i : Int).toNat * [IntKind.i64, IntKind.i64].length + (1 : Nat))
                          (0 : Int)))).toNat -
                (0 : Nat)) *
              [IntKind.i64].length)
            R ++
          [nameL qa qf qb qc qd qe qh ql sp pc ad va ki ba
              (L.getD ((↑i : Int).toNat * [IntKind.i64, IntKind.i64].length + (1 : Nat)) (0 : Int))] ∧
      x.cap = x.cap)
      (.leaf (.inl ⟨List.take
    (((IntKind.i64.wrap
            ((↑r : Int) -
              takesL
                (L.getD ((↑i : Int).toNat * [IntKind.i64, IntKind.i64].length + (0 : Nat)) (0 : Int))
                (L.getD ((↑i : Int).toNat * [IntKind.i64, IntKind.i64].length + (1 : Nat)) (0 : Int)))).toNat -
        (0 : Nat)) *
      [IntKind.i64].length)
    R ++
  [nameL qa qf qb qc qd qe qh ql sp pc ad va ki ba
      (L.getD ((↑i : Int).toNat * [IntKind.i64, IntKind.i64].length + (1 : Nat)) (0 : Int))], (IntKind.i64.wrap
        ((↑r : Int) -
          takesL
            (L.getD ((↑i : Int).toNat * [IntKind.i64, IntKind.i64].length + (0 : Nat)) (0 : Int))
            (L.getD ((↑i : Int).toNat * [IntKind.i64, IntKind.i64].length + (1 : Nat)) (0 : Int)))).toNat -
    (0 : Nat) +
  (1 : Nat), x.nl', x.cap, (IntKind.i64.wrap ((↑i : Int) + (1 : Int))).toNat⟩)))))))))))))))))))))))))))))
     (.chk ((0 : Int) ≤ (0 : Int) ∧
  (0 : Int) ≤
      IntKind.i64.wrap
        ((↑r : Int) -
          takesL
            (L.getD ((↑i : Int).toNat * [IntKind.i64, IntKind.i64].length + (0 : Nat)) (0 : Int))
            (L.getD ((↑i : Int).toNat * [IntKind.i64, IntKind.i64].length + (1 : Nat)) (0 : Int))) ∧
    IntKind.i64.wrap
        ((↑r : Int) -
          takesL
            (L.getD ((↑i : Int).toNat * [IntKind.i64, IntKind.i64].length + (0 : Nat)) (0 : Int))
            (L.getD ((↑i : Int).toNat * [IntKind.i64, IntKind.i64].length + (1 : Nat)) (0 : Int))) ≤
      (↑d : Int))
     (.chk (True ∧
  (nl = nl ∧
      sym.cutO (0 : Nat) d (0 : Nat) = (0 : Nat) ∧
        d - (0 : Nat) = d ∧
          ((IntKind.i64.wrap
                      ((↑r : Int) -
                        takesL
                          (L.getD ((↑i : Int).toNat * [IntKind.i64, IntKind.i64].length + (0 : Nat)) (0 : Int))
                          (L.getD ((↑i : Int).toNat * [IntKind.i64, IntKind.i64].length + (1 : Nat))
                            (0 : Int)))).toNat -
                  (0 : Nat)) *
                [IntKind.i64].length ≤
              R.length ∧
            (IntKind.i64.wrap
                      ((↑r : Int) -
                        takesL
                          (L.getD ((↑i : Int).toNat * [IntKind.i64, IntKind.i64].length + (0 : Nat)) (0 : Int))
                          (L.getD ((↑i : Int).toNat * [IntKind.i64, IntKind.i64].length + (1 : Nat))
                            (0 : Int)))).toNat -
                  (0 : Nat) ≤
                d - (0 : Nat) ∧
              d - (0 : Nat) ≤ Go.maxLen ∧ (nl = true → d - (0 : Nat) = (0 : Nat))) ∧
    ((IntKind.i64.wrap
                ((↑r : Int) -
                  takesL
                    (L.getD ((↑i : Int).toNat * [IntKind.i64, IntKind.i64].length + (0 : Nat)) (0 : Int))
                    (L.getD ((↑i : Int).toNat * [IntKind.i64, IntKind.i64].length + (1 : Nat))
                      (0 : Int)))).toNat -
            (0 : Nat) +
          (1 : Nat)) *
        (8 : Nat) ≤
      (140737488355328 : Nat))
     (.all fun x : sym.Grown nl (1 : Nat)
  ((IntKind.i64.wrap
          ((↑r : Int) -
            takesL
              (L.getD ((↑i : Int).toNat * [IntKind.i64, IntKind.i64].length + (0 : Nat)) (0 : Int))
              (L.getD ((↑i : Int).toNat * [IntKind.i64, IntKind.i64].length + (1 : Nat)) (0 : Int)))).toNat -
      (0 : Nat) +
    (1 : Nat)) =>
      (.chk (A = A ∧ [IntKind.i64, IntKind.i64] = [IntKind.i64, IntKind.i64] ∧ L = L ∧ m = m ∧ cap = cap)
      (.chk (IntKind.i64 = IntKind.i64 ∧ (0 : Int) = (0 : Int))
      (.chk (IntKind.i64 = IntKind.i64 ∧ (0 : Int) = (0 : Int))
      (.chk (x.nl' = x.nl' ∧
  [IntKind.i64].length = (1 : Nat) ∧
    (0 : Nat) = (0 : Nat) ∧
      (IntKind.i64.wrap
                  ((↑r : Int) -
                    takesL
                      (L.getD ((↑i : Int).toNat * [IntKind.i64, IntKind.i64].length + (0 : Nat)) (0 : Int))
                      (L.getD ((↑i : Int).toNat * [IntKind.i64, IntKind.i64].length + (1 : Nat))
                        (0 : Int)))).toNat -
              (0 : Nat) +
            (1 : Nat) =
          (IntKind.i64.wrap
                  ((↑r : Int) -
                    takesL
                      (L.getD ((↑i : Int).toNat * [IntKind.i64, IntKind.i64].length + (0 : Nat)) (0 : Int))
                      (L.getD ((↑i : Int).toNat * [IntKind.i64, IntKind.i64].length + (1 : Nat))
                        (0 : Int)))).toNat -
              (0 : Nat) +
            (1 : Nat) ∧
        x.cap = x.cap)
      (.chk (A = A ∧ [IntKind.i64, IntKind.i64] = [IntKind.i64, IntKind.i64] ∧ L = L ∧ m = m ∧ cap = cap)
      (.chk (IntKind.i64 = IntKind.i64 ∧ (↑m : Int) = (↑m : Int))
      (.chk (IntKind.i64 = IntKind.i64 ∧
  IntKind.i64.wrap ((↑i : Int) + (1 : Int)) = (↑(IntKind.i64.wrap ((↑i : Int) + (1 : Int))).toNat : Int))
      (.chk (IntKind.u8 = IntKind.u8 ∧ qa = qa)
      (.chk (IntKind.u8 = IntKind.u8 ∧ qf = qf)
      (.chk (IntKind.u8 = IntKind.u8 ∧ qb = qb)
      (.chk (IntKind.u8 = IntKind.u8 ∧ qc = qc)
      (.chk (IntKind.u8 = IntKind.u8 ∧ qd = qd)
      (.chk (IntKind.u8 = IntKind.u8 ∧ qe = qe)
      (.chk (IntKind.u8 = IntKind.u8 ∧ qh = qh)
      (.chk (IntKind.u8 = IntKind.u8 ∧ ql = ql)
      (.chk (IntKind.u16 = IntKind.u16 ∧ sp = sp)
      (.chk (IntKind.u16 = IntKind.u16 ∧ pc = pc)
      (.chk (IntKind.i64 = IntKind.i64 ∧ ad = ad)
      (.chk (IntKind.i64 = IntKind.i64 ∧ va = va)
      (.chk (IntKind.i64 = IntKind.i64 ∧ ki = ki)
      (.chk (IntKind.i64 = IntKind.i64 ∧ ba = ba)
      (.chk (Go.Value.func (Go.Fn.func (17 : Go.FuncId)) #[ev] #[] = Go.Value.func (Go.Fn.func (17 : Go.FuncId)) #[ev] #[])
      (.chk (x.nl' = x.nl' ∧
  [IntKind.i64] = [IntKind.i64] ∧
    List.take
            (((IntKind.i64.wrap
                    ((↑r : Int) -
                      takesL
                        (L.getD ((↑i : Int).toNat * [IntKind.i64, IntKind.i64].length + (0 : Nat)) (0 : Int))
                        (L.getD ((↑i : Int).toNat * [IntKind.i64, IntKind.i64].length + (1 : Nat))
                          (0 : Int)))).toNat -
                (0 : Nat)) *
              [IntKind.i64].length)
            R ++
          [L.getD ((↑i : Int).toNat * [IntKind.i64, IntKind.i64].length + (1 : Nat)) (0 : Int)] =
        List.take
            (((IntKind.i64.wrap
                    ((↑r : Int) -
                      takesL
                        (L.getD ((↑i : Int).toNat * [IntKind.i64, IntKind.i64].length + (0 : Nat)) (0 : Int))
                        (L.getD ((↑i : Int).toNat * [IntKind.i64, IntKind.i64].length + (1 : Nat))
                          (0 : Int)))).toNat -
                (0 : Nat)) *
              [IntKind.i64].length)
            R ++
          [L.getD ((↑i : Int).toNat * [IntKind.i64, IntKind.i64].length + (1 : Nat)) (0 : Int)] ∧
      x.cap = x.cap)
      (.leaf (.inl ⟨List.take
    (((IntKind.i64.wrap
            ((↑r : Int) -
              takesL
                (L.getD ((↑i : Int).toNat * [IntKind.i64, IntKind.i64].length + (0 : Nat)) (0 : Int))
                (L.getD ((↑i : Int).toNat * [IntKind.i64, IntKind.i64].length + (1 : Nat)) (0 : Int)))).toNat -
        (0 : Nat)) *
      [IntKind.i64].length)
    R ++
  [L.getD ((↑i : Int).toNat * [IntKind.i64, IntKind.i64].length + (1 : Nat)) (0 : Int)], (IntKind.i64.wrap
        ((↑r : Int) -
          takesL
            (L.getD ((↑i : Int).toNat * [IntKind.i64, IntKind.i64].length + (0 : Nat)) (0 : Int))
            (L.getD ((↑i : Int).toNat * [IntKind.i64, IntKind.i64].length + (1 : Nat)) (0 : Int)))).toNat -
    (0 : Nat) +
  (1 : Nat), x.nl', x.cap, (IntKind.i64.wrap ((↑i : Int) + (1 : Int))).toNat⟩)))))))))))))))))))))))))))))
    (.br (takesL
    (L.getD ((↑i : Int).toNat * [IntKind.i64, IntKind.i64].length + (0 : Nat)) (0 : Int))
    (L.getD ((↑i : Int).toNat * [IntKind.i64, IntKind.i64].length + (1 : Nat)) (0 : Int)) ==
  (1 : Int))
     (.chk (nl = false ∧
  (0 : Int) ≤
      IntKind.i64.wrap
        ((↑r : Int) -
          takesL
            (L.getD ((↑i : Int).toNat * [IntKind.i64, IntKind.i64].length + (0 : Nat)) (0 : Int))
            (L.getD ((↑i : Int).toNat * [IntKind.i64, IntKind.i64].length + (1 : Nat)) (0 : Int))) ∧
    IntKind.i64.wrap
        ((↑r : Int) -
          takesL
            (L.getD ((↑i : Int).toNat * [IntKind.i64, IntKind.i64].length + (0 : Nat)) (0 : Int))
            (L.getD ((↑i : Int).toNat * [IntKind.i64, IntKind.i64].length + (1 : Nat)) (0 : Int))) <
      (↑r : Int))
     (.chk (nl = false ∧
  ((0 : Nat) +
          (IntKind.i64.wrap
              ((↑r : Int) -
                takesL
                  (L.getD ((↑i : Int).toNat * [IntKind.i64, IntKind.i64].length + (0 : Nat)) (0 : Int))
                  (L.getD ((↑i : Int).toNat * [IntKind.i64, IntKind.i64].length + (1 : Nat)) (0 : Int)))).toNat) *
        (1 : Nat) +
      (1 : Nat) ≤
    R.length)
     (.chk (Go.Value.func (Go.Fn.func (17 : Go.FuncId)) #[ev] #[] = Go.Value.func (Go.Fn.func (17 : Go.FuncId)) #[ev] #[])
     (.chk ((0 : Int) ≤ (0 : Int) ∧
  (0 : Int) ≤
      IntKind.i64.wrap
        ((↑r : Int) -
          takesL
            (L.getD ((↑i : Int).toNat * [IntKind.i64, IntKind.i64].length + (0 : Nat)) (0 : Int))
            (L.getD ((↑i : Int).toNat * [IntKind.i64, IntKind.i64].length + (1 : Nat)) (0 : Int))) ∧
    IntKind.i64.wrap
        ((↑r : Int) -
          takesL
            (L.getD ((↑i : Int).toNat * [IntKind.i64, IntKind.i64].length + (0 : Nat)) (0 : Int))
            (L.getD ((↑i : Int).toNat * [IntKind.i64, IntKind.i64].length + (1 : Nat)) (0 : Int))) ≤
      (↑d : Int))
     (.chk (True ∧
  (nl = nl ∧
      sym.cutO (0 : Nat) d (0 : Nat) = (0 : Nat) ∧
        d - (0 : Nat) = d ∧
          ((IntKind.i64.wrap
                      ((↑r : Int) -
                        takesL
                          (L.getD ((↑i : Int).toNat * [IntKind.i64, IntKind.i64].length + (0 : Nat)) (0 : Int))
                          (L.getD ((↑i : Int).toNat * [IntKind.i64, IntKind.i64].length + (1 : Nat))
                            (0 : Int)))).toNat -
                  (0 : Nat)) *
                [IntKind.i64].length ≤
              R.length ∧
            (IntKind.i64.wrap
                      ((↑r : Int) -
                        takesL
                          (L.getD ((↑i : Int).toNat * [IntKind.i64, IntKind.i64].length + (0 : Nat)) (0 : Int))
                          (L.getD ((↑i : Int).toNat * [IntKind.i64, IntKind.i64].length + (1 : Nat))
                            (0 : Int)))).toNat -
                  (0 : Nat) ≤
                d - (0 : Nat) ∧
              d - (0 : Nat) ≤ Go.maxLen ∧ (nl = true → d - (0 : Nat) = (0 : Nat))) ∧
    ((IntKind.i64.wrap
                ((↑r : Int) -
                  takesL
                    (L.getD ((↑i : Int).toNat * [IntKind.i64, IntKind.i64].length + (0 : Nat)) (0 : Int))
                    (L.getD ((↑i : Int).toNat * [IntKind.i64, IntKind.i64].length + (1 : Nat))
                      (0 : Int)))).toNat -
            (0 : Nat) +
          (1 : Nat)) *
        (8 : Nat) ≤
      (140737488355328 : Nat))
     (.all fun x : sym.Grown nl (1 : Nat)
  ((IntKind.i64.wrap
          ((↑r : Int) -
            takesL
              (L.getD ((↑i : Int).toNat * [IntKind.i64, IntKind.i64].length + (0 : Nat)) (0 : Int))
              (L.getD ((↑i : Int).toNat * [IntKind.i64, IntKind.i64].length + (1 : Nat)) (0 : Int)))).toNat -
      (0 : Nat) +
    (1 : Nat)) =>
      (.chk (A = A ∧ [IntKind.i64, IntKind.i64] = [IntKind.i64, IntKind.i64] ∧ L = L ∧ m = m ∧ cap = cap)
      (.chk (IntKind.i64 = IntKind.i64 ∧ (0 : Int) = (0 : Int))
      (.chk (IntKind.i64 = IntKind.i64 ∧ (0 : Int) = (0 : Int))
      (.chk (x.nl' = x.nl' ∧
  [IntKind.i64].length = (1 : Nat) ∧
    (0 : Nat) = (0 : Nat) ∧
      (IntKind.i64.wrap
                  ((↑r : Int) -
                    takesL
                      (L.getD ((↑i : Int).toNat * [IntKind.i64, IntKind.i64].length + (0 : Nat)) (0 : Int))
                      (L.getD ((↑i : Int).toNat * [IntKind.i64, IntKind.i64].length + (1 : Nat))
                        (0 : Int)))).toNat -
              (0 : Nat) +
            (1 : Nat) =
          (IntKind.i64.wrap
                  ((↑r : Int) -
                    takesL
                      (L.getD ((↑i : Int).toNat * [IntKind.i64, IntKind.i64].length + (0 : Nat)) (0 : Int))
                      (L.getD ((↑i : Int).toNat * [IntKind.i64, IntKind.i64].length + (1 : Nat))
                        (0 : Int)))).toNat -
              (0 : Nat) +
            (1 : Nat) ∧
        x.cap = x.cap)
      (.chk (A = A ∧ [IntKind.i64, IntKind.i64] = [IntKind.i64, IntKind.i64] ∧ L = L ∧ m = m ∧ cap = cap)
      (.chk (IntKind.i64 = IntKind.i64 ∧ (↑m : Int) = (↑m : Int))
      (.chk (IntKind.i64 = IntKind.i64 ∧
  IntKind.i64.wrap ((↑i : Int) + (1 : Int)) = (↑(IntKind.i64.wrap ((↑i : Int) + (1 : Int))).toNat : Int))
      (.chk (IntKind.u8 = IntKind.u8 ∧ qa = qa)
      (.chk (IntKind.u8 = IntKind.u8 ∧ qf = qf)
      (.chk (IntKind.u8 = IntKind.u8 ∧ qb = qb)
      (.chk (IntKind.u8 = IntKind.u8 ∧ qc = qc)
      (.chk (IntKind.u8 = IntKind.u8 ∧ qd = qd)
      (.chk (IntKind.u8 = IntKind.u8 ∧ qe = qe)
      (.chk (IntKind.u8 = IntKind.u8 ∧ qh = qh)
      (.chk (IntKind.u8 = IntKind.u8 ∧ ql = ql)
      (.chk (IntKind.u16 = IntKind.u16 ∧ sp = sp)
      (.chk (IntKind.u16 = IntKind.u16 ∧ pc = pc)
      (.chk (IntKind.i64 = IntKind.i64 ∧ ad = ad)
      (.chk (IntKind.i64 = IntKind.i64 ∧ va = va)
      (.chk (IntKind.i64 = IntKind.i64 ∧ ki = ki)
      (.chk (IntKind.i64 = IntKind.i64 ∧ ba = ba)
      (.chk (Go.Value.func (Go.Fn.func (17 : Go.FuncId)) #[ev] #[] = Go.Value.func (Go.Fn.func (17 : Go.FuncId)) #[ev] #[])
      (.chk (x.nl' = x.nl' ∧
  [IntKind.i64] = [IntKind.i64] ∧
    List.take
            (((IntKind.i64.wrap
                    ((↑r : Int) -
                      takesL
                        (L.getD ((↑i : Int).toNat * [IntKind.i64, IntKind.i64].length + (0 : Nat)) (0 : Int))
                        (L.getD ((↑i : Int).toNat * [IntKind.i64, IntKind.i64].length + (1 : Nat))
                          (0 : Int)))).toNat -
                (0 : Nat)) *
              [IntKind.i64].length)
            R ++
          [oneL F
              (L.getD ((↑i : Int).toNat * [IntKind.i64, IntKind.i64].length + (0 : Nat)) (0 : Int))
              (R.getD
                (((0 : Nat) +
                      (IntKind.i64.wrap
                          ((↑r : Int) -
                            takesL
                              (L.getD ((↑i : Int).toNat * [IntKind.i64, IntKind.i64].length + (0 : Nat))
                                (0 : Int))
                              (L.getD ((↑i : Int).toNat * [IntKind.i64, IntKind.i64].length + (1 : Nat))
                                (0 : Int)))).toNat) *
                    (1 : Nat) +
                  (0 : Nat))
                (0 : Int))] =
        List.take
            (((IntKind.i64.wrap
                    ((↑r : Int) -
                      takesL
                        (L.getD ((↑i : Int).toNat * [IntKind.i64, IntKind.i64].length + (0 : Nat)) (0 : Int))
                        (L.getD ((↑i : Int).toNat * [IntKind.i64, IntKind.i64].length + (1 : Nat))
                          (0 : Int)))).toNat -
                (0 : Nat)) *
              [IntKind.i64].length)
            R ++
          [oneL F
              (L.getD ((↑i : Int).toNat * [IntKind.i64, IntKind.i64].length + (0 : Nat)) (0 : Int))
              (R.getD
                (((0 : Nat) +
                      (IntKind.i64.wrap
                          ((↑r : Int) -
                            takesL
                              (L.getD ((↑i : Int).toNat * [IntKind.i64, IntKind.i64].length + (0 : Nat))
                                (0 : Int))
                              (L.getD ((↑i : Int).toNat * [IntKind.i64, IntKind.i64].length + (1 : Nat))
                                (0 : Int)))).toNat) *
                    (1 : Nat) +
                  (0 : Nat))
                (0 : Int))] ∧
      x.cap = x.cap)
      (.leaf (.inl ⟨List.take
    (((IntKind.i64.wrap
            ((↑r : Int) -
              takesL
                (L.getD ((↑i : Int).toNat * [IntKind.i64, IntKind.i64].length + (0 : Nat)) (0 : Int))
                (L.getD ((↑i : Int).toNat * [IntKind.i64, IntKind.i64].length + (1 : Nat)) (0 : Int)))).toNat -
        (0 : Nat)) *
      [IntKind.i64].length)
    R ++
  [oneL F
      (L.getD ((↑i : Int).toNat * [IntKind.i64, IntKind.i64].length + (0 : Nat)) (0 : Int))
      (R.getD
        (((0 : Nat) +
              (IntKind.i64.wrap
                  ((↑r : Int) -
                    takesL
                      (L.getD ((↑i : Int).toNat * [IntKind.i64, IntKind.i64].length + (0 : Nat)) (0 : Int))
                      (L.getD ((↑i : Int).toNat * [IntKind.i64, IntKind.i64].length + (1 : Nat))
                        (0 : Int)))).toNat) *
            (1 : Nat) +
          (0 : Nat))
        (0 : Int))], (IntKind.i64.wrap
        ((↑r : Int) -
          takesL
            (L.getD ((↑i : Int).toNat * [IntKind.i64, IntKind.i64].length + (0 : Nat)) (0 : Int))
            (L.getD ((↑i : Int).toNat * [IntKind.i64, IntKind.i64].length + (1 : Nat)) (0 : Int)))).toNat -
    (0 : Nat) +
  (1 : Nat), x.nl', x.cap, (IntKind.i64.wrap ((↑i : Int) + (1 : Int))).toNat⟩)))))))))))))))))))))))))))))))
     (.chk (nl = false ∧
  (0 : Int) ≤
      IntKind.i64.wrap
        ((↑r : Int) -
          takesL
            (L.getD ((↑i : Int).toNat * [IntKind.i64, IntKind.i64].length + (0 : Nat)) (0 : Int))
            (L.getD ((↑i : Int).toNat * [IntKind.i64, IntKind.i64].length + (1 : Nat)) (0 : Int))) ∧
    IntKind.i64.wrap
        ((↑r : Int) -
          takesL
            (L.getD ((↑i : Int).toNat * [IntKind.i64, IntKind.i64].length + (0 : Nat)) (0 : Int))
            (L.getD ((↑i : Int).toNat * [IntKind.i64, IntKind.i64].length + (1 : Nat)) (0 : Int))) <
      (↑r : Int))
     (.chk (nl = false ∧
  ((0 : Nat) +
          (IntKind.i64.wrap
              ((↑r : Int) -
                takesL
                  (L.getD ((↑i : Int).toNat * [IntKind.i64, IntKind.i64].length + (0 : Nat)) (0 : Int))
                  (L.getD ((↑i : Int).toNat * [IntKind.i64, IntKind.i64].length + (1 : Nat)) (0 : Int)))).toNat) *
        (1 : Nat) +
      (1 : Nat) ≤
    R.length)
     (.chk (nl = false ∧
  (0 : Int) ≤
      IntKind.i64.wrap
        (IntKind.i64.wrap
            ((↑r : Int) -
              takesL
                (L.getD ((↑i : Int).toNat * [IntKind.i64, IntKind.i64].length + (0 : Nat)) (0 : Int))
                (L.getD ((↑i : Int).toNat * [IntKind.i64, IntKind.i64].length + (1 : Nat)) (0 : Int))) +
          (1 : Int)) ∧
    IntKind.i64.wrap
        (IntKind.i64.wrap
            ((↑r : Int) -
              takesL
                (L.getD ((↑i : Int).toNat * [IntKind.i64, IntKind.i64].length + (0 : Nat)) (0 : Int))
                (L.getD ((↑i : Int).toNat * [IntKind.i64, IntKind.i64].length + (1 : Nat)) (0 : Int))) +
          (1 : Int)) <
      (↑r : Int))
     (.chk (nl = false ∧
  ((0 : Nat) +
          (IntKind.i64.wrap
              (IntKind.i64.wrap
                  ((↑r : Int) -
                    takesL
                      (L.getD ((↑i : Int).toNat * [IntKind.i64, IntKind.i64].length + (0 : Nat)) (0 : Int))
                      (L.getD ((↑i : Int).toNat * [IntKind.i64, IntKind.i64].length + (1 : Nat)) (0 : Int))) +
                (1 : Int))).toNat) *
        (1 : Nat) +
      (1 : Nat) ≤
    R.length)
     (.br ((twoL
      (L.getD ((↑i : Int).toNat * [IntKind.i64, IntKind.i64].length + (0 : Nat)) (0 : Int))
      (R.getD
        (((0 : Nat) +
              (IntKind.i64.wrap
                  ((↑r : Int) -
                    takesL
                      (L.getD ((↑i : Int).toNat * [IntKind.i64, IntKind.i64].length + (0 : Nat)) (0 : Int))
                      (L.getD ((↑i : Int).toNat * [IntKind.i64, IntKind.i64].length + (1 : Nat))
                        (0 : Int)))).toNat) *
            (1 : Nat) +
          (0 : Nat))
        (0 : Int))
      (R.getD
        (((0 : Nat) +
              (IntKind.i64.wrap
                  (IntKind.i64.wrap
                      ((↑r : Int) -
                        takesL
                          (L.getD ((↑i : Int).toNat * [IntKind.i64, IntKind.i64].length + (0 : Nat)) (0 : Int))
                          (L.getD ((↑i : Int).toNat * [IntKind.i64, IntKind.i64].length + (1 : Nat)) (0 : Int))) +
                    (1 : Int))).toNat) *
            (1 : Nat) +
          (0 : Nat))
        (0 : Int))).snd !=
  (0 : Int))
      (.chk (IntKind.i64 = IntKind.i64 ∧ (0 : Int) = (0 : Int))
      (.chk (IntKind.i64 = IntKind.i64 ∧
  (twoL
        (L.getD ((↑i : Int).toNat * [IntKind.i64, IntKind.i64].length + (0 : Nat)) (0 : Int))
        (R.getD
          (((0 : Nat) +
                (IntKind.i64.wrap
                    ((↑r : Int) -
                      takesL
                        (L.getD ((↑i : Int).toNat * [IntKind.i64, IntKind.i64].length + (0 : Nat)) (0 : Int))
                        (L.getD ((↑i : Int).toNat * [IntKind.i64, IntKind.i64].length + (1 : Nat))
                          (0 : Int)))).toNat) *
              (1 : Nat) +
            (0 : Nat))
          (0 : Int))
        (R.getD
          (((0 : Nat) +
                (IntKind.i64.wrap
                    (IntKind.i64.wrap
                        ((↑r : Int) -
                          takesL
                            (L.getD ((↑i : Int).toNat * [IntKind.i64, IntKind.i64].length + (0 : Nat)) (0 : Int))
                            (L.getD ((↑i : Int).toNat * [IntKind.i64, IntKind.i64].length + (1 : Nat))
                              (0 : Int))) +
                      (1 : Int))).toNat) *
              (1 : Nat) +
            (0 : Nat))
          (0 : Int))).snd =
    (twoL
        (L.getD ((↑i : Int).toNat * [IntKind.i64, IntKind.i64].length + (0 : Nat)) (0 : Int))
        (R.getD
          (((0 : Nat) +
                (IntKind.i64.wrap
                    ((↑r : Int) -
                      takesL
                        (L.getD ((↑i : Int).toNat * [IntKind.i64, IntKind.i64].length + (0 : Nat)) (0 : Int))
                        (L.getD ((↑i : Int).toNat * [IntKind.i64, IntKind.i64].length + (1 : Nat))
                          (0 : Int)))).toNat) *
              (1 : Nat) +
            (0 : Nat))
          (0 : Int))
        (R.getD
          (((0 : Nat) +
                (IntKind.i64.wrap
                    (IntKind.i64.wrap
                        ((↑r : Int) -
                          takesL
                            (L.getD ((↑i : Int).toNat * [IntKind.i64, IntKind.i64].length + (0 : Nat)) (0 : Int))
                            (L.getD ((↑i : Int).toNat * [IntKind.i64, IntKind.i64].length + (1 : Nat))
                              (0 : Int))) +
                      (1 : Int))).toNat) *
              (1 : Nat) +
            (0 : Nat))
          (0 : Int))).snd)
      (.leaf (.inr (.inr ⟨(twoL
    (L.getD ((↑i : Int).toNat * [IntKind.i64, IntKind.i64].length + (0 : Nat)) (0 : Int))
    (R.getD
      (((0 : Nat) +
            (IntKind.i64.wrap
                ((↑r : Int) -
                  takesL
                    (L.getD ((↑i : Int).toNat * [IntKind.i64, IntKind.i64].length + (0 : Nat)) (0 : Int))
                    (L.getD ((↑i : Int).toNat * [IntKind.i64, IntKind.i64].length + (1 : Nat))
                      (0 : Int)))).toNat) *
          (1 : Nat) +
        (0 : Nat))
      (0 : Int))
    (R.getD
      (((0 : Nat) +
            (IntKind.i64.wrap
                (IntKind.i64.wrap
                    ((↑r : Int) -
                      takesL
                        (L.getD ((↑i : Int).toNat * [IntKind.i64, IntKind.i64].length + (0 : Nat)) (0 : Int))
                        (L.getD ((↑i : Int).toNat * [IntKind.i64, IntKind.i64].length + (1 : Nat)) (0 : Int))) +
                  (1 : Int))).toNat) *
          (1 : Nat) +
        (0 : Nat))
      (0 : Int))).snd⟩)))))
      (.chk ((0 : Int) ≤ (0 : Int) ∧
  (0 : Int) ≤
      IntKind.i64.wrap
        ((↑r : Int) -
          takesL
            (L.getD ((↑i : Int).toNat * [IntKind.i64, IntKind.i64].length + (0 : Nat)) (0 : Int))
            (L.getD ((↑i : Int).toNat * [IntKind.i64, IntKind.i64].length + (1 : Nat)) (0 : Int))) ∧
    IntKind.i64.wrap
        ((↑r : Int) -
          takesL
            (L.getD ((↑i : Int).toNat * [IntKind.i64, IntKind.i64].length + (0 : Nat)) (0 : Int))
            (L.getD ((↑i : Int).toNat * [IntKind.i64, IntKind.i64].length + (1 : Nat)) (0 : Int))) ≤
      (↑d : Int))
      (.chk (True ∧
  (nl = nl ∧
      sym.cutO (0 : Nat) d (0 : Nat) = (0 : Nat) ∧
        d - (0 : Nat) = d ∧
          ((IntKind.i64.wrap
                      ((↑r : Int) -
                        takesL
                          (L.getD ((↑i : Int).toNat * [IntKind.i64, IntKind.i64].length + (0 : Nat)) (0 : Int))
                          (L.getD ((↑i : Int).toNat * [IntKind.i64, IntKind.i64].length + (1 : Nat))
                            (0 : Int)))).toNat -
                  (0 : Nat)) *
                [IntKind.i64].length ≤
              R.length ∧
            (IntKind.i64.wrap
                      ((↑r : Int) -
                        takesL
                          (L.getD ((↑i : Int).toNat * [IntKind.i64, IntKind.i64].length + (0 : Nat)) (0 : Int))
                          (L.getD ((↑i : Int).toNat * [IntKind.i64, IntKind.i64].length + (1 : Nat))
                            (0 : Int)))).toNat -
                  (0 : Nat) ≤
                d - (0 : Nat) ∧
              d - (0 : Nat) ≤ Go.maxLen ∧ (nl = true → d - (0 : Nat) = (0 : Nat))) ∧
    ((IntKind.i64.wrap
                ((↑r : Int) -
                  takesL
                    (L.getD ((↑i : Int).toNat * [IntKind.i64, IntKind.i64].length + (0 : Nat)) (0 : Int))
                    (L.getD ((↑i : Int).toNat * [IntKind.i64, IntKind.i64].length + (1 : Nat))
                      (0 : Int)))).toNat -
            (0 : Nat) +
          (1 : Nat)) *
        (8 : Nat) ≤
      (140737488355328 : Nat))
      (.all fun x : sym.Grown nl (1 : Nat)
  ((IntKind.i64.wrap
          ((↑r : Int) -
            takesL
              (L.getD ((↑i : Int).toNat * [IntKind.i64, IntKind.i64].length + (0 : Nat)) (0 : Int))
              (L.getD ((↑i : Int).toNat * [IntKind.i64, IntKind.i64].length + (1 : Nat)) (0 : Int)))).toNat -
      (0 : Nat) +
    (1 : Nat)) =>
       (.chk (A = A ∧ [IntKind.i64, IntKind.i64] = [IntKind.i64, IntKind.i64] ∧ L = L ∧ m = m ∧ cap = cap)
       (.chk (IntKind.i64 = IntKind.i64 ∧ (0 : Int) = (0 : Int))
       (.chk (IntKind.i64 = IntKind.i64 ∧ (0 : Int) = (0 : Int))
       (.chk (x.nl' = x.nl' ∧
  [IntKind.i64].length = (1 : Nat) ∧
    (0 : Nat) = (0 : Nat) ∧
      (IntKind.i64.wrap
                  ((↑r : Int) -
                    takesL
                      (L.getD ((↑i : Int).toNat * [IntKind.i64, IntKind.i64].length + (0 : Nat)) (0 : Int))
                      (L.getD ((↑i : Int).toNat * [IntKind.i64, IntKind.i64].length + (1 : Nat))
                        (0 : Int)))).toNat -
              (0 : Nat) +
            (1 : Nat) =
          (IntKind.i64.wrap
                  ((↑r : Int) -
                    takesL
                      (L.getD ((↑i : Int).toNat * [IntKind.i64, IntKind.i64].length + (0 : Nat)) (0 : Int))
                      (L.getD ((↑i : Int).toNat * [IntKind.i64, IntKind.i64].length + (1 : Nat))
                        (0 : Int)))).toNat -
              (0 : Nat) +
            (1 : Nat) ∧
        x.cap = x.cap)
       (.chk (A = A ∧ [IntKind.i64, IntKind.i64] = [IntKind.i64, IntKind.i64] ∧ L = L ∧ m = m ∧ cap = cap)
       (.chk (IntKind.i64 = IntKind.i64 ∧ (↑m : Int) = (↑m : Int))
       (.chk (IntKind.i64 = IntKind.i64 ∧
  IntKind.i64.wrap ((↑i : Int) + (1 : Int)) = (↑(IntKind.i64.wrap ((↑i : Int) + (1 : Int))).toNat : Int))
       (.chk (IntKind.u8 = IntKind.u8 ∧ qa = qa)
       (.chk (IntKind.u8 = IntKind.u8 ∧ qf = qf)
       (.chk (IntKind.u8 = IntKind.u8 ∧ qb = qb)
       (.chk (IntKind.u8 = IntKind.u8 ∧ qc = qc)
       (.chk (IntKind.u8 = IntKind.u8 ∧ qd = qd)
       (.chk (IntKind.u8 = IntKind.u8 ∧ qe = qe)
       (.chk (IntKind.u8 = IntKind.u8 ∧ qh = qh)
       (.chk (IntKind.u8 = IntKind.u8 ∧ ql = ql)
       (.chk (IntKind.u16 = IntKind.u16 ∧ sp = sp)
       (.chk (IntKind.u16 = IntKind.u16 ∧ pc = pc)
       (.chk (IntKind.i64 = IntKind.i64 ∧ ad = ad)
       (.chk (IntKind.i64 = IntKind.i64 ∧ va = va)
       (.chk (IntKind.i64 = IntKind.i64 ∧ ki = ki)
       (.chk (IntKind.i64 = IntKind.i64 ∧ ba = ba)
       (.chk (Go.Value.func (Go.Fn.func (17 : Go.FuncId)) #[ev] #[] = Go.Value.func (Go.Fn.func (17 : Go.FuncId)) #[ev] #[])
       (.chk (x.nl' = x.nl' ∧
  [IntKind.i64] = [IntKind.i64] ∧
    List.take
            (((IntKind.i64.wrap
                    ((↑r : Int) -
                      takesL
                        (L.getD ((↑i : Int).toNat * [IntKind.i64, IntKind.i64].length + (0 : Nat)) (0 : Int))
                        (L.getD ((↑i : Int).toNat * [IntKind.i64, IntKind.i64].length + (1 : Nat))
                          (0 : Int)))).toNat -
                (0 : Nat)) *
              [IntKind.i64].length)
            R ++
          [(twoL
                (L.getD ((↑i : Int).toNat * [IntKind.i64, IntKind.i64].length + (0 : Nat)) (0 : Int))
                (R.getD
                  (((0 : Nat) +
                        (IntKind.i64.wrap
                            ((↑r : Int) -
                              takesL
                                (L.getD ((↑i : Int).toNat * [IntKind.i64, IntKind.i64].length + (0 : Nat))
                                  (0 : Int))
                                (L.getD ((↑i : Int).toNat * [IntKind.i64, IntKind.i64].length + (1 : Nat))
                                  (0 : Int)))).toNat) *
                      (1 : Nat) +
                    (0 : Nat))
                  (0 : Int))
                (R.getD
                  (((0 : Nat) +
                        (IntKind.i64.wrap
                            (IntKind.i64.wrap
                                ((↑r : Int) -
                                  takesL
                                    (L.getD ((↑i : Int).toNat * [IntKind.i64, IntKind.i64].length + (0 : Nat))
                                      (0 : Int))
                                    (L.getD ((↑i : Int).toNat * [IntKind.i64, IntKind.i64].length + (1 : Nat))
                                      (0 : Int))) +
                              (1 : Int))).toNat) *
                      (1 : Nat) +
                    (0 : Nat))
                  (0 : Int))).fst] =
        List.take
            (((IntKind.i64.wrap
                    ((↑r : Int) -
                      takesL
                        (L.getD ((↑i : Int).toNat * [IntKind.i64, IntKind.i64].length + (0 : Nat)) (0 : Int))
                        (L.getD ((↑i : Int).toNat * [IntKind.i64, IntKind.i64].length + (1 : Nat))
                          (0 : Int)))).toNat -
                (0 : Nat)) *
              [IntKind.i64].length)
            R ++
          [(twoL
                (L.getD ((↑i : Int).toNat * [IntKind.i64, IntKind.i64].length + (0 : Nat)) (0 : Int))
                (R.getD
                  (((0 : Nat) +
                        (IntKind.i64.wrap
                            ((↑r : Int) -
                              takesL
                                (L.getD ((↑i : Int).toNat * [IntKind.i64, IntKind.i64].length + (0 : Nat))
                                  (0 : Int))
                                (L.getD ((↑i : Int).toNat * [IntKind.i64, IntKind.i64].length + (1 : Nat))
                                  (0 : Int)))).toNat) *
                      (1 : Nat) +
                    (0 : Nat))
                  (0 : Int))
                (R.getD
                  (((0 : Nat) +
                        (IntKind.i64.wrap
                            (IntKind.i64.wrap
                                ((↑r : Int) -
                                  takesL
                                    (L.getD ((↑i : Int).toNat * [IntKind.i64, IntKind.i64].length + (0 : Nat))
                                      (0 : Int))
                                    (L.getD ((↑i : Int).toNat * [IntKind.i64, IntKind.i64].length + (1 : Nat))
                                      (0 : Int))) +
                              (1 : Int))).toNat) *
                      (1 : Nat) +
                    (0 : Nat))
                  (0 : Int))).fst] ∧
      x.cap = x.cap)
       (.leaf (.inl ⟨List.take
    (((IntKind.i64.wrap
            ((↑r : Int) -
              takesL
                (L.getD ((↑i : Int).toNat * [IntKind.i64, IntKind.i64].length + (0 : Nat)) (0 : Int))
                (L.getD ((↑i : Int).toNat * [IntKind.i64, IntKind.i64].length + (1 : Nat)) (0 : Int)))).toNat -
        (0 : Nat)) *
      [IntKind.i64].length)
    R ++
  [(twoL
        (L.getD ((↑i : Int).toNat * [IntKind.i64, IntKind.i64].length + (0 : Nat)) (0 : Int))
        (R.getD
          (((0 : Nat) +
                (IntKind.i64.wrap
                    ((↑r : Int) -
                      takesL
                        (L.getD ((↑i : Int).toNat * [IntKind.i64, IntKind.i64].length + (0 : Nat)) (0 : Int))
                        (L.getD ((↑i : Int).toNat * [IntKind.i64, IntKind.i64].length + (1 : Nat))
                          (0 : Int)))).toNat) *
              (1 : Nat) +
            (0 : Nat))
          (0 : Int))
        (R.getD
          (((0 : Nat) +
                (IntKind.i64.wrap
                    (IntKind.i64.wrap
                        ((↑r : Int) -
                          takesL
                            (L.getD ((↑i : Int).toNat * [IntKind.i64, IntKind.i64].length + (0 : Nat)) (0 : Int))
                            (L.getD ((↑i : Int).toNat * [IntKind.i64, IntKind.i64].length + (1 : Nat))
                              (0 : Int))) +
                      (1 : Int))).toNat) *
              (1 : Nat) +
            (0 : Nat))
          (0 : Int))).fst], (IntKind.i64.wrap
        ((↑r : Int) -
          takesL
            (L.getD ((↑i : Int).toNat * [IntKind.i64, IntKind.i64].length + (0 : Nat)) (0 : Int))
            (L.getD ((↑i : Int).toNat * [IntKind.i64, IntKind.i64].length + (1 : Nat)) (0 : Int)))).toNat -
    (0 : Nat) +
  (1 : Nat), x.nl', x.cap, (IntKind.i64.wrap ((↑i : Int) + (1 : Int))).toNat⟩)))))))))))))))))))))))))))))))))))))))
 (.chk (IntKind.i64 = IntKind.i64 ∧ (0 : Int) = (0 : Int))
 (.chk (IntKind.i64 = IntKind.i64 ∧ (0 : Int) = (0 : Int))
 (.chk (nl = nl ∧ (1 : Nat) = (1 : Nat) ∧ (0 : Nat) = (0 : Nat) ∧ r = r ∧ d = d)
 (.chk (IntKind.u8 = IntKind.u8 ∧ qa = qa)
 (.chk (IntKind.u8 = IntKind.u8 ∧ qf = qf)
 (.chk (IntKind.u8 = IntKind.u8 ∧ qb = qb)
 (.chk (IntKind.u8 = IntKind.u8 ∧ qc = qc)
 (.chk (IntKind.u8 = IntKind.u8 ∧ qd = qd)
 (.chk (IntKind.u8 = IntKind.u8 ∧ qe = qe)
 (.chk (IntKind.u8 = IntKind.u8 ∧ qh = qh)
 (.chk (IntKind.u8 = IntKind.u8 ∧ ql = ql)
 (.chk (IntKind.u16 = IntKind.u16 ∧ sp = sp)
 (.chk (IntKind.u16 = IntKind.u16 ∧ pc = pc)
 (.chk (IntKind.i64 = IntKind.i64 ∧ ad = ad)
 (.chk (IntKind.i64 = IntKind.i64 ∧ va = va)
 (.chk (IntKind.i64 = IntKind.i64 ∧ ki = ki)
 (.chk (IntKind.i64 = IntKind.i64 ∧ ba = ba)
 (.chk (Go.Value.func (Go.Fn.func (17 : Go.FuncId)) #[ev] #[] = Go.Value.func (Go.Fn.func (17 : Go.FuncId)) #[ev] #[])
 (.chk (nl = nl ∧ [IntKind.i64] = [IntKind.i64] ∧ R = R ∧ d = d)
 (.leaf (.inr (.inl ⟨R, r, nl, d⟩))))))))))))))))))))))) := by kernel_rfl
def rbMu (A : Option Addr) (L : List Int) (m cap : Nat) (qa qf qb qc qd qe qh ql sp pc : Int) (ad va ki ba : Int) (ev : Value) (F : Int → Int) (p : rbP) (x : rbX) : Nat := m - x.i
set_option maxHeartbeats 1000000 in
theorem rb_step (w : World) (A : Option Addr) (L : List Int) (m cap : Nat) (qa qf qb qc qd qe qh ql sp pc : Int) (ad va ki ba : Int) (ev : Value) (F : Int → Int) (p : rbP) (x : rbX) (hX : XR w A [.i64, .i64] L m) (hc : m ≤ cap) (hP : (rpkC ev F).Ok Try.prog w) (h : rbInv A L m cap qa qf qb qc qd qe qh ql sp pc ad va ki ba ev F p x) : Hid (roundT Try.prog w (flatT Try.prog) (ctrOf (etabB ev F)) (callT Try.prog w (flatT Try.prog) (ctrOf (etabB ev F)) (noPre) (noLoop) 20) ((noLoop) 10) (roundOf (bodyAt Try.prog 10 0)) 0 1 rbRo rbRf rbRb (rbSt A L m cap qa qf qb qc qd qe qh ql sp pc ad va ki ba ev F p) (rbFin A L m cap qa qf qb qc qd qe qh ql sp pc ad va ki ba ev F p) (rbBck A L m cap qa qf qb qc qd qe qh ql sp pc ad va ki ba ev F p) rbNxX rbNxY rbNxZ x) (Kept (rbInv A L m cap qa qf qb qc qd qe qh ql sp pc ad va ki ba ev F p) (rbPost A L m cap qa qf qb qc qd qe qh ql sp pc ad va ki ba ev F p) (rbBack A L m cap qa qf qb qc qd qe qh ql sp pc ad va ki ba ev F p) (rbMu A L m cap qa qf qb qc qd qe qh ql sp pc ad va ki ba ev F p) x) := by
  obtain ⟨⟩ := p
  obtain ⟨R, r, nl, d, i⟩ := x
  constructor
  rw [rbstep_tree]
  simp only [T.holds, Kept, rbMu, and_self, true_and, and_true]
  obtain ⟨i1, big, rl, rd, nil, ri, eq⟩ := h
  simp only at i1 big rl rd nil ri eq
  have hl : L.length = m * 2 := hX.1
  simp only [T.holds, List.length_singleton, show [IntKind.i64, IntKind.i64].length = 2 from rfl, Int.toNat_natCast, Nat.mul_one, Nat.sub_zero, Nat.zero_add, Nat.add_zero, Nat.zero_mul, sym.cutO, ite_self, true_and, and_true, and_self, decide_eq_true_eq, decide_eq_false_iff_not, bne_iff_ne, ne_eq, Bool.not_eq_true, bne_eq_false_iff_eq, not_true_eq_false, false_implies, true_implies, beq_iff_eq, beq_eq_false_iff_ne]
  refine ⟨fun hlt => ?_, fun hge => ⟨rl, rd, nil, ?_⟩⟩
  · have hlt : i < m := by omega
    have wi : IntKind.i64.wrap ((i : Int) + 1) = ((i + 1 : Nat) : Int) := by rw [wi64 _ (by omega) (by omega)]; omega
    rw [evalL_at _ _ (by omega)] at eq
    refine ⟨⟨hX, by omega, by omega, by decide⟩, ⟨hX.2, by decide, by omega⟩, ?_⟩
    have ht := takes_in (L.getD (i * 2) 0) (L.getD (i * 2 + 1) 0)
    have hn := @takes_name (L.getD (i * 2 + 1) 0)
    generalize L.getD (i * 2) 0 = op at *
    generalize L.getD (i * 2 + 1) 0 = n at *
    rw [rl] at eq
    rw [wi]
    refine ⟨fun h1 => ⟨by rw [if_pos (.inl h1)] at eq; exact eq.symm⟩, fun h1 => ?_⟩
    have wk : IntKind.i64.wrap ((r : Int) - takesL op n) = (r : Int) - takesL op n := wi64 _ (by omega) (by omega)
    rw [wk]
    refine ⟨fun h2 => ⟨by rw [if_pos (.inr (by omega))] at eq; exact eq.symm⟩, fun h2 => ?_⟩
    rw [if_neg (by omega)] at eq
    obtain ⟨k, hk⟩ : ∃ k : Nat, (r : Int) - takesL op n = k := ⟨((r : Int) - takesL op n).toNat, by omega⟩
    rw [hk]
    simp only [Int.toNat_natCast]
    refine ⟨fun h3 => ?_, fun h3 => ?_⟩
    · have hkr : k = r := by omega
      have hT : R.take k = R := List.take_of_length_le (by omega)
      rw [if_pos h3] at eq
      refine ⟨fun h4 => ?_, fun h4 => ?_⟩
      · rw [if_pos h4] at eq
        subst h4
        exact ⟨hn h3, ⟨by omega, by omega, by omega⟩, ⟨⟨by omega, by omega, rd.2, fun e => (nil e).2⟩, by omega⟩, fun g => ⟨trivial, ⟨by show i + 1 ≤ m; omega, big, take_last (by omega) _, ⟨g.le, g.max⟩, (rowR g).nil, by show k + 1 ≤ i + 1; omega, by show evalL _ _ _ (R.take k ++ _) = _; rw [hT]; exact eq⟩, by omega⟩⟩
      · rw [if_neg h4] at eq
        exact ⟨⟨by omega, by omega, by omega⟩, ⟨⟨by omega, by omega, rd.2, fun e => (nil e).2⟩, by omega⟩, fun g => ⟨trivial, ⟨by show i + 1 ≤ m; omega, big, take_last (by omega) _, ⟨g.le, g.max⟩, (rowR g).nil, by show k + 1 ≤ i + 1; omega, by show evalL _ _ _ (R.take k ++ _) = _; rw [hT]; exact eq⟩, by omega⟩⟩
    · rw [if_neg h3] at eq
      refine ⟨fun h4 => ?_, fun h4 => ?_⟩
      · have hkr : k = r - 1 := by omega
        subst hkr
        rw [if_pos h4] at eq
        have hnl : nl = false := by
          cases nl with
          | false => rfl
          | true => have := (nil rfl).1; omega
        exact ⟨⟨hnl, by omega, by omega⟩, ⟨hnl, by omega⟩, ⟨by omega, by omega, by omega⟩, ⟨⟨by omega, by omega, rd.2, fun e => (nil e).2⟩, by omega⟩, fun g => ⟨trivial, ⟨by show i + 1 ≤ m; omega, big, take_last (by omega) _, ⟨g.le, g.max⟩, (rowR g).nil, by show r - 1 + 1 ≤ i + 1; omega, eq⟩, by omega⟩⟩
      · rw [if_neg h4] at eq
        have hkr : k = r - 2 := by omega
        have hnl : nl = false := by
          cases nl with
          | false => rfl
          | true => have := (nil rfl).1; omega
        have wk1 : IntKind.i64.wrap ((k : Int) + 1) = ((k + 1 : Nat) : Int) := by rw [wi64 _ (by omega) (by omega)]; omega
        rw [wk1, Int.toNat_natCast]
        rw [show r - 2 = k by omega, show r - 1 = k + 1 by omega] at eq
        refine ⟨⟨hnl, by omega, by omega⟩, ⟨hnl, by omega⟩, ⟨hnl, by omega, by omega⟩, ⟨hnl, by omega⟩, fun h5 => ⟨?_⟩, fun h5 => ?_⟩
        · rw [if_pos h5] at eq
          exact eq.symm
        · rw [if_neg (by intro h; exact h h5)] at eq
          exact ⟨⟨by omega, by omega, by omega⟩, ⟨⟨by omega, by omega, rd.2, fun e => (nil e).2⟩, by omega⟩, fun g => ⟨trivial, ⟨by show i + 1 ≤ m; omega, big, take_last (by omega) _, ⟨g.le, g.max⟩, (rowR g).nil, by show k + 1 ≤ i + 1; omega, eq⟩, by omega⟩⟩
  · have : L.drop (i * 2) = [] := List.drop_of_length_le (by omega)
    rw [this] at eq
    exact eq
theorem rbLp_ok (w : World) (A : Option Addr) (L : List Int) (m cap : Nat) (qa qf qb qc qd qe qh ql sp pc : Int) (ad va ki ba : Int) (ev : Value) (F : Int → Int) (hX : XR w A [.i64, .i64] L m) (hc : m ≤ cap) (hP : (rpkC ev F).Ok Try.prog w) : (rbLp A L m cap qa qf qb qc qd qe qh ql sp pc ad va ki ba ev F).ok Try.prog w := by
  intro s t h
  unfold rbLp at h
  simp only at h
  split at h
  · rename_i p _
    split at h
    · rename_i x _
      cases h
      exact loop_ok base2 ((fun (_ : World) => etabB_ok ev F w hP) w) (callT_ok base2.mixed base2.names base2.eqs ((fun (_ : World) => etabB_ok ev F w hP) w).ok ((fun (_ : World) => etabB_ok ev F w hP) w).there (pre_none _ _) (loops_none _ _) 20) ((loops_none _ _) 10) (c := roundOf (bodyAt Try.prog 10 0)) (by kernel_rfl) (id := 0) (n := 1) (hr := true) (ro := rbRo) (rf := rbRf) (rr := rbRb) (st := rbSt A L m cap qa qf qb qc qd qe qh ql sp pc ad va ki ba ev F p) (fin := rbFin A L m cap qa qf qb qc qd qe qh ql sp pc ad va ki ba ev F p) (bck := rbBck A L m cap qa qf qb qc qd qe qh ql sp pc ad va ki ba ev F p) (inv := rbInv A L m cap qa qf qb qc qd qe qh ql sp pc ad va ki ba ev F p) (post := rbPost A L m cap qa qf qb qc qd qe qh ql sp pc ad va ki ba ev F p) (back := rbBack A L m cap qa qf qb qc qd qe qh ql sp pc ad va ki ba ev F p) (nx := rbNxX) (fx := rbNxY) (bx := rbNxZ) (rbMu A L m cap qa qf qb qc qd qe qh ql sp pc ad va ki ba ev F p) (nf := 2) (nf' := 2) (nf'' := 1) (fun x => by kernel_rfl) (fun y => by kernel_rfl) (fun z => by kernel_rfl) (.inl rfl) (fun x hx => rb_step w A L m cap qa qf qb qc qd qe qh ql sp pc ad va ki ba ev F p x hX hc hP hx) s x
    · cases h
  · cases h
theorem runb_tree (w : World) (A : Option Addr) (L : List Int) (m cap : Nat) (qa qf qb qc qd qe qh ql sp pc : Int) (ad va ki ba : Int) (ev : Value) (F : Int → Int) :
    callT Try.prog w (flatT Try.prog) (ctrOf (etabB ev F)) (noPre) (lpOf Try.prog [rbLp A L m cap qa qf qb qc qd qe qh ql sp pc ad va ki ba ev F]) 20 10 [.v (.one (.xr A [.i64, .i64] L m cap)), .v (.agg [.int false .u8 qa, .int false .u8 qf, .int false .u8 qb, .int false .u8 qc, .int false .u8 qd, .int false .u8 qe, .int false .u8 qh, .int false .u8 ql, .int false .u16 sp, .int false .u16 pc, .int false .i64 ad, .int false .i64 va, .int false .i64 ki, .int false .i64 ba, .val (.func (.func 17) #[ev] #[])])] [] =
(.chk (sym.textAt Go.Proofs.Try.prog (10 : Go.FuncId) (0 : Nat) = sym.textAt Go.Proofs.Try.prog (10 : Go.FuncId) (0 : Nat))
(.chk (A = A ∧ [IntKind.i64, IntKind.i64] = [IntKind.i64, IntKind.i64] ∧ L = L ∧ m = m ∧ cap = cap)
(.chk (IntKind.i64 = IntKind.i64 ∧ (0 : Int) = (0 : Int))
(.chk (IntKind.i64 = IntKind.i64 ∧ (0 : Int) = (0 : Int))
(.chk (true = true ∧ (0 : Nat) = (0 : Nat) ∧ (0 : Nat) = (0 : Nat))
(.chk (A = A ∧ [IntKind.i64, IntKind.i64] = [IntKind.i64, IntKind.i64] ∧ L = L ∧ m = m ∧ cap = cap)
(.chk (IntKind.i64 = IntKind.i64 ∧ (↑m : Int) = (↑m : Int))
(.chk (IntKind.i64 = IntKind.i64 ∧ (0 : Int) = (0 : Int))
(.chk (IntKind.u8 = IntKind.u8 ∧ qa = qa)
(.chk (IntKind.u8 = IntKind.u8 ∧ qf = qf)
(.chk (IntKind.u8 = IntKind.u8 ∧ qb = qb)
(.chk (IntKind.u8 = IntKind.u8 ∧ qc = qc)
(.chk (IntKind.u8 = IntKind.u8 ∧ qd = qd)
(.chk (IntKind.u8 = IntKind.u8 ∧ qe = qe)
(.chk (IntKind.u8 = IntKind.u8 ∧ qh = qh)
(.chk (IntKind.u8 = IntKind.u8 ∧ ql = ql)
(.chk (IntKind.u16 = IntKind.u16 ∧ sp = sp)
(.chk (IntKind.u16 = IntKind.u16 ∧ pc = pc)
(.chk (IntKind.i64 = IntKind.i64 ∧ ad = ad)
(.chk (IntKind.i64 = IntKind.i64 ∧ va = va)
(.chk (IntKind.i64 = IntKind.i64 ∧ ki = ki)
(.chk (IntKind.i64 = IntKind.i64 ∧ ba = ba)
(.chk (Go.Value.func (Go.Fn.func (17 : Go.FuncId)) #[ev] #[] = Go.Value.func (Go.Fn.func (17 : Go.FuncId)) #[ev] #[])
(.chk (true = true ∧ ([] : List Int) = [])
(.chk (rbInv A L m cap qa qf qb qc qd qe qh ql sp pc ad va ki ba ev F { }
  { R := [], r := (0 : Nat), nl := true, d := (0 : Nat), i := (0 : Nat) })
(.all fun x : Bool =>
 (.br (x)
  (.all fun x_1 : sym.Got rbY
  (rbPost A L m cap qa qf qb qc qd qe qh ql sp pc ad va ki ba ev F { }) =>
   (.br ((↑x_1.1.2 : Int) != (1 : Int))
    (.leaf ((.tuple [(.one (.int true .i64 (0))), (.one (.int true .i64 (5)))]), [⟨[(.int false .u8 (qa)), (.int false .u8 (qf)), (.int false .u8 (qb)), (.int false .u8 (qc)), (.int false .u8 (qd)), (.int false .u8 (qe)), (.int false .u8 (qh)), (.int false .u8 (ql)), (.int false .u16 (sp)), (.int false .u16 (pc)), (.int false .i64 (ad)), (.int false .i64 (va)), (.int false .i64 (ki)), (.int false .i64 (ba)), (.val (Go.Value.func (Go.Fn.func (17 : Go.FuncId)) #[ev] #[]))], 38⟩, ⟨[(.row (x_1.1.3) ([IntKind.i64]) (x_1.1.1) (x_1.1.4))], 3⟩]))
    (.chk (x_1.1.3 = false ∧ (0 : Int) ≤ (0 : Int) ∧ (0 : Int) < (↑x_1.1.2 : Int))
    (.chk (x_1.1.3 = false ∧ (1 : Nat) ≤ x_1.1.1.length)
    (.leaf ((.tuple [(.one (.int false .i64 (x_1.1.1.getD (0 : Nat) (0 : Int)))), (.one (.int true .i64 (0)))]), [⟨[(.int false .u8 (qa)), (.int false .u8 (qf)), (.int false .u8 (qb)), (.int false .u8 (qc)), (.int false .u8 (qd)), (.int false .u8 (qe)), (.int false .u8 (qh)), (.int false .u8 (ql)), (.int false .u16 (sp)), (.int false .u16 (pc)), (.int false .i64 (ad)), (.int false .i64 (va)), (.int false .i64 (ki)), (.int false .i64 (ba)), (.val (Go.Value.func (Go.Fn.func (17 : Go.FuncId)) #[ev] #[]))], 38⟩, ⟨[(.row (x_1.1.3) ([IntKind.i64]) (x_1.1.1) (x_1.1.4))], 3⟩]))))))
  (.all fun x_1 : sym.Got rbZ
  (rbBack A L m cap qa qf qb qc qd qe qh ql sp pc ad va ki ba ev F { }) =>
   (.leaf ((.tuple [(.one (.int true .i64 (0))), (.one (.int false .i64 (x_1.1.1)))]), [⟨[.dead], 38⟩])))))))))))))))))))))))))))))) := by kernel_rfl
def runB (ev : Value) (F : Int → Int) : RCtr := ⟨10, [some [.i64, .i64], none], fun | [.row [.i64, .i64] m L, .av (.v (.agg [.int _ .u8 qa, .int _ .u8 qf, .int _ .u8 qb, .int _ .u8 qc, .int _ .u8 qd, .int _ .u8 qe, .int _ .u8 qh, .int _ .u8 ql, .int _ .u16 sp, .int _ .u16 pc, .int _ .i64 ad, .int _ .i64 va, .int _ .i64 ki, .int _ .i64 ba, .val v]))] => some (.chk (m ≤ 1000000 ∧ v = .func (.func 17) #[ev] #[]) (.leaf [.av (.one (.int false .i64 (evalL (nameL qa qf qb qc qd qe qh ql sp pc ad va ki ba) F L []).1)), .av (.one (.int false .i64 (evalL (nameL qa qf qb qc qd qe qh ql sp pc ad va ki ba) F L []).2))])) | _ => none⟩
theorem runB_ok (ev : Value) (F : Int → Int) (w0 : World) (hP : (rpkC ev F).Ok Try.prog w0) : (runB ev F).Ok Try.prog w0 := by
  refine rctr_ok base2 ⟨_, Try.func10, rfl⟩ (ctr := fun w => ctrOf (etabB ev F)) w0 (fun w hw => etabB_ok ev F w (Ok_later hP hw)) (pre := fun w => noPre) (fun w _ => pre_none _ w) (n := 20) fun w hw0 cas args t h ha K hK => ?_
  unfold runB at h
  simp only at h
  split at h
  · cases h
    obtain ⟨y0, y1, rfl, q0, q1⟩ := all2_2 ha
    obtain ⟨A, c, rfl, hX, hc⟩ := argRow q0
    obtain ⟨rfl, o1⟩ := argAv q1
    rename_i m L _ qa _ qf _ qb _ qc _ qd _ qe _ qh _ ql _ sp _ pc _ ad _ va _ ki _ ba _
    obtain ⟨⟨big, rfl⟩, hK⟩ := hK
    refine ⟨lpOf Try.prog [rbLp A L m c qa qf qb qc qd qe qh ql sp pc ad va ki ba ev F], lps_ok fun l hl => ?_, ?_⟩
    · simp only [List.mem_cons, List.not_mem_nil, or_false] at hl
      subst hl
      exact rbLp_ok w _ _ _ _ _ _ _ _ _ _ _ _ _ _ _ _ _ _ ev F hX hc (Ok_later hP hw0)
    show T.holds (callT Try.prog w (flatT Try.prog) (ctrOf (etabB ev F)) noPre _ 20 10 [_, .v (.agg [.int false .u8 qa, .int false .u8 qf, .int false .u8 qb, .int false .u8 qc, .int false .u8 qd, .int false .u8 qe, .int false .u8 qh, .int false .u8 ql, .int false .u16 sp, .int false .u16 pc, .int false .i64 ad, .int false .i64 va, .int false .i64 ki, .int false .i64 ba, .val (.func (.func 17) #[ev] #[])])] []) _
    rw [runb_tree]
    simp only [T.holds, true_and, and_true, and_self]
    have fin : ∀ R : List Int, evalL (nameL qa qf qb qc qd qe qh ql sp pc ad va ki ba) F [] R = if R.length = 1 then (R.getD 0 0, 0) else (0, 5) := fun R => rfl
    refine ⟨⟨Nat.zero_le _, big, rfl, ⟨Nat.le_refl _, by decide⟩, fun _ => ⟨rfl, rfl⟩, Nat.le_refl _, rfl⟩, fun x => ⟨fun _ y => ⟨fun h => ?_, fun h => ?_⟩, fun _ y => ?_⟩⟩
    · have e := y.so.eq
      have hl := y.so.rl
      have h : ¬ y.it.r = 1 := by intro h1; rw [h1] at h; exact absurd h (by decide)
      rw [fin, if_neg (by omega)] at e
      rw [← e] at hK
      exact ⟨_, [_, _], hK, rfl, .cons (.av rfl fun _ => rfl) (.cons (.av rfl fun _ => rfl) .nil)⟩
    · have e := y.so.eq
      have hl := y.so.rl
      have h : (y.it.r : Int) = 1 := by simpa using h
      have h : y.it.r = 1 := by omega
      have hnl : y.it.nl = false := by
        cases hh : y.it.nl with
        | false => rfl
        | true => have := (y.so.nil hh).1; omega
      rw [fin, if_pos (by omega)] at e
      rw [← e] at hK
      exact ⟨⟨hnl, by decide, by omega⟩, ⟨hnl, by omega⟩, _, [_, _], hK, rfl, .cons (.av rfl fun _ => rfl) (.cons (.av rfl fun _ => rfl) .nil)⟩
    · have e := y.so.eq
      rw [e] at hK
      exact ⟨_, [_, _], hK, rfl, .cons (.av rfl fun _ => rfl) (.cons (.av rfl fun _ => rfl) .nil)⟩
  · cases h
end Go.Proofs.Ytmbahohmiecfiaa
