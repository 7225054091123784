/-
  Three laws of what a condition comes to: what shifts, what rules, what none are. Conditions stand in each theorem.
-/
import Derived.Test.YtmbahohmiecfiaaR2
namespace Go.Proofs.Ytmbahohmiecfiaa
open Go.RowKit sym
set_option linter.unusedVariables false
set_option linter.unusedSimpArgs false
set_option maxRecDepth 100000
/-- What orders come to, by what is asked. -/
def evE : List Int → List Int → Int × Int
  | [qa, qf, qb, qc, qd, qe, qh, ql, sp, pc, ad, va, ki, ba], L => evalL (nameL qa qf qb qc qd qe qh ql sp pc ad va ki ba) F0 L []
  | _, _ => (0, 0)
def runF (RUN : List Int → List Int → Int × Int) : RCtr := ⟨10, [some [.i64, .i64], none], fun | [.row [.i64, .i64] m L, .av (.v (.agg [.int _ .u8 qa, .int _ .u8 qf, .int _ .u8 qb, .int _ .u8 qc, .int _ .u8 qd, .int _ .u8 qe, .int _ .u8 qh, .int _ .u8 ql, .int _ .u16 sp, .int _ .u16 pc, .int _ .i64 ad, .int _ .i64 va, .int _ .i64 ki, .int _ .i64 ba, .nilfn]))] => some (.chk (m ≤ 1000000 ∧ RUN = evE) (.leaf [.av (.one (.int false .i64 (RUN [qa, qf, qb, qc, qd, qe, qh, ql, sp, pc, ad, va, ki, ba] L).1)), .av (.one (.int false .i64 (RUN [qa, qf, qb, qc, qd, qe, qh, ql, sp, pc, ad, va, ki, ba] L).2))])) | _ => none⟩
def rtab (RUN : List Int → List Int → Int × Int) : List RCtr := [runF RUN]
/-- A number, or -77. -/
def rnE (L : List Int) : Int := if (evE [0, 0, 0, 0, 0, 0, 0, 0, 0, 0, 0, 0, 0, 0] L).2 = 0 then (evE [0, 0, 0, 0, 0, 0, 0, 0, 0, 0, 0, 0, 0, 0] L).1 else -77
def rnF (RN : List Int → Int) : RCtr := ⟨18, [some [.i64, .i64]], fun | [.row [.i64, .i64] m L] => some (.chk (m ≤ 1000000 ∧ RN = rnE) (.leaf [.av (.one (.int false .i64 (RN L)))])) | _ => none⟩
def opC : Ctr := ⟨19, fun | [.v (.one (.int _ .i64 n))] => some (.leaf (.v (.agg [.int false .i64 n, .int true .i64 0]))) | _ => none⟩
def awC : Ctr := ⟨9, fun | [] => some (.leaf (.v (.one (.bool true true)))) | _ => none⟩
def awT : List Ctr := [awC]
def ruT : List Ctr := [awC, opC]
theorem runF_ok (RUN : List Int → List Int → Int × Int) (w0 : World) : (runF RUN).Ok Try.prog w0 := by
  refine ⟨⟨_, Try.func10, rfl⟩, fun w hw cas us t ht ha K hK => ?_⟩
  unfold runF at ht
  simp only at ht
  split at ht
  · cases ht
    obtain ⟨⟨big, rfl⟩, hK⟩ := hK
    have := (runC_ok w0).it w hw _ us _ (by unfold runC; rfl) ha K
    exact this ⟨big, hK⟩
  · cases ht
theorem rtab_ok (RUN : List Int → List Int → Int × Int) (w0 : World) : ∀ c ∈ rtab RUN, c.Ok Try.prog w0 := fun c hc => by
  simp only [rtab, List.mem_cons, List.not_mem_nil, or_false] at hc
  subst hc
  exact runF_ok RUN w0
theorem rn_tree (w : World) (A : Option Addr) (L : List Int) (m cap : Nat) (RUN : List Int → List Int → Int × Int) :
    callT Try.prog w (flatT Try.prog) (noCtr) (preOf w (rtab RUN)) (noLoop) 20 18 [.v (.one (.xr A [.i64, .i64] L m cap))] [] =
(.chk ((sym.XR w A [IntKind.i64, IntKind.i64] L m ∧ m ≤ cap) ∧ True)
(.chk (m ≤ (1000000 : Nat) ∧ RUN = evE)
(.br ((RUN
      [(0 : Int), (0 : Int), (0 : Int), (0 : Int), (0 : Int), (0 : Int), (0 : Int), (0 : Int), (0 : Int), (0 : Int),
        (0 : Int), (0 : Int), (0 : Int), (0 : Int)]
      L).snd !=
  (0 : Int))
 (.leaf ((.v (.one (.int true .i64 (-77)))), []))
 (.leaf ((.v (.one (.int false .i64 ((RUN
    [(0 : Int), (0 : Int), (0 : Int), (0 : Int), (0 : Int), (0 : Int), (0 : Int), (0 : Int), (0 : Int), (0 : Int),
      (0 : Int), (0 : Int), (0 : Int), (0 : Int)]
    L).fst)))), []))))) := by kernel_rfl
theorem rnF_ok (RN : List Int → Int) (w0 : World) : (rnF RN).Ok Try.prog w0 := by
  refine rctr_ok base2 ⟨_, Try.func18, rfl⟩ (ctr := fun w => noCtr) w0 (fun w _ => ctrs_none _ w) (pre := fun w => preOf w (rtab evE)) (fun w _ => preOf_ok (rtab_ok evE w)) (n := 20) fun w hw0 cas args t h ha K hK => ?_
  unfold rnF at h
  simp only at h
  split at h
  · cases h
    rename_i m L
    obtain ⟨y0, rfl, q0⟩ := all2_1 ha
    obtain ⟨A, c, rfl, hX, hc⟩ := argRow q0
    obtain ⟨⟨big, rfl⟩, hK⟩ := hK
    refine ⟨noLoop, loops_none _ _, ?_⟩
    show T.holds (callT Try.prog w (flatT Try.prog) noCtr (preOf w (rtab evE)) noLoop 20 18 [_] []) _
    rw [rn_tree]
    simp only [T.holds, beq_iff_eq, beq_eq_false_iff_ne, bne_iff_ne, bne_eq_false_iff_eq, decide_eq_true_eq, decide_eq_false_iff_not, ne_eq, true_and, and_true, and_self]
    refine ⟨⟨hX, hc⟩, big, fun h => ?_, fun h => ?_⟩
    · have e : rnE L = -77 := by unfold rnE; rw [if_neg h]
      rw [e] at hK
      exact ⟨_, [_], hK, rfl, .cons (.av rfl fun _ => rfl) .nil⟩
    · have e : rnE L = (evE [0, 0, 0, 0, 0, 0, 0, 0, 0, 0, 0, 0, 0, 0] L).1 := by unfold rnE; rw [if_pos h]
      rw [e] at hK
      exact ⟨_, [_], hK, rfl, .cons (.av rfl fun _ => rfl) .nil⟩
  · cases h
theorem op_tree (w : World) (n : Int) :
    callV Try.prog w (flatT Try.prog) (noCtr) (noPre) (noLoop) 20 19 [.v (.one (.int false .i64 n))] =
(.leaf (.v (.agg [(.int false .i64 (n)), (.int true .i64 (0))]))) := by kernel_rfl
theorem opC_ok (w0 : World) : opC.ok Try.prog w0 := by
  refine ⟨⟨_, Try.func19, rfl⟩, fun args t ht => ?_⟩
  unfold opC at ht
  simp only at ht
  split at ht
  · cases ht
    exact ⟨rfl, fun K hK => ⟨_, hK, rfl, fun w _ => val_eq base2 (ctrs_none _ _) (pre_none _ _) (loops_none _ _) (op_tree w _) rfl ⟨rfl, rfl⟩⟩⟩
  · cases ht
theorem awake_tree (w : World) (RUN : List Int → List Int → Int × Int) :
    callV Try.prog w (flatT Try.prog) (noCtr) (preOf w (rtab RUN)) (noLoop) 20 9 [] =
(.chk (True ∧ True)
(.chk ((3 : Nat) ≤ (1000000 : Nat) ∧ RUN = evE)
(.br ((RUN
      [(255 : Int), (0 : Int), (0 : Int), (0 : Int), (0 : Int), (0 : Int), (0 : Int), (0 : Int), (0 : Int), (0 : Int),
        (0 : Int), (0 : Int), (0 : Int), (0 : Int)]
      [(1 : Int), (7 : Int), (2 : Int), (0 : Int), (20 : Int), (0 : Int)]).fst ==
  (262 : Int))
 (.br ((RUN
      [(255 : Int), (0 : Int), (0 : Int), (0 : Int), (0 : Int), (0 : Int), (0 : Int), (0 : Int), (0 : Int), (0 : Int),
        (0 : Int), (0 : Int), (0 : Int), (0 : Int)]
      [(1 : Int), (7 : Int), (2 : Int), (0 : Int), (20 : Int), (0 : Int)]).snd ==
  (0 : Int))
  (.leaf (.v (.one (.bool true true))))
  (.leaf (.v (.one (.bool true false)))))
 (.leaf (.v (.one (.bool true false))))))) := by kernel_rfl
theorem aw_val : evE [255, 0, 0, 0, 0, 0, 0, 0, 0, 0, 0, 0, 0, 0] [1, 7, 2, 0, 20, 0] = (262, 0) := by decide +kernel
theorem awC_ok (w0 : World) : awC.ok Try.prog w0 := by
  refine ⟨⟨_, Try.func9, rfl⟩, fun args t ht => ?_⟩
  unfold awC at ht
  simp only at ht
  split at ht
  · cases ht
    refine ⟨rfl, fun K hK => ⟨_, hK, rfl, fun w _ => val_eq base2 (ctrs_none _ _) (preOf_ok (rtab_ok evE w)) (loops_none _ _) (awake_tree w evE) rfl ?_⟩⟩
    rw [aw_val]
    exact ⟨⟨trivial, trivial⟩, ⟨by decide, rfl⟩, fun _ => ⟨fun _ => ⟨rfl, rfl⟩, fun h => absurd h (by decide)⟩, fun h => absurd h (by decide)⟩
  · cases ht
theorem awT_ok (w : World) : Ctrs Try.prog w (ctrOf awT) := ctrs_of fun c hc => by
  simp only [awT, List.mem_cons, List.not_mem_nil, or_false] at hc
  subst hc
  exact awC_ok w
theorem ruT_ok (w : World) : Ctrs Try.prog w (ctrOf ruT) := ctrs_of fun c hc => by
  simp only [ruT, List.mem_cons, List.not_mem_nil, or_false] at hc
  rcases hc with rfl | rfl
  · exact awC_ok w
  · exact opC_ok w
theorem rulesT_ok (w : World) : Ctrs Try.prog w (ctrOr (ctrOf ruT) (qctr [rnF rnE, runF evE])) := ctrOr_ok (ruT_ok w) (qctr_ok fun c hc => by
  simp only [List.mem_cons, List.not_mem_nil, or_false] at hc
  rcases hc with rfl | rfl
  · exact rnF_ok _ w
  · exact runF_ok _ w)
theorem t1 (n : Int) : takesL 1 n = 0 := by simp [takesL]
theorem t2 (op : Int) (h : 7 ≤ op) (h2 : op ≤ 24) : takesL op 0 = 2 := by
  unfold takesL
  rw [if_neg (by omega), if_neg (by omega), if_neg (by omega)]
theorem t3 (op : Int) (h : 3 ≤ op) (h2 : op ≤ 6) : takesL op 0 = 1 := by
  unfold takesL
  rw [if_neg (by omega), if_neg (by omega), if_pos (by omega)]
theorem e_num (nm F : Int → Int) (x : Int) (r S : List Int) : evalL nm F (1 :: x :: r) S = evalL nm F r (S ++ [x]) := by
  rw [evalL, t1, if_neg (by omega), if_pos rfl, if_neg (by decide)]
theorem e_one (nm F : Int → Int) (op : Int) (h : 3 ≤ op) (h2 : op ≤ 6) (x : Int) (r : List Int) : evalL nm F (op :: 0 :: r) [x] = evalL nm F r [oneL F op x] := by
  rw [evalL, t3 op h h2]
  rfl
theorem e_one' (nm F : Int → Int) (op : Int) (h : 3 ≤ op) (h2 : op ≤ 6) (y x : Int) (r : List Int) : evalL nm F (op :: 0 :: r) [y, x] = evalL nm F r [y, oneL F op x] := by
  rw [evalL, t3 op h h2]
  rfl
theorem e_two (nm F : Int → Int) (op : Int) (h : 7 ≤ op) (h2 : op ≤ 24) (x y : Int) (r : List Int) : evalL nm F (op :: 0 :: r) [x, y] = if (twoL op x y).2 ≠ 0 then (0, (twoL op x y).2) else evalL nm F r [(twoL op x y).1] := by
  rw [evalL, t2 op h h2]
  rfl
theorem e_end (nm F : Int → Int) (x : Int) : evalL nm F [] [x] = (x, 0) := rfl
/-- The answer, by itself. -/
theorem v_two (op : Int) (h : 7 ≤ op) (h2 : op ≤ 24) (x y : Int) : evE [0, 0, 0, 0, 0, 0, 0, 0, 0, 0, 0, 0, 0, 0] [1, x, 1, y, op, 0] = if (twoL op x y).2 ≠ 0 then (0, (twoL op x y).2) else ((twoL op x y).1, 0) := by
  show evalL _ _ _ _ = _
  rw [e_num, e_num, List.nil_append, List.singleton_append, e_two _ _ _ h h2, e_end]
theorem v_one2 (o1 o2 : Int) (h : 3 ≤ o1) (h2 : o1 ≤ 6) (h3 : 3 ≤ o2) (h4 : o2 ≤ 6) (x : Int) : evE [0, 0, 0, 0, 0, 0, 0, 0, 0, 0, 0, 0, 0, 0] [1, x, o1, 0, o2, 0] = (oneL F0 o2 (oneL F0 o1 x), 0) := by
  show evalL _ _ _ _ = _
  rw [e_num, List.nil_append, e_one _ _ _ h h2, e_one _ _ _ h3 h4, e_end]
theorem v_one (o1 : Int) (h : 3 ≤ o1) (h2 : o1 ≤ 6) (x : Int) : evE [0, 0, 0, 0, 0, 0, 0, 0, 0, 0, 0, 0, 0, 0] [1, x, o1, 0] = (oneL F0 o1 x, 0) := by
  show evalL _ _ _ _ = _
  rw [e_num, List.nil_append, e_one _ _ _ h h2, e_end]
theorem v_sub (x y : Int) : evE [0, 0, 0, 0, 0, 0, 0, 0, 0, 0, 0, 0, 0, 0] [1, x, 1, y, 4, 0, 20, 0] = (IntKind.i64.wrap (x + IntKind.i64.wrap (0 - y)), 0) := by
  show evalL _ _ _ _ = _
  rw [e_num, e_num, List.nil_append, List.singleton_append, e_one' _ _ 4 (by decide) (by decide), e_two _ _ 20 (by decide) (by decide)]
  rfl
theorem v_op (op : Int) : evE [0, 0, 0, 0, 0, 0, 0, 0, 0, 0, 0, 0, 0, 0] [op, 0] = (0, if op = 1 ∨ op = 2 then 0 else 5) := by
  show evalL _ _ _ _ = _
  by_cases h1 : op = 1
  · subst h1
    rw [e_num]
    rfl
  · by_cases h2 : op = 2
    · subst h2
      decide +kernel
    · rw [if_neg (by omega), evalL, if_pos]
      unfold takesL
      rw [if_neg (by omega)]
      split
      · exact .inl (by decide)
      · right
        split <;> decide
theorem v_nil : evE [0, 0, 0, 0, 0, 0, 0, 0, 0, 0, 0, 0, 0, 0] [] = (0, 5) := rfl
theorem b_t : B2 true = 1 := rfl
theorem b_f : B2 false = 0 := rfl
theorem flip (x : Int) : bits .xor .i64 (-1) x = IntKind.i64.wrap (-1 - x) := by
  have key : (BitVec.ofInt 64 (-1) ^^^ BitVec.ofInt 64 x).toNat = 2 ^ 64 - 1 - (x % ((2 ^ 64 : Nat) : Int)).toNat := by
    rw [show BitVec.ofInt 64 (-1) = BitVec.allOnes 64 from by decide, BitVec.allOnes_xor, BitVec.toNat_not, BitVec.toNat_ofInt]
  show IntKind.i64.wrap ((BitVec.ofInt 64 (-1) ^^^ BitVec.ofInt 64 x).toNat : Nat) = _
  rw [key, IntKind.wrap_i64, IntKind.wrap_i64]
  omega
theorem xor_comm (x y : Int) : bits .xor .i64 x y = bits .xor .i64 y x := by simp only [bits, BitVec.xor_comm]
end Go.Proofs.Ytmbahohmiecfiaa
