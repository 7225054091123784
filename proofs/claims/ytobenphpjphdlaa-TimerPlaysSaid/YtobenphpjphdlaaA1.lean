/-
  Walks of the timer's signal and of the document's, by computing. Bytes are below 256, the counter below 65536; no other condition.
-/
import Derived.Test.YtobenphpjphdlaaSym9
import Derived.Test.YtobenphpjphdlaaSymE
import Derived.Test.YtobenphpjphdlaaPlain
namespace Go.Proofs.Ytobenphpjphdlaa
open Go.RowKit sym
set_option linter.unusedVariables false
set_option linter.unusedSimpArgs false
set_option maxRecDepth 100000
theorem base : Base Try.prog (fun _ => false) := ⟨by kernel_rfl, names_of (by kernel_rfl), fun _ h => by (cases h)⟩
theorem base2 : Base Try.prog (flatT Try.prog) := ⟨base.mixed, base.names, flat_ok _⟩
theorem sig_tree (w : World) (c tima tma tac : Int) (ov : Bool) :
    callV Try.prog w (fun _ => false) noCtr noLoop 20 22 [.v (.agg [.int false .u16 c, .int false .u8 tima, .int false .u8 tma, .int false .u8 tac, .bool false ov])] =
(.br (bits BinOp.and IntKind.u8 tac (4 : Int) != (0 : Int))
 (.chk ((0 : Int) ≤ bits BinOp.and IntKind.u8 tac (3 : Int) ∧
  bits BinOp.and IntKind.u8 tac (3 : Int) < ↑(4 : Nat))
 (.br (bits BinOp.and IntKind.u8 tac (3 : Int) == ↑(0 : Nat))
  (.leaf (.v (.one (.bool false (bits BinOp.and IntKind.u16 (c.fdiv ((2 : Int) ^ (9 : Nat))) (1 : Int) == (1 : Int))))))
  (.br (bits BinOp.and IntKind.u8 tac (3 : Int) == ↑(1 : Nat))
   (.leaf (.v (.one (.bool false (bits BinOp.and IntKind.u16 (c.fdiv ((2 : Int) ^ (3 : Nat))) (1 : Int) == (1 : Int))))))
   (.br (bits BinOp.and IntKind.u8 tac (3 : Int) == ↑(2 : Nat))
    (.leaf (.v (.one (.bool false (bits BinOp.and IntKind.u16 (c.fdiv ((2 : Int) ^ (5 : Nat))) (1 : Int) == (1 : Int))))))
    (.leaf (.v (.one (.bool false (bits BinOp.and IntKind.u16 (c.fdiv ((2 : Int) ^ (7 : Nat))) (1 : Int) == (1 : Int))))))))))
 (.leaf (.v (.one (.bool true false))))) := by kernel_rfl
theorem rsig_tree (w : World) (c tima tma tac : Int) (ov : Bool) :
    callV Try.prog w (fun _ => false) noCtr noLoop 20 16 [.v (.agg [.int false .u16 c, .int false .u8 tima, .int false .u8 tma, .int false .u8 tac, .bool false ov])] =
(.br ((IntKind.u8.wrap (tac.tdiv (4 : Int))).tmod (2 : Int) == (0 : Int))
 (.leaf (.v (.one (.bool true false))))
 (.br (tac.tmod (4 : Int) == (1 : Int))
  (.leaf (.v (.one (.bool false ((IntKind.i64.wrap ((IntKind.i64.wrap c).tdiv (8 : Int))).tmod (2 : Int) == (1 : Int))))))
  (.br (tac.tmod (4 : Int) == (2 : Int))
   (.leaf (.v (.one (.bool false ((IntKind.i64.wrap ((IntKind.i64.wrap c).tdiv (32 : Int))).tmod (2 : Int) == (1 : Int))))))
   (.br (tac.tmod (4 : Int) == (3 : Int))
    (.leaf (.v (.one (.bool false ((IntKind.i64.wrap ((IntKind.i64.wrap c).tdiv (128 : Int))).tmod (2 : Int) == (1 : Int))))))
    (.leaf (.v (.one (.bool false ((IntKind.i64.wrap ((IntKind.i64.wrap c).tdiv (512 : Int))).tmod (2 : Int) == (1 : Int)))))))))) := by kernel_rfl
theorem awake_tree (w : World) :
    callV Try.prog w (fun _ => false) noCtr noLoop 20 9 [] =
(.leaf (.v (.one (.bool true true)))) := by kernel_rfl
theorem sig_any (w : World) (c tima tma tac : Int) (ov : Bool) (bc : Tm.W c) (ba : Tm.B tac) : Calls Try.prog 22 #[.agg #[.int .u16 c, .int .u8 tima, .int .u8 tma, .int .u8 tac, .bool ov]] w fun e w' => e = .returned (.bool (Tm.sg c tac)) ∧ Below w.heap.size w w' := by
  refine val_eq base (ctrs_none _ _) (loops_none _ _) (sig_tree w c tima tma tac ov) rfl ?_
  have l512 : bits .and .u16 (c / 512) 1 = c / 512 % 2 := Tm.low1 ⟨by omega, by omega⟩
  have l8 : bits .and .u16 (c / 8) 1 = c / 8 % 2 := Tm.low1 ⟨by omega, by omega⟩
  have l32 : bits .and .u16 (c / 32) 1 = c / 32 % 2 := Tm.low1 ⟨by omega, by omega⟩
  have l128 : bits .and .u16 (c / 128) 1 = c / 128 % 2 := Tm.low1 ⟨by omega, by omega⟩
  simp (disch := omega) only [T.holds, Int.tdiv_eq_ediv_of_nonneg, Int.tmod_eq_emod_of_nonneg, Tm.wu8, Tm.wu16, Tm.wi64, Tm.t4 ba, Tm.t3 ba, Int.fdiv_eq_ediv_of_nonneg, Int.reducePow, Int.cast_ofNat_Int, beq_iff_eq, decide_eq_true_eq, decide_eq_false_iff_not, beq_eq_false_iff_ne, ne_eq, bne_iff_ne]
  have hk : tac % 4 = 0 ∨ tac % 4 = 1 ∨ tac % 4 = 2 ∨ tac % 4 = 3 := by omega
  rcases hk with hk | hk | hk | hk <;> by_cases h4 : tac / 4 % 2 = 1
  all_goals
    simp (disch := omega) [AV.γ, V.γ, Sc.γ, Tm.sg, Tm.bitV, hk, h4, l512, l8, l32, l128, AV.own, AV.wf, V.wf, Sc.wf]
  all_goals first | done | omega | (rw [Bool.eq_iff_iff]; simp)
theorem rsig_any (w : World) (c tima tma tac : Int) (ov : Bool) (bc : Tm.W c) (ba : Tm.B tac) : Calls Try.prog 16 #[.agg #[.int .u16 c, .int .u8 tima, .int .u8 tma, .int .u8 tac, .bool ov]] w fun e w' => e = .returned (.bool (Tm.sg c tac)) ∧ Below w.heap.size w w' := by
  refine val_eq base (ctrs_none _ _) (loops_none _ _) (rsig_tree w c tima tma tac ov) rfl ?_
  have l512 : bits .and .u16 (c / 512) 1 = c / 512 % 2 := Tm.low1 ⟨by omega, by omega⟩
  have l8 : bits .and .u16 (c / 8) 1 = c / 8 % 2 := Tm.low1 ⟨by omega, by omega⟩
  have l32 : bits .and .u16 (c / 32) 1 = c / 32 % 2 := Tm.low1 ⟨by omega, by omega⟩
  have l128 : bits .and .u16 (c / 128) 1 = c / 128 % 2 := Tm.low1 ⟨by omega, by omega⟩
  simp (disch := omega) only [T.holds, Int.tdiv_eq_ediv_of_nonneg, Int.tmod_eq_emod_of_nonneg, Tm.wu8, Tm.wu16, Tm.wi64, Tm.t4 ba, Tm.t3 ba, Int.fdiv_eq_ediv_of_nonneg, Int.reducePow, Int.cast_ofNat_Int, beq_iff_eq, decide_eq_true_eq, decide_eq_false_iff_not, beq_eq_false_iff_ne, ne_eq, bne_iff_ne]
  have hk : tac % 4 = 0 ∨ tac % 4 = 1 ∨ tac % 4 = 2 ∨ tac % 4 = 3 := by omega
  rcases hk with hk | hk | hk | hk <;> by_cases h4 : tac / 4 % 2 = 1
  all_goals
    simp (disch := omega) [AV.γ, V.γ, Sc.γ, Tm.sg, Tm.bitV, hk, h4, l512, l8, l32, l128, AV.own, AV.wf, V.wf, Sc.wf]
  all_goals first | done | omega | (rw [Bool.eq_iff_iff]; simp)
def sigC : Ctr := ⟨22, fun | [.v (.agg [.int _ .u16 c, .int _ .u8 tima, .int _ .u8 tma, .int _ .u8 tac, .bool _ ov])] => some (.chk (Tm.W c ∧ Tm.B tac) (.leaf (.v (.one (.bool false (Tm.sg c tac)))))) | _ => none⟩
theorem sigC_ok (w0 : World) : sigC.ok Try.prog w0 := by
  refine ⟨⟨_, Try.func22, rfl⟩, fun args t ht => ?_⟩
  unfold sigC at ht
  simp only at ht
  split at ht
  · cases ht
    refine ⟨rfl, fun K hK => ⟨_, hK.2, rfl, fun w _ => ?_⟩⟩
    obtain ⟨hr, _⟩ := hK
    exact sig_any w _ _ _ _ _ hr.1 hr.2
  · cases ht
def rsigC : Ctr := ⟨16, fun | [.v (.agg [.int _ .u16 c, .int _ .u8 tima, .int _ .u8 tma, .int _ .u8 tac, .bool _ ov])] => some (.chk (Tm.W c ∧ Tm.B tac) (.leaf (.v (.one (.bool false (Tm.sg c tac)))))) | _ => none⟩
theorem rsigC_ok (w0 : World) : rsigC.ok Try.prog w0 := by
  refine ⟨⟨_, Try.func16, rfl⟩, fun args t ht => ?_⟩
  unfold rsigC at ht
  simp only at ht
  split at ht
  · cases ht
    refine ⟨rfl, fun K hK => ⟨_, hK.2, rfl, fun w _ => ?_⟩⟩
    obtain ⟨hr, _⟩ := hK
    exact rsig_any w _ _ _ _ _ hr.1 hr.2
  · cases ht
def table1 : List Ctr := [sigC, rsigC]
theorem table1_ok (w0 : World) : Ctrs Try.prog w0 (ctrOf table1) := ctrs_of fun c hc => by
  simp only [table1, List.mem_cons, List.not_mem_nil, or_false] at hc
  rcases hc with rfl | rfl
  · exact sigC_ok w0
  · exact rsigC_ok w0
end Go.Proofs.Ytobenphpjphdlaa
