/-
  Walks of the timer's calls and of the document's, by computing: a cycle, a write, a read are those of Plain. Bytes are below 256, the counter below 65536; no other condition.
-/
import Derived.Test.YtobenphpjphdlaaA1
namespace Go.Proofs.Ytobenphpjphdlaa
open Go.RowKit sym
set_option linter.unusedVariables false
set_option linter.unusedSimpArgs false
set_option maxRecDepth 100000
def TB (c tima tma tac : Int) : Prop := Tm.W c ∧ Tm.B tima ∧ Tm.B tma ∧ Tm.B tac
theorem tick_tree (w : World) (c tima tma tac : Int) (ov : Bool) :
    callV Try.prog w (fun _ => false) (ctrOf table1) noLoop 20 10 [.v (.agg [.int false .u16 c, .int false .u8 tima, .int false .u8 tma, .int false .u8 tac, .bool false ov])] =
(.br (ov)
 (.chk (Tm.W c ∧ Tm.B tac)
 (.br (Tm.sg c tac)
  (.chk (Tm.W (IntKind.u16.wrap (c + (4 : Int))) ∧ Tm.B tac)
  (.br (!Tm.sg (IntKind.u16.wrap (c + (4 : Int))) tac)
   (.leaf (.tuple [(.agg [(.int false .u16 (IntKind.u16.wrap (c + (4 : Int)))), (.int false .u8 (IntKind.u8.wrap (tma + (1 : Int)))), (.int false .u8 (tma)), (.int false .u8 (tac)), (.bool false (IntKind.u8.wrap (tma + (1 : Int)) == (0 : Int)))]), (.one (.bool false (ov)))]))
   (.leaf (.tuple [(.agg [(.int false .u16 (IntKind.u16.wrap (c + (4 : Int)))), (.int false .u8 (tma)), (.int false .u8 (tma)), (.int false .u8 (tac)), (.bool true false)]), (.one (.bool false (ov)))]))))
  (.leaf (.tuple [(.agg [(.int false .u16 (IntKind.u16.wrap (c + (4 : Int)))), (.int false .u8 (tma)), (.int false .u8 (tma)), (.int false .u8 (tac)), (.bool true false)]), (.one (.bool false (ov)))]))))
 (.chk (Tm.W c ∧ Tm.B tac)
 (.br (Tm.sg c tac)
  (.chk (Tm.W (IntKind.u16.wrap (c + (4 : Int))) ∧ Tm.B tac)
  (.br (!Tm.sg (IntKind.u16.wrap (c + (4 : Int))) tac)
   (.br (ov)
    (.leaf (.tuple [(.agg [(.int false .u16 (IntKind.u16.wrap (c + (4 : Int)))), (.int false .u8 (IntKind.u8.wrap (tima + (1 : Int)))), (.int false .u8 (tma)), (.int false .u8 (tac)), (.bool true true)]), (.one (.bool false (ov)))]))
    (.leaf (.tuple [(.agg [(.int false .u16 (IntKind.u16.wrap (c + (4 : Int)))), (.int false .u8 (IntKind.u8.wrap (tima + (1 : Int)))), (.int false .u8 (tma)), (.int false .u8 (tac)), (.bool false (IntKind.u8.wrap (tima + (1 : Int)) == (0 : Int)))]), (.one (.bool false (ov)))])))
   (.leaf (.tuple [(.agg [(.int false .u16 (IntKind.u16.wrap (c + (4 : Int)))), (.int false .u8 (tima)), (.int false .u8 (tma)), (.int false .u8 (tac)), (.bool false (ov))]), (.one (.bool false (ov)))]))))
  (.leaf (.tuple [(.agg [(.int false .u16 (IntKind.u16.wrap (c + (4 : Int)))), (.int false .u8 (tima)), (.int false .u8 (tma)), (.int false .u8 (tac)), (.bool false (ov))]), (.one (.bool false (ov)))]))))) := by kernel_rfl
theorem write_tree (w : World) (c tima tma tac n x : Int) (ov : Bool) :
    callV Try.prog w (fun _ => false) (ctrOf table1) noLoop 20 11 [.v (.agg [.int false .u16 c, .int false .u8 tima, .int false .u8 tma, .int false .u8 tac, .bool false ov]), .v (.one (.int false .i64 n)), .v (.one (.int false .u8 x))] =
(.br (n == (0 : Int))
 (.chk (Tm.W c ∧ Tm.B tac)
 (.br (Tm.sg c tac)
  (.chk (Tm.W (0 : Int) ∧ Tm.B tac)
  (.br (!Tm.sg (0 : Int) tac)
   (.br (ov)
    (.leaf (.v (.agg [(.int true .u16 (0)), (.int false .u8 (IntKind.u8.wrap (tima + (1 : Int)))), (.int false .u8 (tma)), (.int false .u8 (tac)), (.bool true true)])))
    (.leaf (.v (.agg [(.int true .u16 (0)), (.int false .u8 (IntKind.u8.wrap (tima + (1 : Int)))), (.int false .u8 (tma)), (.int false .u8 (tac)), (.bool false (IntKind.u8.wrap (tima + (1 : Int)) == (0 : Int)))]))))
   (.leaf (.v (.agg [(.int true .u16 (0)), (.int false .u8 (tima)), (.int false .u8 (tma)), (.int false .u8 (tac)), (.bool false (ov))])))))
  (.leaf (.v (.agg [(.int true .u16 (0)), (.int false .u8 (tima)), (.int false .u8 (tma)), (.int false .u8 (tac)), (.bool false (ov))])))))
 (.br (n == (1 : Int))
  (.leaf (.v (.agg [(.int false .u16 (c)), (.int false .u8 (x)), (.int false .u8 (tma)), (.int false .u8 (tac)), (.bool true false)])))
  (.br (n == (2 : Int))
   (.leaf (.v (.agg [(.int false .u16 (c)), (.int false .u8 (tima)), (.int false .u8 (x)), (.int false .u8 (tac)), (.bool false (ov))])))
   (.br (n == (3 : Int))
    (.chk (Tm.W c ∧ Tm.B tac)
    (.br (Tm.sg c tac)
     (.chk (Tm.W c ∧ Tm.B (bits BinOp.and IntKind.u8 x (7 : Int)))
     (.br (!Tm.sg c (bits BinOp.and IntKind.u8 x (7 : Int)))
      (.br (ov)
       (.leaf (.v (.agg [(.int false .u16 (c)), (.int false .u8 (IntKind.u8.wrap (tima + (1 : Int)))), (.int false .u8 (tma)), (.int false .u8 (bits BinOp.and IntKind.u8 x (7 : Int))), (.bool true true)])))
       (.leaf (.v (.agg [(.int false .u16 (c)), (.int false .u8 (IntKind.u8.wrap (tima + (1 : Int)))), (.int false .u8 (tma)), (.int false .u8 (bits BinOp.and IntKind.u8 x (7 : Int))), (.bool false (IntKind.u8.wrap (tima + (1 : Int)) == (0 : Int)))]))))
      (.leaf (.v (.agg [(.int false .u16 (c)), (.int false .u8 (tima)), (.int false .u8 (tma)), (.int false .u8 (bits BinOp.and IntKind.u8 x (7 : Int))), (.bool false (ov))])))))
     (.leaf (.v (.agg [(.int false .u16 (c)), (.int false .u8 (tima)), (.int false .u8 (tma)), (.int false .u8 (bits BinOp.and IntKind.u8 x (7 : Int))), (.bool false (ov))])))))
    (.leaf (.v (.agg [(.int false .u16 (c)), (.int false .u8 (tima)), (.int false .u8 (tma)), (.int false .u8 (tac)), (.bool false (ov))]))))))) := by kernel_rfl
theorem read_tree (w : World) (c tima tma tac n : Int) (ov : Bool) :
    callV Try.prog w (fun _ => false) (ctrOf table1) noLoop 20 12 [.v (.agg [.int false .u16 c, .int false .u8 tima, .int false .u8 tma, .int false .u8 tac, .bool false ov]), .v (.one (.int false .i64 n))] =
(.br (n == (0 : Int))
 (.leaf (.v (.one (.int false .u8 (IntKind.u8.wrap (c.fdiv ((2 : Int) ^ (8 : Nat))))))))
 (.br (n == (1 : Int))
  (.leaf (.v (.one (.int false .u8 (tima)))))
  (.br (n == (2 : Int))
   (.leaf (.v (.one (.int false .u8 (tma)))))
   (.br (n == (3 : Int))
    (.leaf (.v (.one (.int false .u8 (bits BinOp.or IntKind.u8 tac (248 : Int))))))
    (.leaf (.v (.one (.int true .u8 (255))))))))) := by kernel_rfl
theorem rtick_tree (w : World) (c tima tma tac : Int) (ov : Bool) :
    callV Try.prog w (fun _ => false) (ctrOf table1) noLoop 20 13 [.v (.agg [.int false .u16 c, .int false .u8 tima, .int false .u8 tma, .int false .u8 tac, .bool false ov])] =
(.br (ov)
 (.chk (Tm.W c ∧ Tm.B tac)
 (.br (Tm.sg c tac)
  (.chk (Tm.W
    (IntKind.u16.wrap ((IntKind.i64.wrap (IntKind.i64.wrap c + (4 : Int))).tmod (65536 : Int))) ∧
  Tm.B tac)
  (.br (!Tm.sg
    (IntKind.u16.wrap ((IntKind.i64.wrap (IntKind.i64.wrap c + (4 : Int))).tmod (65536 : Int))) tac)
   (.br (IntKind.u8.wrap ((IntKind.i64.wrap (IntKind.i64.wrap tma + (1 : Int))).tmod (256 : Int)) == (0 : Int))
    (.leaf (.tuple [(.agg [(.int false .u16 (IntKind.u16.wrap ((IntKind.i64.wrap (IntKind.i64.wrap c + (4 : Int))).tmod (65536 : Int)))), (.int false .u8 (IntKind.u8.wrap ((IntKind.i64.wrap (IntKind.i64.wrap tma + (1 : Int))).tmod (256 : Int)))), (.int false .u8 (tma)), (.int false .u8 (tac)), (.bool true true)]), (.one (.bool false (ov)))]))
    (.leaf (.tuple [(.agg [(.int false .u16 (IntKind.u16.wrap ((IntKind.i64.wrap (IntKind.i64.wrap c + (4 : Int))).tmod (65536 : Int)))), (.int false .u8 (IntKind.u8.wrap ((IntKind.i64.wrap (IntKind.i64.wrap tma + (1 : Int))).tmod (256 : Int)))), (.int false .u8 (tma)), (.int false .u8 (tac)), (.bool true false)]), (.one (.bool false (ov)))])))
   (.leaf (.tuple [(.agg [(.int false .u16 (IntKind.u16.wrap ((IntKind.i64.wrap (IntKind.i64.wrap c + (4 : Int))).tmod (65536 : Int)))), (.int false .u8 (tma)), (.int false .u8 (tma)), (.int false .u8 (tac)), (.bool true false)]), (.one (.bool false (ov)))]))))
  (.leaf (.tuple [(.agg [(.int false .u16 (IntKind.u16.wrap ((IntKind.i64.wrap (IntKind.i64.wrap c + (4 : Int))).tmod (65536 : Int)))), (.int false .u8 (tma)), (.int false .u8 (tma)), (.int false .u8 (tac)), (.bool true false)]), (.one (.bool false (ov)))]))))
 (.chk (Tm.W c ∧ Tm.B tac)
 (.br (Tm.sg c tac)
  (.chk (Tm.W
    (IntKind.u16.wrap ((IntKind.i64.wrap (IntKind.i64.wrap c + (4 : Int))).tmod (65536 : Int))) ∧
  Tm.B tac)
  (.br (!Tm.sg
    (IntKind.u16.wrap ((IntKind.i64.wrap (IntKind.i64.wrap c + (4 : Int))).tmod (65536 : Int))) tac)
   (.br (IntKind.u8.wrap ((IntKind.i64.wrap (IntKind.i64.wrap tima + (1 : Int))).tmod (256 : Int)) == (0 : Int))
    (.leaf (.tuple [(.agg [(.int false .u16 (IntKind.u16.wrap ((IntKind.i64.wrap (IntKind.i64.wrap c + (4 : Int))).tmod (65536 : Int)))), (.int false .u8 (IntKind.u8.wrap ((IntKind.i64.wrap (IntKind.i64.wrap tima + (1 : Int))).tmod (256 : Int)))), (.int false .u8 (tma)), (.int false .u8 (tac)), (.bool true true)]), (.one (.bool false (ov)))]))
    (.leaf (.tuple [(.agg [(.int false .u16 (IntKind.u16.wrap ((IntKind.i64.wrap (IntKind.i64.wrap c + (4 : Int))).tmod (65536 : Int)))), (.int false .u8 (IntKind.u8.wrap ((IntKind.i64.wrap (IntKind.i64.wrap tima + (1 : Int))).tmod (256 : Int)))), (.int false .u8 (tma)), (.int false .u8 (tac)), (.bool false (ov))]), (.one (.bool false (ov)))])))
   (.leaf (.tuple [(.agg [(.int false .u16 (IntKind.u16.wrap ((IntKind.i64.wrap (IntKind.i64.wrap c + (4 : Int))).tmod (65536 : Int)))), (.int false .u8 (tima)), (.int false .u8 (tma)), (.int false .u8 (tac)), (.bool false (ov))]), (.one (.bool false (ov)))]))))
  (.leaf (.tuple [(.agg [(.int false .u16 (IntKind.u16.wrap ((IntKind.i64.wrap (IntKind.i64.wrap c + (4 : Int))).tmod (65536 : Int)))), (.int false .u8 (tima)), (.int false .u8 (tma)), (.int false .u8 (tac)), (.bool false (ov))]), (.one (.bool false (ov)))]))))) := by kernel_rfl
theorem rwrite_tree (w : World) (c tima tma tac n x : Int) (ov : Bool) :
    callV Try.prog w (fun _ => false) (ctrOf table1) noLoop 20 14 [.v (.agg [.int false .u16 c, .int false .u8 tima, .int false .u8 tma, .int false .u8 tac, .bool false ov]), .v (.one (.int false .i64 n)), .v (.one (.int false .u8 x))] =
(.chk (Tm.W c ∧ Tm.B tac)
(.br (n == (0 : Int))
 (.br (Tm.sg c tac)
  (.chk (Tm.W (0 : Int) ∧ Tm.B tac)
  (.br (!Tm.sg (0 : Int) tac)
   (.br (IntKind.u8.wrap ((IntKind.i64.wrap (IntKind.i64.wrap tima + (1 : Int))).tmod (256 : Int)) == (0 : Int))
    (.leaf (.v (.agg [(.int true .u16 (0)), (.int false .u8 (IntKind.u8.wrap ((IntKind.i64.wrap (IntKind.i64.wrap tima + (1 : Int))).tmod (256 : Int)))), (.int false .u8 (tma)), (.int false .u8 (tac)), (.bool true true)])))
    (.leaf (.v (.agg [(.int true .u16 (0)), (.int false .u8 (IntKind.u8.wrap ((IntKind.i64.wrap (IntKind.i64.wrap tima + (1 : Int))).tmod (256 : Int)))), (.int false .u8 (tma)), (.int false .u8 (tac)), (.bool false (ov))]))))
   (.leaf (.v (.agg [(.int true .u16 (0)), (.int false .u8 (tima)), (.int false .u8 (tma)), (.int false .u8 (tac)), (.bool false (ov))])))))
  (.leaf (.v (.agg [(.int true .u16 (0)), (.int false .u8 (tima)), (.int false .u8 (tma)), (.int false .u8 (tac)), (.bool false (ov))]))))
 (.br (n == (1 : Int))
  (.leaf (.v (.agg [(.int false .u16 (c)), (.int false .u8 (x)), (.int false .u8 (tma)), (.int false .u8 (tac)), (.bool true false)])))
  (.br (n == (2 : Int))
   (.leaf (.v (.agg [(.int false .u16 (c)), (.int false .u8 (tima)), (.int false .u8 (x)), (.int false .u8 (tac)), (.bool false (ov))])))
   (.br (n == (3 : Int))
    (.br (Tm.sg c tac)
     (.chk (Tm.W c ∧ Tm.B (x.tmod (8 : Int)))
     (.br (!Tm.sg c (x.tmod (8 : Int)))
      (.br (IntKind.u8.wrap ((IntKind.i64.wrap (IntKind.i64.wrap tima + (1 : Int))).tmod (256 : Int)) == (0 : Int))
       (.leaf (.v (.agg [(.int false .u16 (c)), (.int false .u8 (IntKind.u8.wrap ((IntKind.i64.wrap (IntKind.i64.wrap tima + (1 : Int))).tmod (256 : Int)))), (.int false .u8 (tma)), (.int false .u8 (x.tmod (8 : Int))), (.bool true true)])))
       (.leaf (.v (.agg [(.int false .u16 (c)), (.int false .u8 (IntKind.u8.wrap ((IntKind.i64.wrap (IntKind.i64.wrap tima + (1 : Int))).tmod (256 : Int)))), (.int false .u8 (tma)), (.int false .u8 (x.tmod (8 : Int))), (.bool false (ov))]))))
      (.leaf (.v (.agg [(.int false .u16 (c)), (.int false .u8 (tima)), (.int false .u8 (tma)), (.int false .u8 (x.tmod (8 : Int))), (.bool false (ov))])))))
     (.leaf (.v (.agg [(.int false .u16 (c)), (.int false .u8 (tima)), (.int false .u8 (tma)), (.int false .u8 (x.tmod (8 : Int))), (.bool false (ov))]))))
    (.leaf (.v (.agg [(.int false .u16 (c)), (.int false .u8 (tima)), (.int false .u8 (tma)), (.int false .u8 (tac)), (.bool false (ov))])))))))) := by kernel_rfl
theorem rread_tree (w : World) (c tima tma tac n : Int) (ov : Bool) :
    callV Try.prog w (fun _ => false) (ctrOf table1) noLoop 20 15 [.v (.agg [.int false .u16 c, .int false .u8 tima, .int false .u8 tma, .int false .u8 tac, .bool false ov]), .v (.one (.int false .i64 n))] =
(.br (n == (0 : Int))
 (.leaf (.v (.one (.int false .u8 (IntKind.u8.wrap (IntKind.u16.wrap (c.tdiv (256 : Int))))))))
 (.br (n == (1 : Int))
  (.leaf (.v (.one (.int false .u8 (tima)))))
  (.br (n == (2 : Int))
   (.leaf (.v (.one (.int false .u8 (tma)))))
   (.br (n == (3 : Int))
    (.leaf (.v (.one (.int false .u8 (IntKind.u8.wrap ((248 : Int) + tac.tmod (8 : Int)))))))
    (.leaf (.v (.one (.int true .u8 (255))))))))) := by kernel_rfl
set_option maxHeartbeats 4000000 in
theorem tick_any (w : World) (c tima tma tac : Int) (ov : Bool) (hb : TB c tima tma tac) : Calls Try.prog 10 #[.agg #[.int .u16 c, .int .u8 tima, .int .u8 tma, .int .u8 tac, .bool ov]] w fun e w' => e = .returned (.tuple #[.agg #[.int .u16 (Tm.tkC c), .int .u8 (Tm.tkT c tima tma tac ov), .int .u8 tma, .int .u8 tac, .bool (Tm.tkO c tima tma tac ov)], .bool ov]) ∧ Below w.heap.size w w' := by
  refine val_eq base (table1_ok w) (loops_none _ _) (tick_tree w c tima tma tac ov) rfl ?_
  obtain ⟨bc, bt, bm, ba⟩ := hb
  have bx : Tm.B 0 := ⟨by omega, by omega⟩
  simp (disch := omega) only [T.holds, Int.tdiv_eq_ediv_of_nonneg, Int.tmod_eq_emod_of_nonneg, Tm.wu8, Tm.wu16, Tm.wi64, Tm.t7 bx, Tm.r248 ba, Int.fdiv_eq_ediv_of_nonneg, Int.reducePow, Int.cast_ofNat_Int, Int.emod_emod_of_dvd, beq_iff_eq, decide_eq_true_eq, decide_eq_false_iff_not, beq_eq_false_iff_ne, ne_eq, bne_iff_ne]
  have e1 : Tm.W ((c + 4) % 65536) := ⟨by omega, by omega⟩
  rcases hs : Tm.sg c tac with _ | _ <;> rcases hs2 : Tm.sg ((c + 4) % 65536) tac with _ | _ <;> cases ov
  all_goals
    simp (disch := omega) [AV.γ, V.γ, Sc.γ, AV.own, AV.wf, V.wf, Sc.wf, bc, ba, e1, hs, hs2, Tm.tkC, Tm.tkT, Tm.tkO, Tm.aT, Tm.fT, Tm.fO]
  all_goals (try repeat' (first | assumption | refine And.intro ?_ ?_ | intro _))
  all_goals first | done | assumption | omega | (rw [Bool.eq_iff_iff]; simp; done) | (simp_all; done) | (simp_all; omega)
set_option maxHeartbeats 4000000 in
theorem rtick_any (w : World) (c tima tma tac : Int) (ov : Bool) (hb : TB c tima tma tac) : Calls Try.prog 13 #[.agg #[.int .u16 c, .int .u8 tima, .int .u8 tma, .int .u8 tac, .bool ov]] w fun e w' => e = .returned (.tuple #[.agg #[.int .u16 (Tm.tkC c), .int .u8 (Tm.tkT c tima tma tac ov), .int .u8 tma, .int .u8 tac, .bool (Tm.tkO c tima tma tac ov)], .bool ov]) ∧ Below w.heap.size w w' := by
  refine val_eq base (table1_ok w) (loops_none _ _) (rtick_tree w c tima tma tac ov) rfl ?_
  obtain ⟨bc, bt, bm, ba⟩ := hb
  have bx : Tm.B 0 := ⟨by omega, by omega⟩
  simp (disch := omega) only [T.holds, Int.tdiv_eq_ediv_of_nonneg, Int.tmod_eq_emod_of_nonneg, Tm.wu8, Tm.wu16, Tm.wi64, Tm.t7 bx, Tm.r248 ba, Int.fdiv_eq_ediv_of_nonneg, Int.reducePow, Int.cast_ofNat_Int, Int.emod_emod_of_dvd, beq_iff_eq, decide_eq_true_eq, decide_eq_false_iff_not, beq_eq_false_iff_ne, ne_eq, bne_iff_ne]
  have e1 : Tm.W ((c + 4) % 65536) := ⟨by omega, by omega⟩
  rcases hs : Tm.sg c tac with _ | _ <;> rcases hs2 : Tm.sg ((c + 4) % 65536) tac with _ | _ <;> cases ov
  all_goals
    simp (disch := omega) [AV.γ, V.γ, Sc.γ, AV.own, AV.wf, V.wf, Sc.wf, bc, ba, e1, hs, hs2, Tm.tkC, Tm.tkT, Tm.tkO, Tm.aT, Tm.fT, Tm.fO]
  all_goals (try repeat' (first | assumption | refine And.intro ?_ ?_ | intro _))
  all_goals first | done | assumption | omega | (rw [Bool.eq_iff_iff]; simp; done) | (simp_all; done) | (simp_all; omega)
set_option maxHeartbeats 4000000 in
theorem write_any (w : World) (c tima tma tac n x : Int) (ov : Bool) (hb : TB c tima tma tac) (bx : Tm.B x) : Calls Try.prog 11 #[.agg #[.int .u16 c, .int .u8 tima, .int .u8 tma, .int .u8 tac, .bool ov], .int .i64 n, .int .u8 x] w fun e w' => e = .returned (.agg #[.int .u16 (Tm.wC n c), .int .u8 (Tm.wT n x c tima tac), .int .u8 (Tm.wM n x tma), .int .u8 (Tm.wA n x tac), .bool (Tm.wO n x c tima tac ov)]) ∧ Below w.heap.size w w' := by
  refine val_eq base (table1_ok w) (loops_none _ _) (write_tree w c tima tma tac n x ov) rfl ?_
  obtain ⟨bc, bt, bm, ba⟩ := hb
  simp (disch := omega) only [T.holds, Int.tdiv_eq_ediv_of_nonneg, Int.tmod_eq_emod_of_nonneg, Tm.wu8, Tm.wu16, Tm.wi64, Tm.t7 bx, Tm.r248 ba, Int.fdiv_eq_ediv_of_nonneg, Int.reducePow, Int.cast_ofNat_Int, Int.emod_emod_of_dvd, beq_iff_eq, decide_eq_true_eq, decide_eq_false_iff_not, beq_eq_false_iff_ne, ne_eq, bne_iff_ne]
  have e1 : Tm.B (x % 8) := ⟨by omega, by omega⟩
  have e2 : Tm.W 0 := ⟨by omega, by omega⟩
  by_cases h0 : n = 0
  · subst h0
    rcases hs : Tm.sg c tac with _ | _ <;> rcases hs2 : Tm.sg 0 tac with _ | _ <;> cases ov
    all_goals simp (disch := omega) [AV.γ, V.γ, Sc.γ, AV.own, AV.wf, V.wf, Sc.wf, bc, ba, e1, e2, hs, hs2, Tm.wC, Tm.wM, Tm.wA, Tm.wT, Tm.wO, Tm.fT, Tm.fO]
    all_goals (try repeat' (first | assumption | refine And.intro ?_ ?_ | intro _))
    all_goals first | done | omega | (rw [Bool.eq_iff_iff]; simp; done)
  by_cases h3 : n = 3
  · subst h3
    rcases hs : Tm.sg c tac with _ | _ <;> rcases hs2 : Tm.sg c (x % 8) with _ | _ <;> cases ov
    all_goals simp (disch := omega) [AV.γ, V.γ, Sc.γ, AV.own, AV.wf, V.wf, Sc.wf, bc, ba, e1, e2, hs, hs2, Tm.wC, Tm.wM, Tm.wA, Tm.wT, Tm.wO, Tm.fT, Tm.fO]
    all_goals (try repeat' (first | assumption | refine And.intro ?_ ?_ | intro _))
    all_goals first | done | omega | (rw [Bool.eq_iff_iff]; simp; done)
  by_cases h1 : n = 1
  · subst h1
    simp (disch := omega) [AV.γ, V.γ, Sc.γ, AV.own, AV.wf, V.wf, Sc.wf, bc, ba, e1, e2, Tm.wC, Tm.wM, Tm.wA, Tm.wT, Tm.wO, Tm.fT, Tm.fO]
    all_goals (try repeat' (first | assumption | refine And.intro ?_ ?_ | intro _))
  by_cases h2 : n = 2
  · subst h2
    rcases hs : Tm.sg c tac with _ | _ <;> simp (disch := omega) [AV.γ, V.γ, Sc.γ, AV.own, AV.wf, V.wf, Sc.wf, bc, ba, e1, e2, hs, Tm.wC, Tm.wM, Tm.wA, Tm.wT, Tm.wO, Tm.fT, Tm.fO]
    all_goals (try repeat' (first | assumption | refine And.intro ?_ ?_ | intro _))
  rcases hs : Tm.sg c tac with _ | _
  all_goals
    simp (disch := omega) [AV.γ, V.γ, Sc.γ, AV.own, AV.wf, V.wf, Sc.wf, bc, ba, e1, hs, h0, h1, h2, h3, Tm.wC, Tm.wM, Tm.wA, Tm.wT, Tm.wO, Tm.fT, Tm.fO]
  all_goals (try repeat' (first | assumption | refine And.intro ?_ ?_ | intro _))
  all_goals first | done | assumption | omega | (rw [Bool.eq_iff_iff]; simp; done) | (simp_all; done) | (simp_all; omega)
set_option maxHeartbeats 4000000 in
theorem rwrite_any (w : World) (c tima tma tac n x : Int) (ov : Bool) (hb : TB c tima tma tac) (bx : Tm.B x) : Calls Try.prog 14 #[.agg #[.int .u16 c, .int .u8 tima, .int .u8 tma, .int .u8 tac, .bool ov], .int .i64 n, .int .u8 x] w fun e w' => e = .returned (.agg #[.int .u16 (Tm.wC n c), .int .u8 (Tm.wT n x c tima tac), .int .u8 (Tm.wM n x tma), .int .u8 (Tm.wA n x tac), .bool (Tm.wO n x c tima tac ov)]) ∧ Below w.heap.size w w' := by
  refine val_eq base (table1_ok w) (loops_none _ _) (rwrite_tree w c tima tma tac n x ov) rfl ?_
  obtain ⟨bc, bt, bm, ba⟩ := hb
  simp (disch := omega) only [T.holds, Int.tdiv_eq_ediv_of_nonneg, Int.tmod_eq_emod_of_nonneg, Tm.wu8, Tm.wu16, Tm.wi64, Tm.t7 bx, Tm.r248 ba, Int.fdiv_eq_ediv_of_nonneg, Int.reducePow, Int.cast_ofNat_Int, Int.emod_emod_of_dvd, beq_iff_eq, decide_eq_true_eq, decide_eq_false_iff_not, beq_eq_false_iff_ne, ne_eq, bne_iff_ne]
  have e1 : Tm.B (x % 8) := ⟨by omega, by omega⟩
  have e2 : Tm.W 0 := ⟨by omega, by omega⟩
  by_cases h0 : n = 0
  · subst h0
    rcases hs : Tm.sg c tac with _ | _ <;> rcases hs2 : Tm.sg 0 tac with _ | _ <;> cases ov
    all_goals simp (disch := omega) [AV.γ, V.γ, Sc.γ, AV.own, AV.wf, V.wf, Sc.wf, bc, ba, e1, e2, hs, hs2, Tm.wC, Tm.wM, Tm.wA, Tm.wT, Tm.wO, Tm.fT, Tm.fO]
    all_goals (try repeat' (first | assumption | refine And.intro ?_ ?_ | intro _))
    all_goals first | done | omega | (rw [Bool.eq_iff_iff]; simp; done)
  by_cases h3 : n = 3
  · subst h3
    rcases hs : Tm.sg c tac with _ | _ <;> rcases hs2 : Tm.sg c (x % 8) with _ | _ <;> cases ov
    all_goals simp (disch := omega) [AV.γ, V.γ, Sc.γ, AV.own, AV.wf, V.wf, Sc.wf, bc, ba, e1, e2, hs, hs2, Tm.wC, Tm.wM, Tm.wA, Tm.wT, Tm.wO, Tm.fT, Tm.fO]
    all_goals (try repeat' (first | assumption | refine And.intro ?_ ?_ | intro _))
    all_goals first | done | omega | (rw [Bool.eq_iff_iff]; simp; done)
  by_cases h1 : n = 1
  · subst h1
    simp (disch := omega) [AV.γ, V.γ, Sc.γ, AV.own, AV.wf, V.wf, Sc.wf, bc, ba, e1, e2, Tm.wC, Tm.wM, Tm.wA, Tm.wT, Tm.wO, Tm.fT, Tm.fO]
    all_goals (try repeat' (first | assumption | refine And.intro ?_ ?_ | intro _))
  by_cases h2 : n = 2
  · subst h2
    rcases hs : Tm.sg c tac with _ | _ <;> simp (disch := omega) [AV.γ, V.γ, Sc.γ, AV.own, AV.wf, V.wf, Sc.wf, bc, ba, e1, e2, hs, Tm.wC, Tm.wM, Tm.wA, Tm.wT, Tm.wO, Tm.fT, Tm.fO]
    all_goals (try repeat' (first | assumption | refine And.intro ?_ ?_ | intro _))
  rcases hs : Tm.sg c tac with _ | _
  all_goals
    simp (disch := omega) [AV.γ, V.γ, Sc.γ, AV.own, AV.wf, V.wf, Sc.wf, bc, ba, e1, hs, h0, h1, h2, h3, Tm.wC, Tm.wM, Tm.wA, Tm.wT, Tm.wO, Tm.fT, Tm.fO]
  all_goals (try repeat' (first | assumption | refine And.intro ?_ ?_ | intro _))
  all_goals first | done | assumption | omega | (rw [Bool.eq_iff_iff]; simp; done) | (simp_all; done) | (simp_all; omega)
set_option maxHeartbeats 4000000 in
theorem read_any (w : World) (c tima tma tac n : Int) (ov : Bool) (hb : TB c tima tma tac) : Calls Try.prog 12 #[.agg #[.int .u16 c, .int .u8 tima, .int .u8 tma, .int .u8 tac, .bool ov], .int .i64 n] w fun e w' => e = .returned (.int .u8 (Tm.rd n c tima tma tac)) ∧ Below w.heap.size w w' := by
  refine val_eq base (table1_ok w) (loops_none _ _) (read_tree w c tima tma tac n ov) rfl ?_
  obtain ⟨bc, bt, bm, ba⟩ := hb
  have bx : Tm.B 0 := ⟨by omega, by omega⟩
  simp (disch := omega) only [T.holds, Int.tdiv_eq_ediv_of_nonneg, Int.tmod_eq_emod_of_nonneg, Tm.wu8, Tm.wu16, Tm.wi64, Tm.t7 bx, Tm.r248 ba, Int.fdiv_eq_ediv_of_nonneg, Int.reducePow, Int.cast_ofNat_Int, Int.emod_emod_of_dvd, beq_iff_eq, decide_eq_true_eq, decide_eq_false_iff_not, beq_eq_false_iff_ne, ne_eq, bne_iff_ne]
  by_cases h0 : n = 0 <;> by_cases h1 : n = 1 <;> by_cases h2 : n = 2 <;> by_cases h3 : n = 3
  all_goals have e1 : True := trivial
  all_goals
    simp (disch := omega) [AV.γ, V.γ, Sc.γ, AV.own, AV.wf, V.wf, Sc.wf, bc, ba, e1, h0, h1, h2, h3, Tm.rd]
  all_goals (try repeat' (first | assumption | refine And.intro ?_ ?_ | intro _))
  all_goals first | done | assumption | omega | (rw [Bool.eq_iff_iff]; simp; done) | (simp_all; done) | (simp_all; omega)
set_option maxHeartbeats 4000000 in
theorem rread_any (w : World) (c tima tma tac n : Int) (ov : Bool) (hb : TB c tima tma tac) : Calls Try.prog 15 #[.agg #[.int .u16 c, .int .u8 tima, .int .u8 tma, .int .u8 tac, .bool ov], .int .i64 n] w fun e w' => e = .returned (.int .u8 (Tm.rd n c tima tma tac)) ∧ Below w.heap.size w w' := by
  refine val_eq base (table1_ok w) (loops_none _ _) (rread_tree w c tima tma tac n ov) rfl ?_
  obtain ⟨bc, bt, bm, ba⟩ := hb
  have bx : Tm.B 0 := ⟨by omega, by omega⟩
  simp (disch := omega) only [T.holds, Int.tdiv_eq_ediv_of_nonneg, Int.tmod_eq_emod_of_nonneg, Tm.wu8, Tm.wu16, Tm.wi64, Tm.t7 bx, Tm.r248 ba, Int.fdiv_eq_ediv_of_nonneg, Int.reducePow, Int.cast_ofNat_Int, Int.emod_emod_of_dvd, beq_iff_eq, decide_eq_true_eq, decide_eq_false_iff_not, beq_eq_false_iff_ne, ne_eq, bne_iff_ne]
  by_cases h0 : n = 0 <;> by_cases h1 : n = 1 <;> by_cases h2 : n = 2 <;> by_cases h3 : n = 3
  all_goals have e1 : True := trivial
  all_goals
    simp (disch := omega) [AV.γ, V.γ, Sc.γ, AV.own, AV.wf, V.wf, Sc.wf, bc, ba, e1, h0, h1, h2, h3, Tm.rd]
  all_goals (try repeat' (first | assumption | refine And.intro ?_ ?_ | intro _))
  all_goals first | done | assumption | omega | (rw [Bool.eq_iff_iff]; simp; done) | (simp_all; done) | (simp_all; omega)
theorem awake_any (w : World) : Calls Try.prog 9 #[] w fun e w' => e = .returned (.bool true) ∧ Below w.heap.size w w' :=
  val_eq base (ctrs_none _ _) (loops_none _ _) (awake_tree w) rfl ⟨rfl, rfl⟩
def awakeC : Ctr := ⟨9, fun | [] => some (.leaf (.v (.one (.bool true true)))) | _ => none⟩
theorem awakeC_ok (w0 : World) : awakeC.ok Try.prog w0 := by
  refine ⟨⟨_, Try.func9, rfl⟩, fun args t ht => ?_⟩
  unfold awakeC at ht
  simp only at ht
  split at ht
  · cases ht
    exact ⟨rfl, fun K hK => ⟨_, hK, rfl, fun w _ => awake_any w⟩⟩
  · cases ht
def tickC : Ctr := ⟨10, fun | [.v (.agg [.int _ .u16 c, .int _ .u8 tima, .int _ .u8 tma, .int _ .u8 tac, .bool _ ov])] => some (.chk (TB c tima tma tac) (.leaf (.tuple [.agg [.int false .u16 (Tm.tkC c), .int false .u8 (Tm.tkT c tima tma tac ov), .int false .u8 tma, .int false .u8 tac, .bool false (Tm.tkO c tima tma tac ov)], .one (.bool false ov)]))) | _ => none⟩
theorem tickC_ok (w0 : World) : tickC.ok Try.prog w0 := by
  refine ⟨⟨_, Try.func10, rfl⟩, fun args t ht => ?_⟩
  unfold tickC at ht
  simp only at ht
  split at ht
  · cases ht
    refine ⟨rfl, fun K hK => ⟨_, hK.2, rfl, fun w _ => ?_⟩⟩
    obtain ⟨hr, _⟩ := hK
    exact tick_any w _ _ _ _ _ hr
  · cases ht
def writeC : Ctr := ⟨11, fun | [.v (.agg [.int _ .u16 c, .int _ .u8 tima, .int _ .u8 tma, .int _ .u8 tac, .bool _ ov]), .v (.one (.int _ .i64 n)), .v (.one (.int _ .u8 x))] => some (.chk (TB c tima tma tac ∧ Tm.B x) (.leaf (.v (.agg [.int false .u16 (Tm.wC n c), .int false .u8 (Tm.wT n x c tima tac), .int false .u8 (Tm.wM n x tma), .int false .u8 (Tm.wA n x tac), .bool false (Tm.wO n x c tima tac ov)])))) | _ => none⟩
theorem writeC_ok (w0 : World) : writeC.ok Try.prog w0 := by
  refine ⟨⟨_, Try.func11, rfl⟩, fun args t ht => ?_⟩
  unfold writeC at ht
  simp only at ht
  split at ht
  · cases ht
    refine ⟨rfl, fun K hK => ⟨_, hK.2, rfl, fun w _ => ?_⟩⟩
    obtain ⟨hr, _⟩ := hK
    exact write_any w _ _ _ _ _ _ _ hr.1 hr.2
  · cases ht
def readC : Ctr := ⟨12, fun | [.v (.agg [.int _ .u16 c, .int _ .u8 tima, .int _ .u8 tma, .int _ .u8 tac, .bool _ ov]), .v (.one (.int _ .i64 n))] => some (.chk (TB c tima tma tac) (.leaf (.v (.one (.int false .u8 (Tm.rd n c tima tma tac)))))) | _ => none⟩
theorem readC_ok (w0 : World) : readC.ok Try.prog w0 := by
  refine ⟨⟨_, Try.func12, rfl⟩, fun args t ht => ?_⟩
  unfold readC at ht
  simp only at ht
  split at ht
  · cases ht
    refine ⟨rfl, fun K hK => ⟨_, hK.2, rfl, fun w _ => ?_⟩⟩
    obtain ⟨hr, _⟩ := hK
    exact read_any w _ _ _ _ _ _ hr
  · cases ht
def rtickC : Ctr := ⟨13, fun | [.v (.agg [.int _ .u16 c, .int _ .u8 tima, .int _ .u8 tma, .int _ .u8 tac, .bool _ ov])] => some (.chk (TB c tima tma tac) (.leaf (.tuple [.agg [.int false .u16 (Tm.tkC c), .int false .u8 (Tm.tkT c tima tma tac ov), .int false .u8 tma, .int false .u8 tac, .bool false (Tm.tkO c tima tma tac ov)], .one (.bool false ov)]))) | _ => none⟩
theorem rtickC_ok (w0 : World) : rtickC.ok Try.prog w0 := by
  refine ⟨⟨_, Try.func13, rfl⟩, fun args t ht => ?_⟩
  unfold rtickC at ht
  simp only at ht
  split at ht
  · cases ht
    refine ⟨rfl, fun K hK => ⟨_, hK.2, rfl, fun w _ => ?_⟩⟩
    obtain ⟨hr, _⟩ := hK
    exact rtick_any w _ _ _ _ _ hr
  · cases ht
def rwriteC : Ctr := ⟨14, fun | [.v (.agg [.int _ .u16 c, .int _ .u8 tima, .int _ .u8 tma, .int _ .u8 tac, .bool _ ov]), .v (.one (.int _ .i64 n)), .v (.one (.int _ .u8 x))] => some (.chk (TB c tima tma tac ∧ Tm.B x) (.leaf (.v (.agg [.int false .u16 (Tm.wC n c), .int false .u8 (Tm.wT n x c tima tac), .int false .u8 (Tm.wM n x tma), .int false .u8 (Tm.wA n x tac), .bool false (Tm.wO n x c tima tac ov)])))) | _ => none⟩
theorem rwriteC_ok (w0 : World) : rwriteC.ok Try.prog w0 := by
  refine ⟨⟨_, Try.func14, rfl⟩, fun args t ht => ?_⟩
  unfold rwriteC at ht
  simp only at ht
  split at ht
  · cases ht
    refine ⟨rfl, fun K hK => ⟨_, hK.2, rfl, fun w _ => ?_⟩⟩
    obtain ⟨hr, _⟩ := hK
    exact rwrite_any w _ _ _ _ _ _ _ hr.1 hr.2
  · cases ht
def rreadC : Ctr := ⟨15, fun | [.v (.agg [.int _ .u16 c, .int _ .u8 tima, .int _ .u8 tma, .int _ .u8 tac, .bool _ ov]), .v (.one (.int _ .i64 n))] => some (.chk (TB c tima tma tac) (.leaf (.v (.one (.int false .u8 (Tm.rd n c tima tma tac)))))) | _ => none⟩
theorem rreadC_ok (w0 : World) : rreadC.ok Try.prog w0 := by
  refine ⟨⟨_, Try.func15, rfl⟩, fun args t ht => ?_⟩
  unfold rreadC at ht
  simp only at ht
  split at ht
  · cases ht
    refine ⟨rfl, fun K hK => ⟨_, hK.2, rfl, fun w _ => ?_⟩⟩
    obtain ⟨hr, _⟩ := hK
    exact rread_any w _ _ _ _ _ _ hr
  · cases ht
def table : List Ctr := [sigC, rsigC, tickC, writeC, readC, rtickC, rwriteC, rreadC, awakeC]
theorem table_ok (w0 : World) : Ctrs Try.prog w0 (ctrOf table) := ctrs_of fun c hc => by
  simp only [table, List.mem_cons, List.not_mem_nil, or_false] at hc
  rcases hc with rfl | rfl | rfl | rfl | rfl | rfl | rfl | rfl | rfl
  · exact sigC_ok w0
  · exact rsigC_ok w0
  · exact tickC_ok w0
  · exact writeC_ok w0
  · exact readC_ok w0
  · exact rtickC_ok w0
  · exact rwriteC_ok w0
  · exact rreadC_ok w0
  · exact awakeC_ok w0
end Go.Proofs.Ytobenphpjphdlaa
