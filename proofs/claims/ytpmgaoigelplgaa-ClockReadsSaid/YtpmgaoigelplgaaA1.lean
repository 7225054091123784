/-
  Walks of the clock's small calls and of the document's, by computing: a bit, a second, a part that is read, one that is written. Bytes are below 256, days 0 to 511; no other condition.
-/
import Derived.Test.YtpmgaoigelplgaaSym9
import Derived.Test.YtpmgaoigelplgaaSymE
import Derived.Test.YtpmgaoigelplgaaPlain
namespace Go.Proofs.Ytpmgaoigelplgaa
open Go.RowKit sym
set_option linter.unusedVariables false
set_option linter.unusedSimpArgs false
set_option maxRecDepth 100000
theorem base : Base Try.prog (fun _ => false) := ⟨by kernel_rfl, names_of (by kernel_rfl), fun _ h => by (cases h)⟩
theorem base2 : Base Try.prog (flatT Try.prog) := ⟨base.mixed, base.names, flat_ok _⟩
theorem bit6_tree (w : World) (x : Bool) :
    callV Try.prog w (fun _ => false) noCtr noLoop 20 21 [.v (.one (.int true .i64 6)), .v (.one (.bool false x))] =
(.br (x)
 (.leaf (.v (.one (.int true .u8 (64)))))
 (.leaf (.v (.one (.int true .u8 (0)))))) := by kernel_rfl
theorem bit7_tree (w : World) (x : Bool) :
    callV Try.prog w (fun _ => false) noCtr noLoop 20 21 [.v (.one (.int true .i64 7)), .v (.one (.bool false x))] =
(.br (x)
 (.leaf (.v (.one (.int true .u8 (128)))))
 (.leaf (.v (.one (.int true .u8 (0)))))) := by kernel_rfl
theorem rsec_tree (w : World) (s m h d u : Int) (t c : Bool) (a0 a1 a2 a3 a4 : Int) :
    callV Try.prog w (fun _ => false) noCtr noLoop 20 23 [.v (.agg [.int false .u8 s, .int false .u8 m, .int false .u8 h, .int false .i64 d, .int false .i64 u, .bool false t, .bool false c, .int false .u8 a0, .int false .u8 a1, .int false .u8 a2, .int false .u8 a3, .int false .u8 a4])] =
(.br ((IntKind.u8.wrap (s + (1 : Int))).tmod (64 : Int) != (60 : Int))
 (.leaf (.v (.agg [(.int false .u8 ((IntKind.u8.wrap (s + (1 : Int))).tmod (64 : Int))), (.int false .u8 (m)), (.int false .u8 (h)), (.int false .i64 (d)), (.int false .i64 (u)), (.bool false (t)), (.bool false (c)), (.int false .u8 (a0)), (.int false .u8 (a1)), (.int false .u8 (a2)), (.int false .u8 (a3)), (.int false .u8 (a4))])))
 (.br ((IntKind.u8.wrap (m + (1 : Int))).tmod (64 : Int) != (60 : Int))
  (.leaf (.v (.agg [(.int true .u8 (0)), (.int false .u8 ((IntKind.u8.wrap (m + (1 : Int))).tmod (64 : Int))), (.int false .u8 (h)), (.int false .i64 (d)), (.int false .i64 (u)), (.bool false (t)), (.bool false (c)), (.int false .u8 (a0)), (.int false .u8 (a1)), (.int false .u8 (a2)), (.int false .u8 (a3)), (.int false .u8 (a4))])))
  (.br ((IntKind.u8.wrap (h + (1 : Int))).tmod (32 : Int) != (24 : Int))
   (.leaf (.v (.agg [(.int true .u8 (0)), (.int true .u8 (0)), (.int false .u8 ((IntKind.u8.wrap (h + (1 : Int))).tmod (32 : Int))), (.int false .i64 (d)), (.int false .i64 (u)), (.bool false (t)), (.bool false (c)), (.int false .u8 (a0)), (.int false .u8 (a1)), (.int false .u8 (a2)), (.int false .u8 (a3)), (.int false .u8 (a4))])))
   (.br (IntKind.i64.wrap (d + (1 : Int)) == (512 : Int))
    (.leaf (.v (.agg [(.int true .u8 (0)), (.int true .u8 (0)), (.int true .u8 (0)), (.int true .i64 (0)), (.int false .i64 (u)), (.bool false (t)), (.bool true true), (.int false .u8 (a0)), (.int false .u8 (a1)), (.int false .u8 (a2)), (.int false .u8 (a3)), (.int false .u8 (a4))])))
    (.leaf (.v (.agg [(.int true .u8 (0)), (.int true .u8 (0)), (.int true .u8 (0)), (.int false .i64 (IntKind.i64.wrap (d + (1 : Int)))), (.int false .i64 (u)), (.bool false (t)), (.bool false (c)), (.int false .u8 (a0)), (.int false .u8 (a1)), (.int false .u8 (a2)), (.int false .u8 (a3)), (.int false .u8 (a4))]))))))) := by kernel_rfl
theorem read_tree (w : World) (s m h d u : Int) (t c : Bool) (a0 a1 a2 a3 a4 : Int) (p : Int) :
    callV Try.prog w (fun _ => false) noCtr noLoop 20 13 [.v (.agg [.int false .u8 s, .int false .u8 m, .int false .u8 h, .int false .i64 d, .int false .i64 u, .bool false t, .bool false c, .int false .u8 a0, .int false .u8 a1, .int false .u8 a2, .int false .u8 a3, .int false .u8 a4]), .v (.one (.int false .i64 p))] =
(.br (decide (p < (0 : Int)))
 (.leaf (.v (.one (.int true .u8 (0)))))
 (.br (decide (p ≥ (5 : Int)))
  (.leaf (.v (.one (.int true .u8 (0)))))
  (.chk ((0 : Int) ≤ p ∧ p < ↑(5 : Nat))
  (.br (p == ↑(0 : Nat))
   (.leaf (.v (.one (.int false .u8 (a0)))))
   (.br (p == ↑(1 : Nat))
    (.leaf (.v (.one (.int false .u8 (a1)))))
    (.br (p == ↑(2 : Nat))
     (.leaf (.v (.one (.int false .u8 (a2)))))
     (.br (p == ↑(3 : Nat))
      (.leaf (.v (.one (.int false .u8 (a3)))))
      (.leaf (.v (.one (.int false .u8 (a4)))))))))))) := by kernel_rfl
theorem rread_tree (w : World) (s m h d u : Int) (t c : Bool) (a0 a1 a2 a3 a4 : Int) (p : Int) :
    callV Try.prog w (fun _ => false) noCtr noLoop 20 14 [.v (.agg [.int false .u8 s, .int false .u8 m, .int false .u8 h, .int false .i64 d, .int false .i64 u, .bool false t, .bool false c, .int false .u8 a0, .int false .u8 a1, .int false .u8 a2, .int false .u8 a3, .int false .u8 a4]), .v (.one (.int false .i64 p))] =
(.br (decide (p < (0 : Int)))
 (.leaf (.v (.one (.int true .u8 (0)))))
 (.br (decide (p > (4 : Int)))
  (.leaf (.v (.one (.int true .u8 (0)))))
  (.chk ((0 : Int) ≤ p ∧ p < ↑(5 : Nat))
  (.br (p == ↑(0 : Nat))
   (.leaf (.v (.one (.int false .u8 (a0)))))
   (.br (p == ↑(1 : Nat))
    (.leaf (.v (.one (.int false .u8 (a1)))))
    (.br (p == ↑(2 : Nat))
     (.leaf (.v (.one (.int false .u8 (a2)))))
     (.br (p == ↑(3 : Nat))
      (.leaf (.v (.one (.int false .u8 (a3)))))
      (.leaf (.v (.one (.int false .u8 (a4)))))))))))) := by kernel_rfl
theorem write_tree (w : World) (s m h d u : Int) (t c : Bool) (a0 a1 a2 a3 a4 : Int) (p x : Int) :
    callV Try.prog w (fun _ => false) noCtr noLoop 20 15 [.v (.agg [.int false .u8 s, .int false .u8 m, .int false .u8 h, .int false .i64 d, .int false .i64 u, .bool false t, .bool false c, .int false .u8 a0, .int false .u8 a1, .int false .u8 a2, .int false .u8 a3, .int false .u8 a4]), .v (.one (.int false .i64 p)), .v (.one (.int false .u8 x))] =
(.br (p == (0 : Int))
 (.leaf (.v (.agg [(.int false .u8 (bits BinOp.and IntKind.u8 x (63 : Int))), (.int false .u8 (m)), (.int false .u8 (h)), (.int false .i64 (d)), (.int true .i64 (0)), (.bool false (t)), (.bool false (c)), (.int false .u8 (a0)), (.int false .u8 (a1)), (.int false .u8 (a2)), (.int false .u8 (a3)), (.int false .u8 (a4))])))
 (.br (p == (1 : Int))
  (.leaf (.v (.agg [(.int false .u8 (s)), (.int false .u8 (bits BinOp.and IntKind.u8 x (63 : Int))), (.int false .u8 (h)), (.int false .i64 (d)), (.int false .i64 (u)), (.bool false (t)), (.bool false (c)), (.int false .u8 (a0)), (.int false .u8 (a1)), (.int false .u8 (a2)), (.int false .u8 (a3)), (.int false .u8 (a4))])))
  (.br (p == (2 : Int))
   (.leaf (.v (.agg [(.int false .u8 (s)), (.int false .u8 (m)), (.int false .u8 (bits BinOp.and IntKind.u8 x (31 : Int))), (.int false .i64 (d)), (.int false .i64 (u)), (.bool false (t)), (.bool false (c)), (.int false .u8 (a0)), (.int false .u8 (a1)), (.int false .u8 (a2)), (.int false .u8 (a3)), (.int false .u8 (a4))])))
   (.br (p == (3 : Int))
    (.leaf (.v (.agg [(.int false .u8 (s)), (.int false .u8 (m)), (.int false .u8 (h)), (.int false .i64 (bits BinOp.or IntKind.i64 (bits BinOp.andNot IntKind.i64 d (255 : Int)) (IntKind.i64.wrap x))), (.int false .i64 (u)), (.bool false (t)), (.bool false (c)), (.int false .u8 (a0)), (.int false .u8 (a1)), (.int false .u8 (a2)), (.int false .u8 (a3)), (.int false .u8 (a4))])))
    (.br (p == (4 : Int))
     (.leaf (.v (.agg [(.int false .u8 (s)), (.int false .u8 (m)), (.int false .u8 (h)), (.int false .i64 (bits BinOp.or IntKind.i64 (bits BinOp.and IntKind.i64 d (255 : Int))
  (IntKind.i64.wrap (IntKind.i64.wrap (bits BinOp.and IntKind.u8 x (1 : Int)) * (2 : Int) ^ (8 : Nat))))), (.int false .i64 (u)), (.bool false (bits BinOp.and IntKind.u8 x (64 : Int) != (0 : Int))), (.bool false (bits BinOp.and IntKind.u8 x (128 : Int) != (0 : Int))), (.int false .u8 (a0)), (.int false .u8 (a1)), (.int false .u8 (a2)), (.int false .u8 (a3)), (.int false .u8 (a4))])))
     (.leaf (.v (.agg [(.int false .u8 (s)), (.int false .u8 (m)), (.int false .u8 (h)), (.int false .i64 (d)), (.int false .i64 (u)), (.bool false (t)), (.bool false (c)), (.int false .u8 (a0)), (.int false .u8 (a1)), (.int false .u8 (a2)), (.int false .u8 (a3)), (.int false .u8 (a4))])))))))) := by kernel_rfl
theorem rwrite_tree (w : World) (s m h d u : Int) (t c : Bool) (a0 a1 a2 a3 a4 : Int) (p x : Int) :
    callV Try.prog w (fun _ => false) noCtr noLoop 20 19 [.v (.agg [.int false .u8 s, .int false .u8 m, .int false .u8 h, .int false .i64 d, .int false .i64 u, .bool false t, .bool false c, .int false .u8 a0, .int false .u8 a1, .int false .u8 a2, .int false .u8 a3, .int false .u8 a4]), .v (.one (.int false .i64 p)), .v (.one (.int false .u8 x))] =
(.br (p == (0 : Int))
 (.leaf (.v (.agg [(.int false .u8 (x.tmod (64 : Int))), (.int false .u8 (m)), (.int false .u8 (h)), (.int false .i64 (d)), (.int true .i64 (0)), (.bool false (t)), (.bool false (c)), (.int false .u8 (a0)), (.int false .u8 (a1)), (.int false .u8 (a2)), (.int false .u8 (a3)), (.int false .u8 (a4))])))
 (.br (p == (1 : Int))
  (.leaf (.v (.agg [(.int false .u8 (s)), (.int false .u8 (x.tmod (64 : Int))), (.int false .u8 (h)), (.int false .i64 (d)), (.int false .i64 (u)), (.bool false (t)), (.bool false (c)), (.int false .u8 (a0)), (.int false .u8 (a1)), (.int false .u8 (a2)), (.int false .u8 (a3)), (.int false .u8 (a4))])))
  (.br (p == (2 : Int))
   (.leaf (.v (.agg [(.int false .u8 (s)), (.int false .u8 (m)), (.int false .u8 (x.tmod (32 : Int))), (.int false .i64 (d)), (.int false .i64 (u)), (.bool false (t)), (.bool false (c)), (.int false .u8 (a0)), (.int false .u8 (a1)), (.int false .u8 (a2)), (.int false .u8 (a3)), (.int false .u8 (a4))])))
   (.br (p == (3 : Int))
    (.leaf (.v (.agg [(.int false .u8 (s)), (.int false .u8 (m)), (.int false .u8 (h)), (.int false .i64 (IntKind.i64.wrap
  (IntKind.i64.wrap (IntKind.i64.wrap (d.tdiv (256 : Int)) * (256 : Int)) + IntKind.i64.wrap x))), (.int false .i64 (u)), (.bool false (t)), (.bool false (c)), (.int false .u8 (a0)), (.int false .u8 (a1)), (.int false .u8 (a2)), (.int false .u8 (a3)), (.int false .u8 (a4))])))
    (.br (p == (4 : Int))
     (.leaf (.v (.agg [(.int false .u8 (s)), (.int false .u8 (m)), (.int false .u8 (h)), (.int false .i64 (IntKind.i64.wrap (IntKind.i64.wrap ((IntKind.i64.wrap x).tmod (2 : Int) * (256 : Int)) + d.tmod (256 : Int)))), (.int false .i64 (u)), (.bool false ((IntKind.u8.wrap (x.tdiv (64 : Int))).tmod (2 : Int) == (1 : Int))), (.bool false (IntKind.u8.wrap (x.tdiv (128 : Int)) == (1 : Int))), (.int false .u8 (a0)), (.int false .u8 (a1)), (.int false .u8 (a2)), (.int false .u8 (a3)), (.int false .u8 (a4))])))
     (.leaf (.v (.agg [(.int false .u8 (s)), (.int false .u8 (m)), (.int false .u8 (h)), (.int false .i64 (d)), (.int false .i64 (u)), (.bool false (t)), (.bool false (c)), (.int false .u8 (a0)), (.int false .u8 (a1)), (.int false .u8 (a2)), (.int false .u8 (a3)), (.int false .u8 (a4))])))))))) := by kernel_rfl
theorem bit6_any (w : World) (x : Bool)  : Calls Try.prog 21 #[.int .i64 6, .bool x] w fun e w' => e = .returned (.int .u8 (Ck.bt 6 x)) ∧ Below w.heap.size w w' := by
  refine val_eq base (ctrs_none _ _) (loops_none _ _) (bit6_tree w x) rfl ?_
  simp only [T.holds]
  cases x
  · simp [Ck.bt, AV.own, AV.wf, V.wf, Sc.wf, AV.γ, V.γ, Sc.γ]
  · simp [Ck.bt, AV.own, AV.wf, V.wf, Sc.wf, AV.γ, V.γ, Sc.γ]
theorem bit7_any (w : World) (x : Bool)  : Calls Try.prog 21 #[.int .i64 7, .bool x] w fun e w' => e = .returned (.int .u8 (Ck.bt 7 x)) ∧ Below w.heap.size w w' := by
  refine val_eq base (ctrs_none _ _) (loops_none _ _) (bit7_tree w x) rfl ?_
  simp only [T.holds]
  cases x
  · simp [Ck.bt, AV.own, AV.wf, V.wf, Sc.wf, AV.γ, V.γ, Sc.γ]
  · simp [Ck.bt, AV.own, AV.wf, V.wf, Sc.wf, AV.γ, V.γ, Sc.γ]
theorem rsec_any (w : World) (s m h d u : Int) (t c : Bool) (a0 a1 a2 a3 a4 : Int) (bs : Ck.B s) (bm : Ck.B m) (bh : Ck.B h) (bd : 0 ≤ d ∧ d < 512) : Calls Try.prog 23 #[.agg #[.int .u8 s, .int .u8 m, .int .u8 h, .int .i64 d, .int .i64 u, .bool t, .bool c, .int .u8 a0, .int .u8 a1, .int .u8 a2, .int .u8 a3, .int .u8 a4]] w fun e w' => e = .returned (.agg #[.int .u8 (Ck.next ⟨s, m, h, d, c⟩).s, .int .u8 (Ck.next ⟨s, m, h, d, c⟩).m, .int .u8 (Ck.next ⟨s, m, h, d, c⟩).h, .int .i64 (Ck.next ⟨s, m, h, d, c⟩).d, .int .i64 u, .bool t, .bool (Ck.next ⟨s, m, h, d, c⟩).cy, .int .u8 a0, .int .u8 a1, .int .u8 a2, .int .u8 a3, .int .u8 a4]) ∧ Below w.heap.size w w' := by
  refine val_eq base (ctrs_none _ _) (loops_none _ _) (rsec_tree w s m h d u t c a0 a1 a2 a3 a4) rfl ?_
  obtain ⟨s1, s2⟩ := bs
  obtain ⟨m1, m2⟩ := bm
  obtain ⟨h1, h2⟩ := bh
  obtain ⟨d1, d2⟩ := bd
  simp (disch := omega) only [T.holds, Int.tdiv_eq_ediv_of_nonneg, Int.tmod_eq_emod_of_nonneg, Ck.wu8, Ck.wi64, Int.fdiv_eq_ediv_of_nonneg, Int.reducePow, Int.cast_ofNat_Int, Bool.true_and, beq_iff_eq, decide_eq_true_eq, decide_eq_false_iff_not, beq_eq_false_iff_ne, ne_eq, bne_iff_ne, bne_eq_false_iff_eq, and_self, true_and, and_true]
  unfold Ck.next
  simp only
  have es : (s + 1) % 256 % 64 = (s + 1) % 64 := by omega
  have em : (m + 1) % 256 % 64 = (m + 1) % 64 := by omega
  have eh : (h + 1) % 256 % 32 = (h + 1) % 32 := by omega
  simp only [es, em, eh]
  refine ⟨fun h => ?_, fun h => ⟨fun g => ?_, fun g => ⟨fun k => ?_, fun k => ⟨fun l => ?_, fun l => ?_⟩⟩⟩⟩
  all_goals simp (disch := omega) [AV.γ, V.γ, Sc.γ, AV.own, AV.wf, V.wf, Sc.wf, *]
theorem read_any (w : World) (s m h d u : Int) (t c : Bool) (a0 a1 a2 a3 a4 : Int) (p : Int)  : Calls Try.prog 13 #[.agg #[.int .u8 s, .int .u8 m, .int .u8 h, .int .i64 d, .int .i64 u, .bool t, .bool c, .int .u8 a0, .int .u8 a1, .int .u8 a2, .int .u8 a3, .int .u8 a4], .int .i64 p] w fun e w' => e = .returned (.int .u8 (Ck.rd p a0 a1 a2 a3 a4)) ∧ Below w.heap.size w w' := by
  refine val_eq base (ctrs_none _ _) (loops_none _ _) (read_tree w s m h d u t c a0 a1 a2 a3 a4 p) rfl ?_
  have hp : (p < 0 ∨ 5 ≤ p) ∨ p = 0 ∨ p = 1 ∨ p = 2 ∨ p = 3 ∨ p = 4 := by omega
  rcases hp with hp | rfl | rfl | rfl | rfl | rfl
  · have e : Ck.rd p a0 a1 a2 a3 a4 = 0 := by unfold Ck.rd; repeat' split
                                              all_goals first | rfl | omega
    rw [e]
    simp only [T.holds, beq_iff_eq, decide_eq_true_eq, decide_eq_false_iff_not, beq_eq_false_iff_ne, ne_eq, ge_iff_le, gt_iff_lt, Int.not_lt, Int.not_le]
    exact ⟨fun _ => ⟨rfl, rfl⟩, fun h => ⟨fun _ => ⟨rfl, rfl⟩, fun h => by omega⟩⟩
  all_goals simp [T.holds, Ck.rd, AV.own, AV.wf, V.wf, Sc.wf, AV.γ, V.γ, Sc.γ]
theorem rread_any (w : World) (s m h d u : Int) (t c : Bool) (a0 a1 a2 a3 a4 : Int) (p : Int)  : Calls Try.prog 14 #[.agg #[.int .u8 s, .int .u8 m, .int .u8 h, .int .i64 d, .int .i64 u, .bool t, .bool c, .int .u8 a0, .int .u8 a1, .int .u8 a2, .int .u8 a3, .int .u8 a4], .int .i64 p] w fun e w' => e = .returned (.int .u8 (Ck.rd p a0 a1 a2 a3 a4)) ∧ Below w.heap.size w w' := by
  refine val_eq base (ctrs_none _ _) (loops_none _ _) (rread_tree w s m h d u t c a0 a1 a2 a3 a4 p) rfl ?_
  have hp : (p < 0 ∨ 5 ≤ p) ∨ p = 0 ∨ p = 1 ∨ p = 2 ∨ p = 3 ∨ p = 4 := by omega
  rcases hp with hp | rfl | rfl | rfl | rfl | rfl
  · have e : Ck.rd p a0 a1 a2 a3 a4 = 0 := by unfold Ck.rd; repeat' split
                                              all_goals first | rfl | omega
    rw [e]
    simp only [T.holds, beq_iff_eq, decide_eq_true_eq, decide_eq_false_iff_not, beq_eq_false_iff_ne, ne_eq, ge_iff_le, gt_iff_lt, Int.not_lt, Int.not_le]
    exact ⟨fun _ => ⟨rfl, rfl⟩, fun h => ⟨fun _ => ⟨rfl, rfl⟩, fun h => by omega⟩⟩
  all_goals simp [T.holds, Ck.rd, AV.own, AV.wf, V.wf, Sc.wf, AV.γ, V.γ, Sc.γ]
theorem write_any (w : World) (s m h d u : Int) (t c : Bool) (a0 a1 a2 a3 a4 : Int) (p x : Int) (bs : Ck.B s) (bm : Ck.B m) (bh : Ck.B h) (bd : 0 ≤ d ∧ d < 512) (bx : Ck.B x) : Calls Try.prog 15 #[.agg #[.int .u8 s, .int .u8 m, .int .u8 h, .int .i64 d, .int .i64 u, .bool t, .bool c, .int .u8 a0, .int .u8 a1, .int .u8 a2, .int .u8 a3, .int .u8 a4], .int .i64 p, .int .u8 x] w fun e w' => e = .returned (.agg #[.int .u8 (Ck.wS p x s), .int .u8 (Ck.wM p x m), .int .u8 (Ck.wH p x h), .int .i64 (Ck.wD p x d), .int .i64 (Ck.wU p u), .bool (Ck.wT p x t), .bool (Ck.wC p x c), .int .u8 a0, .int .u8 a1, .int .u8 a2, .int .u8 a3, .int .u8 a4]) ∧ Below w.heap.size w w' := by
  refine val_eq base (ctrs_none _ _) (loops_none _ _) (write_tree w s m h d u t c a0 a1 a2 a3 a4 p x) rfl ?_
  obtain ⟨d1, d2⟩ := bd
  obtain ⟨x1, x2⟩ := bx
  have e63 := Ck.m63 ⟨x1, x2⟩
  have e31 := Ck.m31 ⟨x1, x2⟩
  have e1 := Ck.m1 ⟨x1, x2⟩
  have e64 := Ck.m64 ⟨x1, x2⟩
  have e128 := Ck.m128 ⟨x1, x2⟩
  have e64c : (bits .and .u8 x 64 = 0) = ¬ (x / 64 % 2 = 1) := by have := e64; rw [Bool.eq_iff_iff] at this; simp only [bne_iff_ne, ne_eq, decide_eq_true_eq] at this; apply propext; omega
  have e128c : (bits .and .u8 x 128 = 0) = ¬ (x / 128 = 1) := by have := e128; rw [Bool.eq_iff_iff] at this; simp only [bne_iff_ne, ne_eq, decide_eq_true_eq] at this; apply propext; omega
  have edn := Ck.dnot ⟨d1, d2⟩
  have eda := Ck.dand ⟨d1, d2⟩
  have e64' : (x.tdiv 64).tmod 2 = x / 64 % 2 := by rw [Int.tdiv_eq_ediv_of_nonneg x1, Int.tmod_eq_emod_of_nonneg (by omega)]
  have e128' : x.tdiv 128 = x / 128 := by rw [Int.tdiv_eq_ediv_of_nonneg x1]
  have ex : IntKind.i64.wrap x = x := Ck.wi64 _ (by omega) (by omega)
  have ex2 : IntKind.i64.wrap (x % 2) = x % 2 := Ck.wi64 _ (by omega) (by omega)
  have ex3 : IntKind.i64.wrap (x % 2 * 256) = x % 2 * 256 := Ck.wi64 _ (by omega) (by omega)
  have eo1 := Ck.or1 (k := d / 256) (x := x) (by omega) ⟨x1, x2⟩
  have eo2 := Ck.or2 (k := x % 2) (x := d % 256) (by omega) ⟨by omega, by omega⟩
  have ed1 : IntKind.i64.wrap (d / 256) = d / 256 := Ck.wi64 _ (by omega) (by omega)
  have ed2 : IntKind.i64.wrap (d / 256 * 256) = d / 256 * 256 := Ck.wi64 _ (by omega) (by omega)
  have ed3 : IntKind.i64.wrap (d / 256 * 256 + x) = d / 256 * 256 + x := Ck.wi64 _ (by omega) (by omega)
  have ed4 : IntKind.i64.wrap (x % 2 * 256 + d % 256) = x % 2 * 256 + d % 256 := Ck.wi64 _ (by omega) (by omega)
  have ed5 : d.tdiv 256 = d / 256 := Int.tdiv_eq_ediv_of_nonneg d1
  have ed6 : d.tmod 256 = d % 256 := Int.tmod_eq_emod_of_nonneg d1
  have ex4 : x.tmod 2 = x % 2 := Int.tmod_eq_emod_of_nonneg x1
  have ex5 : x.tmod 64 = x % 64 := Int.tmod_eq_emod_of_nonneg x1
  have eu1 : IntKind.u8.wrap (x.tdiv 64) = x / 64 := by rw [Int.tdiv_eq_ediv_of_nonneg x1, Ck.wu8]; omega
  have eu2 : IntKind.u8.wrap (x / 128) = x / 128 := by rw [Ck.wu8]; omega
  have eu3 : (x / 64).tmod 2 = x / 64 % 2 := Int.tmod_eq_emod_of_nonneg (by omega)
  have ex6 : x.tmod 32 = x % 32 := Int.tmod_eq_emod_of_nonneg x1
  by_cases p0 : p = 0
  · subst p0; simp [T.holds, Ck.wS, Ck.wU, Ck.wM, Ck.wH, Ck.wD, Ck.wT, Ck.wC, AV.own, AV.wf, V.wf, Sc.wf, AV.γ, V.γ, Sc.γ, e63, ex5]
  by_cases p1 : p = 1
  · subst p1; simp [T.holds, Ck.wS, Ck.wU, Ck.wM, Ck.wH, Ck.wD, Ck.wT, Ck.wC, AV.own, AV.wf, V.wf, Sc.wf, AV.γ, V.γ, Sc.γ, e63, ex5]
  by_cases p2 : p = 2
  · subst p2; simp [T.holds, Ck.wS, Ck.wU, Ck.wM, Ck.wH, Ck.wD, Ck.wT, Ck.wC, AV.own, AV.wf, V.wf, Sc.wf, AV.γ, V.γ, Sc.γ, e31, ex6]
  by_cases p3 : p = 3
  · subst p3; simp [T.holds, Ck.wS, Ck.wU, Ck.wM, Ck.wH, Ck.wD, Ck.wT, Ck.wC, AV.own, AV.wf, V.wf, Sc.wf, AV.γ, V.γ, Sc.γ, edn, ed5, ed1, ed2, ex, ed3, eo1]
  by_cases p4 : p = 4
  · subst p4; simp [T.holds, Ck.wS, Ck.wU, Ck.wM, Ck.wH, Ck.wD, Ck.wT, Ck.wC, AV.own, AV.wf, V.wf, Sc.wf, AV.γ, V.γ, Sc.γ, eda, e1, ex2, ex3, eo2, ed6, ex, ex4, ed4, e64, e128, eu1, eu2, eu3, e128', e64c, e128c, ex3, Int.reducePow]
  simp [T.holds, Ck.wS, Ck.wU, Ck.wM, Ck.wH, Ck.wD, Ck.wT, Ck.wC, AV.own, AV.wf, V.wf, Sc.wf, AV.γ, V.γ, Sc.γ, p0, p1, p2, p3, p4]
theorem rwrite_any (w : World) (s m h d u : Int) (t c : Bool) (a0 a1 a2 a3 a4 : Int) (p x : Int) (bs : Ck.B s) (bm : Ck.B m) (bh : Ck.B h) (bd : 0 ≤ d ∧ d < 512) (bx : Ck.B x) : Calls Try.prog 19 #[.agg #[.int .u8 s, .int .u8 m, .int .u8 h, .int .i64 d, .int .i64 u, .bool t, .bool c, .int .u8 a0, .int .u8 a1, .int .u8 a2, .int .u8 a3, .int .u8 a4], .int .i64 p, .int .u8 x] w fun e w' => e = .returned (.agg #[.int .u8 (Ck.wS p x s), .int .u8 (Ck.wM p x m), .int .u8 (Ck.wH p x h), .int .i64 (Ck.wD p x d), .int .i64 (Ck.wU p u), .bool (Ck.wT p x t), .bool (Ck.wC p x c), .int .u8 a0, .int .u8 a1, .int .u8 a2, .int .u8 a3, .int .u8 a4]) ∧ Below w.heap.size w w' := by
  refine val_eq base (ctrs_none _ _) (loops_none _ _) (rwrite_tree w s m h d u t c a0 a1 a2 a3 a4 p x) rfl ?_
  obtain ⟨d1, d2⟩ := bd
  obtain ⟨x1, x2⟩ := bx
  have e63 := Ck.m63 ⟨x1, x2⟩
  have e31 := Ck.m31 ⟨x1, x2⟩
  have e1 := Ck.m1 ⟨x1, x2⟩
  have e64 := Ck.m64 ⟨x1, x2⟩
  have e128 := Ck.m128 ⟨x1, x2⟩
  have e64c : (bits .and .u8 x 64 = 0) = ¬ (x / 64 % 2 = 1) := by have := e64; rw [Bool.eq_iff_iff] at this; simp only [bne_iff_ne, ne_eq, decide_eq_true_eq] at this; apply propext; omega
  have e128c : (bits .and .u8 x 128 = 0) = ¬ (x / 128 = 1) := by have := e128; rw [Bool.eq_iff_iff] at this; simp only [bne_iff_ne, ne_eq, decide_eq_true_eq] at this; apply propext; omega
  have edn := Ck.dnot ⟨d1, d2⟩
  have eda := Ck.dand ⟨d1, d2⟩
  have e64' : (x.tdiv 64).tmod 2 = x / 64 % 2 := by rw [Int.tdiv_eq_ediv_of_nonneg x1, Int.tmod_eq_emod_of_nonneg (by omega)]
  have e128' : x.tdiv 128 = x / 128 := by rw [Int.tdiv_eq_ediv_of_nonneg x1]
  have ex : IntKind.i64.wrap x = x := Ck.wi64 _ (by omega) (by omega)
  have ex2 : IntKind.i64.wrap (x % 2) = x % 2 := Ck.wi64 _ (by omega) (by omega)
  have ex3 : IntKind.i64.wrap (x % 2 * 256) = x % 2 * 256 := Ck.wi64 _ (by omega) (by omega)
  have eo1 := Ck.or1 (k := d / 256) (x := x) (by omega) ⟨x1, x2⟩
  have eo2 := Ck.or2 (k := x % 2) (x := d % 256) (by omega) ⟨by omega, by omega⟩
  have ed1 : IntKind.i64.wrap (d / 256) = d / 256 := Ck.wi64 _ (by omega) (by omega)
  have ed2 : IntKind.i64.wrap (d / 256 * 256) = d / 256 * 256 := Ck.wi64 _ (by omega) (by omega)
  have ed3 : IntKind.i64.wrap (d / 256 * 256 + x) = d / 256 * 256 + x := Ck.wi64 _ (by omega) (by omega)
  have ed4 : IntKind.i64.wrap (x % 2 * 256 + d % 256) = x % 2 * 256 + d % 256 := Ck.wi64 _ (by omega) (by omega)
  have ed5 : d.tdiv 256 = d / 256 := Int.tdiv_eq_ediv_of_nonneg d1
  have ed6 : d.tmod 256 = d % 256 := Int.tmod_eq_emod_of_nonneg d1
  have ex4 : x.tmod 2 = x % 2 := Int.tmod_eq_emod_of_nonneg x1
  have ex5 : x.tmod 64 = x % 64 := Int.tmod_eq_emod_of_nonneg x1
  have eu1 : IntKind.u8.wrap (x.tdiv 64) = x / 64 := by rw [Int.tdiv_eq_ediv_of_nonneg x1, Ck.wu8]; omega
  have eu2 : IntKind.u8.wrap (x / 128) = x / 128 := by rw [Ck.wu8]; omega
  have eu3 : (x / 64).tmod 2 = x / 64 % 2 := Int.tmod_eq_emod_of_nonneg (by omega)
  have ex6 : x.tmod 32 = x % 32 := Int.tmod_eq_emod_of_nonneg x1
  by_cases p0 : p = 0
  · subst p0; simp [T.holds, Ck.wS, Ck.wU, Ck.wM, Ck.wH, Ck.wD, Ck.wT, Ck.wC, AV.own, AV.wf, V.wf, Sc.wf, AV.γ, V.γ, Sc.γ, e63, ex5]
  by_cases p1 : p = 1
  · subst p1; simp [T.holds, Ck.wS, Ck.wU, Ck.wM, Ck.wH, Ck.wD, Ck.wT, Ck.wC, AV.own, AV.wf, V.wf, Sc.wf, AV.γ, V.γ, Sc.γ, e63, ex5]
  by_cases p2 : p = 2
  · subst p2; simp [T.holds, Ck.wS, Ck.wU, Ck.wM, Ck.wH, Ck.wD, Ck.wT, Ck.wC, AV.own, AV.wf, V.wf, Sc.wf, AV.γ, V.γ, Sc.γ, e31, ex6]
  by_cases p3 : p = 3
  · subst p3; simp [T.holds, Ck.wS, Ck.wU, Ck.wM, Ck.wH, Ck.wD, Ck.wT, Ck.wC, AV.own, AV.wf, V.wf, Sc.wf, AV.γ, V.γ, Sc.γ, edn, ed5, ed1, ed2, ex, ed3, eo1]
  by_cases p4 : p = 4
  · subst p4; simp [T.holds, Ck.wS, Ck.wU, Ck.wM, Ck.wH, Ck.wD, Ck.wT, Ck.wC, AV.own, AV.wf, V.wf, Sc.wf, AV.γ, V.γ, Sc.γ, eda, e1, ex2, ex3, eo2, ed6, ex, ex4, ed4, e64, e128, eu1, eu2, eu3, e128', e64c, e128c, ex3, Int.reducePow]; exact ⟨rfl, rfl⟩
  simp [T.holds, Ck.wS, Ck.wU, Ck.wM, Ck.wH, Ck.wD, Ck.wT, Ck.wC, AV.own, AV.wf, V.wf, Sc.wf, AV.γ, V.γ, Sc.γ, p0, p1, p2, p3, p4]
theorem bit_any (w : World) (n : Int) (x : Bool) (hn : n = 6 ∨ n = 7) : Calls Try.prog 21 #[.int .i64 n, .bool x] w fun e w' => e = .returned (.int .u8 (Ck.bt n x)) ∧ Below w.heap.size w w' := by
  rcases hn with rfl | rfl
  · exact bit6_any w x
  · exact bit7_any w x
def bitC : Ctr := ⟨21, fun | [.v (.one (.int _ .i64 n)), .v (.one (.bool _ x))] => some (.chk (n = 6 ∨ n = 7) (.leaf (.v (.one (.int false .u8 (Ck.bt n x)))))) | _ => none⟩
theorem bitC_ok (w0 : World) : bitC.ok Try.prog w0 := by
  refine ⟨⟨_, Try.func21, rfl⟩, fun args t ht => ?_⟩
  unfold bitC at ht
  simp only at ht
  split at ht
  · cases ht
    refine ⟨rfl, fun K hK => ⟨_, hK.2, rfl, fun w _ => ?_⟩⟩
    obtain ⟨hr, _⟩ := hK
    exact bit_any w _ _ hr
  · cases ht
def rsecC : Ctr := ⟨23, fun | [.v (.agg [.int _ .u8 s, .int _ .u8 m, .int _ .u8 h, .int _ .i64 d, .int _ .i64 u, .bool _ t, .bool _ c, .int _ .u8 a0, .int _ .u8 a1, .int _ .u8 a2, .int _ .u8 a3, .int _ .u8 a4])] => some (.chk (Ck.B s ∧ Ck.B m ∧ Ck.B h ∧ 0 ≤ d ∧ d < 512) (.leaf (.v (.agg [.int false .u8 (Ck.next ⟨s, m, h, d, c⟩).s, .int false .u8 (Ck.next ⟨s, m, h, d, c⟩).m, .int false .u8 (Ck.next ⟨s, m, h, d, c⟩).h, .int false .i64 (Ck.next ⟨s, m, h, d, c⟩).d, .int false .i64 u, .bool false t, .bool false (Ck.next ⟨s, m, h, d, c⟩).cy, .int false .u8 a0, .int false .u8 a1, .int false .u8 a2, .int false .u8 a3, .int false .u8 a4])))) | _ => none⟩
theorem rsecC_ok (w0 : World) : rsecC.ok Try.prog w0 := by
  refine ⟨⟨_, Try.func23, rfl⟩, fun args t ht => ?_⟩
  unfold rsecC at ht
  simp only at ht
  split at ht
  · cases ht
    refine ⟨rfl, fun K hK => ⟨_, hK.2, rfl, fun w _ => ?_⟩⟩
    obtain ⟨hr, _⟩ := hK
    exact rsec_any w _ _ _ _ _ _ _ _ _ _ _ _ hr.1 hr.2.1 hr.2.2.1 hr.2.2.2
  · cases ht
def readC : Ctr := ⟨13, fun | [.v (.agg [.int _ .u8 s, .int _ .u8 m, .int _ .u8 h, .int _ .i64 d, .int _ .i64 u, .bool _ t, .bool _ c, .int _ .u8 a0, .int _ .u8 a1, .int _ .u8 a2, .int _ .u8 a3, .int _ .u8 a4]), .v (.one (.int _ .i64 p))] => some (.chk (True) (.leaf (.v (.one (.int false .u8 (Ck.rd p a0 a1 a2 a3 a4)))))) | _ => none⟩
theorem readC_ok (w0 : World) : readC.ok Try.prog w0 := by
  refine ⟨⟨_, Try.func13, rfl⟩, fun args t ht => ?_⟩
  unfold readC at ht
  simp only at ht
  split at ht
  · cases ht
    refine ⟨rfl, fun K hK => ⟨_, hK.2, rfl, fun w _ => ?_⟩⟩
    obtain ⟨hr, _⟩ := hK
    exact read_any w _ _ _ _ _ _ _ _ _ _ _ _ _
  · cases ht
def rreadC : Ctr := ⟨14, fun | [.v (.agg [.int _ .u8 s, .int _ .u8 m, .int _ .u8 h, .int _ .i64 d, .int _ .i64 u, .bool _ t, .bool _ c, .int _ .u8 a0, .int _ .u8 a1, .int _ .u8 a2, .int _ .u8 a3, .int _ .u8 a4]), .v (.one (.int _ .i64 p))] => some (.chk (True) (.leaf (.v (.one (.int false .u8 (Ck.rd p a0 a1 a2 a3 a4)))))) | _ => none⟩
theorem rreadC_ok (w0 : World) : rreadC.ok Try.prog w0 := by
  refine ⟨⟨_, Try.func14, rfl⟩, fun args t ht => ?_⟩
  unfold rreadC at ht
  simp only at ht
  split at ht
  · cases ht
    refine ⟨rfl, fun K hK => ⟨_, hK.2, rfl, fun w _ => ?_⟩⟩
    obtain ⟨hr, _⟩ := hK
    exact rread_any w _ _ _ _ _ _ _ _ _ _ _ _ _
  · cases ht
def writeC : Ctr := ⟨15, fun | [.v (.agg [.int _ .u8 s, .int _ .u8 m, .int _ .u8 h, .int _ .i64 d, .int _ .i64 u, .bool _ t, .bool _ c, .int _ .u8 a0, .int _ .u8 a1, .int _ .u8 a2, .int _ .u8 a3, .int _ .u8 a4]), .v (.one (.int _ .i64 p)), .v (.one (.int _ .u8 x))] => some (.chk (Ck.B s ∧ Ck.B m ∧ Ck.B h ∧ 0 ≤ d ∧ d < 512 ∧ Ck.B x) (.leaf (.v (.agg [.int false .u8 (Ck.wS p x s), .int false .u8 (Ck.wM p x m), .int false .u8 (Ck.wH p x h), .int false .i64 (Ck.wD p x d), .int false .i64 (Ck.wU p u), .bool false (Ck.wT p x t), .bool false (Ck.wC p x c), .int false .u8 a0, .int false .u8 a1, .int false .u8 a2, .int false .u8 a3, .int false .u8 a4])))) | _ => none⟩
theorem writeC_ok (w0 : World) : writeC.ok Try.prog w0 := by
  refine ⟨⟨_, Try.func15, rfl⟩, fun args t ht => ?_⟩
  unfold writeC at ht
  simp only at ht
  split at ht
  · cases ht
    refine ⟨rfl, fun K hK => ⟨_, hK.2, rfl, fun w _ => ?_⟩⟩
    obtain ⟨hr, _⟩ := hK
    exact write_any w _ _ _ _ _ _ _ _ _ _ _ _ _ _ hr.1 hr.2.1 hr.2.2.1 ⟨hr.2.2.2.1, hr.2.2.2.2.1⟩ hr.2.2.2.2.2
  · cases ht
def rwriteC : Ctr := ⟨19, fun | [.v (.agg [.int _ .u8 s, .int _ .u8 m, .int _ .u8 h, .int _ .i64 d, .int _ .i64 u, .bool _ t, .bool _ c, .int _ .u8 a0, .int _ .u8 a1, .int _ .u8 a2, .int _ .u8 a3, .int _ .u8 a4]), .v (.one (.int _ .i64 p)), .v (.one (.int _ .u8 x))] => some (.chk (Ck.B s ∧ Ck.B m ∧ Ck.B h ∧ 0 ≤ d ∧ d < 512 ∧ Ck.B x) (.leaf (.v (.agg [.int false .u8 (Ck.wS p x s), .int false .u8 (Ck.wM p x m), .int false .u8 (Ck.wH p x h), .int false .i64 (Ck.wD p x d), .int false .i64 (Ck.wU p u), .bool false (Ck.wT p x t), .bool false (Ck.wC p x c), .int false .u8 a0, .int false .u8 a1, .int false .u8 a2, .int false .u8 a3, .int false .u8 a4])))) | _ => none⟩
theorem rwriteC_ok (w0 : World) : rwriteC.ok Try.prog w0 := by
  refine ⟨⟨_, Try.func19, rfl⟩, fun args t ht => ?_⟩
  unfold rwriteC at ht
  simp only at ht
  split at ht
  · cases ht
    refine ⟨rfl, fun K hK => ⟨_, hK.2, rfl, fun w _ => ?_⟩⟩
    obtain ⟨hr, _⟩ := hK
    exact rwrite_any w _ _ _ _ _ _ _ _ _ _ _ _ _ _ hr.1 hr.2.1 hr.2.2.1 ⟨hr.2.2.2.1, hr.2.2.2.2.1⟩ hr.2.2.2.2.2
  · cases ht
def table1 : List Ctr := [bitC, rsecC, readC, rreadC, writeC, rwriteC]
theorem table1_ok (w0 : World) : Ctrs Try.prog w0 (ctrOf table1) := ctrs_of fun c hc => by
  simp only [table1, List.mem_cons, List.not_mem_nil, or_false] at hc
  rcases hc with rfl | rfl | rfl | rfl | rfl | rfl
  · exact bitC_ok w0
  · exact rsecC_ok w0
  · exact readC_ok w0
  · exact rreadC_ok w0
  · exact writeC_ok w0
  · exact rwriteC_ok w0
end Go.Proofs.Ytpmgaoigelplgaa
