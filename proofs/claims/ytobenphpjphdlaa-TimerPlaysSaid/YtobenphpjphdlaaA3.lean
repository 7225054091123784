/-
  Walks of two statements of the timer, by computing: whatever the input, true. Bytes are below 256, the counter below 65536; no other condition.
-/
import Derived.Test.YtobenphpjphdlaaA2
namespace Go.Proofs.Ytobenphpjphdlaa
open Go.RowKit sym
set_option linter.unusedVariables false
set_option linter.unusedSimpArgs false
set_option maxRecDepth 100000
theorem sets_tree (w : World) (c tima tma tac x : Int) (ov : Bool) :
    callV Try.prog w (flatT Try.prog) (ctrOf table) noLoop 20 7 [.v (.agg [.int false .u16 c, .int false .u8 tima, .int false .u8 tma, .int false .u8 tac, .bool false ov]), .v (.one (.int false .u8 x))] =
(.chk (TB c tima tma (tac.tmod (8 : Int)) ∧ Tm.B x)
(.chk (TB c tima tma (tac.tmod (8 : Int)) ∧ Tm.B (0 : Int))
(.chk (Tm.W c ∧ Tm.B (tac.tmod (8 : Int)))
(.br (Tm.sg c (tac.tmod (8 : Int)))
 (.br (Tm.wC (0 : Int) c == (0 : Int))
  (.chk (TB (Tm.wC (0 : Int) c)
  (Tm.wT (0 : Int) x c tima (tac.tmod (8 : Int)))
  (Tm.wM (0 : Int) x tma) (Tm.wA (0 : Int) x (tac.tmod (8 : Int))))
  (.br (Tm.rd (0 : Int) (Tm.wC (0 : Int) c)
    (Tm.wT (0 : Int) x c tima (tac.tmod (8 : Int)))
    (Tm.wM (0 : Int) x tma)
    (Tm.wA (0 : Int) x (tac.tmod (8 : Int))) ==
  (0 : Int))
   (.br (Tm.wT (0 : Int) x c tima (tac.tmod (8 : Int)) == IntKind.u8.wrap (tima + (1 : Int)))
    (.br (Tm.wT (3 : Int) (0 : Int) c tima (tac.tmod (8 : Int)) ==
  IntKind.u8.wrap (tima + (1 : Int)))
     (.br (Tm.wC (3 : Int) c == c)
      (.chk (TB (Tm.wC (3 : Int) c)
  (Tm.wT (3 : Int) (0 : Int) c tima (tac.tmod (8 : Int)))
  (Tm.wM (3 : Int) (0 : Int) tma)
  (Tm.wA (3 : Int) (0 : Int) (tac.tmod (8 : Int))))
      (.br (Tm.rd (3 : Int) (Tm.wC (3 : Int) c)
    (Tm.wT (3 : Int) (0 : Int) c tima (tac.tmod (8 : Int)))
    (Tm.wM (3 : Int) (0 : Int) tma)
    (Tm.wA (3 : Int) (0 : Int) (tac.tmod (8 : Int))) ==
  (248 : Int))
       (.br (ov)
        (.leaf (.v (.one (.bool false (Tm.wO (0 : Int) x c tima (tac.tmod (8 : Int)) ov == true)))))
        (.leaf (.v (.one (.bool false (Tm.wO (0 : Int) x c tima (tac.tmod (8 : Int)) ov ==
  (Tm.wT (0 : Int) x c tima (tac.tmod (8 : Int)) == (0 : Int))))))))
       (.leaf (.v (.one (.bool true false))))))
      (.leaf (.v (.one (.bool true false)))))
     (.leaf (.v (.one (.bool true false)))))
    (.leaf (.v (.one (.bool true false)))))
   (.leaf (.v (.one (.bool true false))))))
  (.leaf (.v (.one (.bool true false)))))
 (.br (Tm.wC (0 : Int) c == (0 : Int))
  (.chk (TB (Tm.wC (0 : Int) c)
  (Tm.wT (0 : Int) x c tima (tac.tmod (8 : Int)))
  (Tm.wM (0 : Int) x tma) (Tm.wA (0 : Int) x (tac.tmod (8 : Int))))
  (.br (Tm.rd (0 : Int) (Tm.wC (0 : Int) c)
    (Tm.wT (0 : Int) x c tima (tac.tmod (8 : Int)))
    (Tm.wM (0 : Int) x tma)
    (Tm.wA (0 : Int) x (tac.tmod (8 : Int))) ==
  (0 : Int))
   (.br (Tm.wT (0 : Int) x c tima (tac.tmod (8 : Int)) == IntKind.u8.wrap (tima + (0 : Int)))
    (.br (Tm.wT (3 : Int) (0 : Int) c tima (tac.tmod (8 : Int)) ==
  IntKind.u8.wrap (tima + (0 : Int)))
     (.br (Tm.wC (3 : Int) c == c)
      (.chk (TB (Tm.wC (3 : Int) c)
  (Tm.wT (3 : Int) (0 : Int) c tima (tac.tmod (8 : Int)))
  (Tm.wM (3 : Int) (0 : Int) tma)
  (Tm.wA (3 : Int) (0 : Int) (tac.tmod (8 : Int))))
      (.br (Tm.rd (3 : Int) (Tm.wC (3 : Int) c)
    (Tm.wT (3 : Int) (0 : Int) c tima (tac.tmod (8 : Int)))
    (Tm.wM (3 : Int) (0 : Int) tma)
    (Tm.wA (3 : Int) (0 : Int) (tac.tmod (8 : Int))) ==
  (248 : Int))
       (.br (ov)
        (.leaf (.v (.one (.bool false (Tm.wO (0 : Int) x c tima (tac.tmod (8 : Int)) ov == true)))))
        (.leaf (.v (.one (.bool false (Tm.wO (0 : Int) x c tima (tac.tmod (8 : Int)) ov == false))))))
       (.leaf (.v (.one (.bool true false))))))
      (.leaf (.v (.one (.bool true false)))))
     (.leaf (.v (.one (.bool true false)))))
    (.leaf (.v (.one (.bool true false)))))
   (.leaf (.v (.one (.bool true false))))))
  (.leaf (.v (.one (.bool true false))))))))) := by kernel_rfl

theorem Tm.fT_B {was now : Bool} {t : Int} (h : Tm.B t) : Tm.B (Tm.fT was now t) := by
  unfold Tm.fT; split
  · exact ⟨by omega, by omega⟩
  · exact h
theorem Tm.rd_B {n c tima tma tac : Int} (h : TB c tima tma tac) : Tm.B (Tm.rd n c tima tma tac) := by
  obtain ⟨⟨a1, a2⟩, h2, h3, h4, h5⟩ := h
  unfold Tm.rd
  repeat' split
  · exact ⟨by omega, by omega⟩
  · exact h2
  · exact h3
  · exact ⟨by omega, by omega⟩
  · exact ⟨by omega, by omega⟩
theorem TB_write {c tima tma tac n x : Int} (h : TB c tima tma tac) (hx : Tm.B x) : TB (Tm.wC n c) (Tm.wT n x c tima tac) (Tm.wM n x tma) (Tm.wA n x tac) := by
  obtain ⟨h1, h2, h3, h4⟩ := h
  refine ⟨?_, ?_, ?_, ?_⟩
  · unfold Tm.wC; split
    · exact ⟨by omega, by omega⟩
    · exact h1
  · unfold Tm.wT; split
    · exact hx
    · exact Tm.fT_B h2
  · unfold Tm.wM; split
    · exact hx
    · exact h3
  · unfold Tm.wA; split
    · have := hx.1; exact ⟨by omega, by omega⟩
    · exact h4
theorem TB_tick {c tima tma tac : Int} {ov : Bool} (h : TB c tima tma tac) : TB (Tm.tkC c) (Tm.tkT c tima tma tac ov) tma tac := by
  obtain ⟨h1, h2, h3, h4⟩ := h
  refine ⟨?_, ?_, h3, h4⟩
  · unfold Tm.tkC; exact ⟨by omega, by omega⟩
  · unfold Tm.tkT Tm.aT
    split
    · exact Tm.fT_B h3
    · exact Tm.fT_B h2
set_option maxHeartbeats 4000000 in
theorem sets_walk (w : World) (c tima tma tac x : Int) (ov : Bool) (hb : TB c tima tma tac) (bx : Tm.B x) : Calls Try.prog 7 #[.agg #[.int .u16 c, .int .u8 tima, .int .u8 tma, .int .u8 tac, .bool ov], .int .u8 x] w fun e w' => e = .returned (.bool true) ∧ Below w.heap.size w w' := by
  refine val_eq base2 (table_ok w) (loops_none _ _) (sets_tree w c tima tma tac x ov) rfl ?_
  obtain ⟨bc, bt, bm, ba1, ba2⟩ := hb
  simp (disch := omega) only [T.holds, Int.tdiv_eq_ediv_of_nonneg, Int.tmod_eq_emod_of_nonneg, Tm.wu8, Tm.wu16, Tm.wi64, Int.fdiv_eq_ediv_of_nonneg, Int.reducePow, Int.cast_ofNat_Int, beq_iff_eq, decide_eq_true_eq, decide_eq_false_iff_not, beq_eq_false_iff_ne, ne_eq, bne_iff_ne]
  have hm : 0 ≤ tac % 8 ∧ tac % 8 < 8 := by omega
  generalize tac % 8 = m at *
  have bm' : Tm.B m := ⟨by omega, by omega⟩
  have hb : TB c tima tma m := ⟨bc, bt, bm, bm'⟩
  have z : Tm.B 0 := ⟨by omega, by omega⟩
  have k1 := TB_write (n := 0) hb bx
  have k2 := TB_write (n := 3) hb z
  have s0 : Tm.sg c 0 = false := by simp [Tm.sg]
  have s1 : Tm.sg 0 m = false := by
    unfold Tm.sg Tm.bitV
    (repeat' split) <;> simp
  have hx2 : IntKind.u8.wrap (tima + 0) = tima := by rw [Tm.wu8]; have := bt.1; have := bt.2; omega
  rcases hs : Tm.sg c m with _ | _ <;> cases ov
  all_goals simp (disch := omega) [Tm.wC, Tm.wM, Tm.wA, Tm.wT, Tm.wO, Tm.fT, Tm.fO, Tm.rd, hs, s0, s1] at k1 k2
  all_goals simp (disch := omega) [AV.γ, V.γ, Sc.γ, AV.own, AV.wf, V.wf, Sc.wf, hs, s0, s1, Tm.wC, Tm.wM, Tm.wA, Tm.wT, Tm.wO, Tm.fT, Tm.fO, Tm.rd, hb, bx, bc, z, bm', k1, k2, Tm.wu8]
  all_goals (try repeat' (first | assumption | refine And.intro ?_ ?_ | intro _))
  all_goals first | done | omega | (rw [Bool.eq_iff_iff]; simp; done) | (simp_all; done)
end Go.Proofs.Ytobenphpjphdlaa
