/-
  The walks of three laws of what a condition comes to. Integers are 64 bits wide; no other condition.
-/
import Derived.Test.YtmbahohmiecfiaaR3
namespace Go.Proofs.Ytmbahohmiecfiaa
open Go.RowKit sym
set_option linter.unusedVariables false
set_option linter.unusedSimpArgs false
set_option maxRecDepth 100000
theorem nil_tree (w : World) (x op : Int) (RUN : List Int → List Int → Int × Int) :
    callV Try.prog w (flatT Try.prog) (ctrOf awT) (preOf w (rtab RUN)) (noLoop) 20 8 [.v (.one (.int false .i64 x)), .v (.one (.int false .i64 op))] =
(.chk (True ∧ True)
(.chk ((2 : Nat) ≤ (1000000 : Nat) ∧ RUN = evE)
(.chk (True ∧ True)
(.chk ((1 : Nat) ≤ (1000000 : Nat) ∧ RUN = evE)
(.chk (True ∧ True)
(.chk ((0 : Nat) ≤ (1000000 : Nat) ∧ RUN = evE)
(.chk (True ∧ True)
(.chk ((1 : Nat) ≤ (1000000 : Nat) ∧ RUN = evE)
(.br ((RUN
      [(0 : Int), (0 : Int), (0 : Int), (0 : Int), (0 : Int), (0 : Int), (0 : Int), (0 : Int), (0 : Int), (0 : Int),
        (0 : Int), (0 : Int), (0 : Int), (0 : Int)]
      [op, (0 : Int)]).fst !=
  (0 : Int))
 (.br (op == (1 : Int))
  (.br ((RUN
      [(0 : Int), (0 : Int), (0 : Int), (0 : Int), (0 : Int), (0 : Int), (0 : Int), (0 : Int), (0 : Int), (0 : Int),
        (0 : Int), (0 : Int), (0 : Int), (0 : Int)]
      [(1 : Int), x, (3 : Int), (0 : Int)]).fst ==
  (0 : Int))
   (.br ((RUN
      [(0 : Int), (0 : Int), (0 : Int), (0 : Int), (0 : Int), (0 : Int), (0 : Int), (0 : Int), (0 : Int), (0 : Int),
        (0 : Int), (0 : Int), (0 : Int), (0 : Int)]
      [(1 : Int), x, (3 : Int), (0 : Int)]).snd ==
  (0 : Int))
    (.br (((RUN
        [(0 : Int), (0 : Int), (0 : Int), (0 : Int), (0 : Int), (0 : Int), (0 : Int), (0 : Int), (0 : Int), (0 : Int),
          (0 : Int), (0 : Int), (0 : Int), (0 : Int)]
        [op, (0 : Int)]).snd ==
    (0 : Int)) ==
  true)
     (.br ((RUN
      [(0 : Int), (0 : Int), (0 : Int), (0 : Int), (0 : Int), (0 : Int), (0 : Int), (0 : Int), (0 : Int), (0 : Int),
        (0 : Int), (0 : Int), (0 : Int), (0 : Int)]
      []).snd ==
  (5 : Int))
      (.leaf (.v (.one (.bool true false))))
      (.leaf (.v (.one (.bool true false)))))
     (.leaf (.v (.one (.bool true false)))))
    (.leaf (.v (.one (.bool true false)))))
   (.leaf (.v (.one (.bool true false)))))
  (.br ((RUN
      [(0 : Int), (0 : Int), (0 : Int), (0 : Int), (0 : Int), (0 : Int), (0 : Int), (0 : Int), (0 : Int), (0 : Int),
        (0 : Int), (0 : Int), (0 : Int), (0 : Int)]
      [(1 : Int), x, (3 : Int), (0 : Int)]).fst ==
  (0 : Int))
   (.br ((RUN
      [(0 : Int), (0 : Int), (0 : Int), (0 : Int), (0 : Int), (0 : Int), (0 : Int), (0 : Int), (0 : Int), (0 : Int),
        (0 : Int), (0 : Int), (0 : Int), (0 : Int)]
      [(1 : Int), x, (3 : Int), (0 : Int)]).snd ==
  (0 : Int))
    (.br (((RUN
        [(0 : Int), (0 : Int), (0 : Int), (0 : Int), (0 : Int), (0 : Int), (0 : Int), (0 : Int), (0 : Int), (0 : Int),
          (0 : Int), (0 : Int), (0 : Int), (0 : Int)]
        [op, (0 : Int)]).snd ==
    (0 : Int)) ==
  (op == (2 : Int)))
     (.br (op == (2 : Int))
      (.br ((RUN
      [(0 : Int), (0 : Int), (0 : Int), (0 : Int), (0 : Int), (0 : Int), (0 : Int), (0 : Int), (0 : Int), (0 : Int),
        (0 : Int), (0 : Int), (0 : Int), (0 : Int)]
      []).snd ==
  (5 : Int))
       (.br (true == !op == (2 : Int))
        (.leaf (.v (.one (.bool false (((RUN
        [(0 : Int), (0 : Int), (0 : Int), (0 : Int), (0 : Int), (0 : Int), (0 : Int), (0 : Int), (0 : Int), (0 : Int),
          (0 : Int), (0 : Int), (0 : Int), (0 : Int)]
        [op, (0 : Int)]).snd !=
    (0 : Int)) ==
  !op == (2 : Int))))))
        (.leaf (.v (.one (.bool true false)))))
       (.leaf (.v (.one (.bool true false)))))
      (.br ((RUN
      [(0 : Int), (0 : Int), (0 : Int), (0 : Int), (0 : Int), (0 : Int), (0 : Int), (0 : Int), (0 : Int), (0 : Int),
        (0 : Int), (0 : Int), (0 : Int), (0 : Int)]
      [op, (0 : Int)]).snd ==
  (5 : Int))
       (.br ((RUN
      [(0 : Int), (0 : Int), (0 : Int), (0 : Int), (0 : Int), (0 : Int), (0 : Int), (0 : Int), (0 : Int), (0 : Int),
        (0 : Int), (0 : Int), (0 : Int), (0 : Int)]
      []).snd ==
  (5 : Int))
        (.br (true == !op == (2 : Int))
         (.leaf (.v (.one (.bool false (((RUN
        [(0 : Int), (0 : Int), (0 : Int), (0 : Int), (0 : Int), (0 : Int), (0 : Int), (0 : Int), (0 : Int), (0 : Int),
          (0 : Int), (0 : Int), (0 : Int), (0 : Int)]
        [op, (0 : Int)]).snd !=
    (0 : Int)) ==
  !op == (2 : Int))))))
         (.leaf (.v (.one (.bool true false)))))
        (.leaf (.v (.one (.bool true false)))))
       (.leaf (.v (.one (.bool true false))))))
     (.leaf (.v (.one (.bool true false)))))
    (.leaf (.v (.one (.bool true false)))))
   (.leaf (.v (.one (.bool true false))))))
 (.br (op == (1 : Int))
  (.br ((RUN
      [(0 : Int), (0 : Int), (0 : Int), (0 : Int), (0 : Int), (0 : Int), (0 : Int), (0 : Int), (0 : Int), (0 : Int),
        (0 : Int), (0 : Int), (0 : Int), (0 : Int)]
      [(1 : Int), x, (3 : Int), (0 : Int)]).fst ==
  (0 : Int))
   (.br ((RUN
      [(0 : Int), (0 : Int), (0 : Int), (0 : Int), (0 : Int), (0 : Int), (0 : Int), (0 : Int), (0 : Int), (0 : Int),
        (0 : Int), (0 : Int), (0 : Int), (0 : Int)]
      [(1 : Int), x, (3 : Int), (0 : Int)]).snd ==
  (0 : Int))
    (.br (((RUN
        [(0 : Int), (0 : Int), (0 : Int), (0 : Int), (0 : Int), (0 : Int), (0 : Int), (0 : Int), (0 : Int), (0 : Int),
          (0 : Int), (0 : Int), (0 : Int), (0 : Int)]
        [op, (0 : Int)]).snd ==
    (0 : Int)) ==
  true)
     (.br ((RUN
      [(0 : Int), (0 : Int), (0 : Int), (0 : Int), (0 : Int), (0 : Int), (0 : Int), (0 : Int), (0 : Int), (0 : Int),
        (0 : Int), (0 : Int), (0 : Int), (0 : Int)]
      []).snd ==
  (5 : Int))
      (.br (((RUN
        [(0 : Int), (0 : Int), (0 : Int), (0 : Int), (0 : Int), (0 : Int), (0 : Int), (0 : Int), (0 : Int), (0 : Int),
          (0 : Int), (0 : Int), (0 : Int), (0 : Int)]
        [op, (0 : Int)]).snd !=
    (0 : Int)) ==
  !true)
       (.leaf (.v (.one (.bool false (((RUN
        [(0 : Int), (0 : Int), (0 : Int), (0 : Int), (0 : Int), (0 : Int), (0 : Int), (0 : Int), (0 : Int), (0 : Int),
          (0 : Int), (0 : Int), (0 : Int), (0 : Int)]
        [op, (0 : Int)]).snd !=
    (0 : Int)) ==
  !true)))))
       (.leaf (.v (.one (.bool true false)))))
      (.leaf (.v (.one (.bool true false)))))
     (.leaf (.v (.one (.bool true false)))))
    (.leaf (.v (.one (.bool true false)))))
   (.leaf (.v (.one (.bool true false)))))
  (.br ((RUN
      [(0 : Int), (0 : Int), (0 : Int), (0 : Int), (0 : Int), (0 : Int), (0 : Int), (0 : Int), (0 : Int), (0 : Int),
        (0 : Int), (0 : Int), (0 : Int), (0 : Int)]
      [(1 : Int), x, (3 : Int), (0 : Int)]).fst ==
  (0 : Int))
   (.br ((RUN
      [(0 : Int), (0 : Int), (0 : Int), (0 : Int), (0 : Int), (0 : Int), (0 : Int), (0 : Int), (0 : Int), (0 : Int),
        (0 : Int), (0 : Int), (0 : Int), (0 : Int)]
      [(1 : Int), x, (3 : Int), (0 : Int)]).snd ==
  (0 : Int))
    (.br (((RUN
        [(0 : Int), (0 : Int), (0 : Int), (0 : Int), (0 : Int), (0 : Int), (0 : Int), (0 : Int), (0 : Int), (0 : Int),
          (0 : Int), (0 : Int), (0 : Int), (0 : Int)]
        [op, (0 : Int)]).snd ==
    (0 : Int)) ==
  (op == (2 : Int)))
     (.br (op == (2 : Int))
      (.br ((RUN
      [(0 : Int), (0 : Int), (0 : Int), (0 : Int), (0 : Int), (0 : Int), (0 : Int), (0 : Int), (0 : Int), (0 : Int),
        (0 : Int), (0 : Int), (0 : Int), (0 : Int)]
      []).snd ==
  (5 : Int))
       (.br (((RUN
        [(0 : Int), (0 : Int), (0 : Int), (0 : Int), (0 : Int), (0 : Int), (0 : Int), (0 : Int), (0 : Int), (0 : Int),
          (0 : Int), (0 : Int), (0 : Int), (0 : Int)]
        [op, (0 : Int)]).snd !=
    (0 : Int)) ==
  !op == (2 : Int))
        (.leaf (.v (.one (.bool false (((RUN
        [(0 : Int), (0 : Int), (0 : Int), (0 : Int), (0 : Int), (0 : Int), (0 : Int), (0 : Int), (0 : Int), (0 : Int),
          (0 : Int), (0 : Int), (0 : Int), (0 : Int)]
        [op, (0 : Int)]).snd !=
    (0 : Int)) ==
  !op == (2 : Int))))))
        (.leaf (.v (.one (.bool true false)))))
       (.leaf (.v (.one (.bool true false)))))
      (.br ((RUN
      [(0 : Int), (0 : Int), (0 : Int), (0 : Int), (0 : Int), (0 : Int), (0 : Int), (0 : Int), (0 : Int), (0 : Int),
        (0 : Int), (0 : Int), (0 : Int), (0 : Int)]
      [op, (0 : Int)]).snd ==
  (5 : Int))
       (.br ((RUN
      [(0 : Int), (0 : Int), (0 : Int), (0 : Int), (0 : Int), (0 : Int), (0 : Int), (0 : Int), (0 : Int), (0 : Int),
        (0 : Int), (0 : Int), (0 : Int), (0 : Int)]
      []).snd ==
  (5 : Int))
        (.br (((RUN
        [(0 : Int), (0 : Int), (0 : Int), (0 : Int), (0 : Int), (0 : Int), (0 : Int), (0 : Int), (0 : Int), (0 : Int),
          (0 : Int), (0 : Int), (0 : Int), (0 : Int)]
        [op, (0 : Int)]).snd !=
    (0 : Int)) ==
  !op == (2 : Int))
         (.leaf (.v (.one (.bool false (((RUN
        [(0 : Int), (0 : Int), (0 : Int), (0 : Int), (0 : Int), (0 : Int), (0 : Int), (0 : Int), (0 : Int), (0 : Int),
          (0 : Int), (0 : Int), (0 : Int), (0 : Int)]
        [op, (0 : Int)]).snd !=
    (0 : Int)) ==
  !op == (2 : Int))))))
         (.leaf (.v (.one (.bool true false)))))
        (.leaf (.v (.one (.bool true false)))))
       (.leaf (.v (.one (.bool true false))))))
     (.leaf (.v (.one (.bool true false)))))
    (.leaf (.v (.one (.bool true false)))))
   (.leaf (.v (.one (.bool true false))))))))))))))) := by kernel_rfl
theorem nil_walk (w : World) (x op : Int) : Calls Try.prog 8 #[.int .i64 x, .int .i64 op] w fun e w' => e = .returned (.bool true) ∧ Below w.heap.size w w' := by
  refine val_eq base2 (awT_ok w) (preOf_ok (rtab_ok evE w)) (loops_none _ _) (nil_tree w x op evE) rfl ?_
  rw [show evE [0, 0, 0, 0, 0, 0, 0, 0, 0, 0, 0, 0, 0, 0] [1, x, 3, 0] = (0, 0) from v_one 3 (by decide) (by decide) x, v_op, v_nil]
  by_cases h1 : op = 1
  · subst h1
    repeat' (first | exact ⟨rfl, rfl⟩ | (intro _) | (refine And.intro ?_ ?_))
    all_goals first | rfl | trivial | decide | (rename_i h; exact absurd h (by decide)) | (rename_i h _; exact absurd h (by decide)) | (rename_i h _ _; exact absurd h (by decide))
  · have b1 : (op == 1) = false := by simpa using h1
    rw [b1]
    by_cases h2 : op = 2
    · subst h2
      repeat' (first | exact ⟨rfl, rfl⟩ | (intro _) | (refine And.intro ?_ ?_))
      all_goals first | rfl | trivial | decide | (rename_i h; exact absurd h (by decide)) | (rename_i h _; exact absurd h (by decide)) | (rename_i h _ _; exact absurd h (by decide))
    · have b2 : (op == 2) = false := by simpa using h2
      rw [if_neg (by omega), b2]
      repeat' (first | exact ⟨rfl, rfl⟩ | (intro _) | (refine And.intro ?_ ?_))
      all_goals first | rfl | trivial | decide | (rename_i h; exact absurd h (by decide)) | (rename_i h _; exact absurd h (by decide)) | (rename_i h _ _; exact absurd h (by decide))
theorem shifts_tree (w : World) (x y : Int) (RUN : List Int → List Int → Int × Int) :
    callV Try.prog w (flatT Try.prog) (ctrOf awT) (preOf w (rtab RUN)) (noLoop) 20 7 [.v (.one (.int false .i64 x)), .v (.one (.int false .i64 y))] =
(.chk (True ∧ True)
(.chk ((3 : Nat) ≤ (1000000 : Nat) ∧ RUN = evE)
(.chk (True ∧ True)
(.chk ((3 : Nat) ≤ (1000000 : Nat) ∧ RUN = evE)
(.chk (True ∧ True)
(.chk ((3 : Nat) ≤ (1000000 : Nat) ∧ RUN = evE)
(.chk (True ∧ True)
(.chk ((3 : Nat) ≤ (1000000 : Nat) ∧ RUN = evE)
(.br ((RUN
      [(0 : Int), (0 : Int), (0 : Int), (0 : Int), (0 : Int), (0 : Int), (0 : Int), (0 : Int), (0 : Int), (0 : Int),
        (0 : Int), (0 : Int), (0 : Int), (0 : Int)]
      [(1 : Int), x, (1 : Int), y, (18 : Int), (0 : Int)]).snd ==
  (0 : Int))
 (.br ((RUN
      [(0 : Int), (0 : Int), (0 : Int), (0 : Int), (0 : Int), (0 : Int), (0 : Int), (0 : Int), (0 : Int), (0 : Int),
        (0 : Int), (0 : Int), (0 : Int), (0 : Int)]
      [(1 : Int), x, (1 : Int), y, (19 : Int), (0 : Int)]).snd ==
  (0 : Int))
  (.br ((RUN
      [(0 : Int), (0 : Int), (0 : Int), (0 : Int), (0 : Int), (0 : Int), (0 : Int), (0 : Int), (0 : Int), (0 : Int),
        (0 : Int), (0 : Int), (0 : Int), (0 : Int)]
      [(1 : Int), x, (1 : Int), y, (18 : Int), (0 : Int)]).fst ==
  (RUN
      [(0 : Int), (0 : Int), (0 : Int), (0 : Int), (0 : Int), (0 : Int), (0 : Int), (0 : Int), (0 : Int), (0 : Int),
        (0 : Int), (0 : Int), (0 : Int), (0 : Int)]
      [(1 : Int), x, (1 : Int), bits BinOp.and IntKind.i64 y (63 : Int), (18 : Int), (0 : Int)]).fst)
   (.br ((RUN
      [(0 : Int), (0 : Int), (0 : Int), (0 : Int), (0 : Int), (0 : Int), (0 : Int), (0 : Int), (0 : Int), (0 : Int),
        (0 : Int), (0 : Int), (0 : Int), (0 : Int)]
      [(1 : Int), x, (1 : Int), y, (19 : Int), (0 : Int)]).fst ==
  (RUN
      [(0 : Int), (0 : Int), (0 : Int), (0 : Int), (0 : Int), (0 : Int), (0 : Int), (0 : Int), (0 : Int), (0 : Int),
        (0 : Int), (0 : Int), (0 : Int), (0 : Int)]
      [(1 : Int), x, (1 : Int), bits BinOp.and IntKind.i64 y (63 : Int), (19 : Int), (0 : Int)]).fst)
    (.chk ((0 : Int) ≤ bits BinOp.and IntKind.i64 y (63 : Int))
    (.br ((RUN
      [(0 : Int), (0 : Int), (0 : Int), (0 : Int), (0 : Int), (0 : Int), (0 : Int), (0 : Int), (0 : Int), (0 : Int),
        (0 : Int), (0 : Int), (0 : Int), (0 : Int)]
      [(1 : Int), x, (1 : Int), y, (18 : Int), (0 : Int)]).fst ==
  IntKind.i64.wrap
    (x * (2 : Int) ^ Min.min (bits BinOp.and IntKind.i64 y (63 : Int)).toNat IntKind.i64.bits))
     (.br (decide
    ((RUN
          [(0 : Int), (0 : Int), (0 : Int), (0 : Int), (0 : Int), (0 : Int), (0 : Int), (0 : Int), (0 : Int), (0 : Int),
            (0 : Int), (0 : Int), (0 : Int), (0 : Int)]
          [(1 : Int), x, (1 : Int), y, (19 : Int), (0 : Int)]).fst <
      (0 : Int)) ==
  decide (x < (0 : Int)))
      (.br (decide (bits BinOp.and IntKind.i64 y (63 : Int) < (63 : Int)))
       (.leaf (.v (.one (.bool true true))))
       (.br ((RUN
      [(0 : Int), (0 : Int), (0 : Int), (0 : Int), (0 : Int), (0 : Int), (0 : Int), (0 : Int), (0 : Int), (0 : Int),
        (0 : Int), (0 : Int), (0 : Int), (0 : Int)]
      [(1 : Int), x, (1 : Int), y, (19 : Int), (0 : Int)]).fst ==
  (0 : Int))
        (.leaf (.v (.one (.bool true true))))
        (.leaf (.v (.one (.bool false ((RUN
      [(0 : Int), (0 : Int), (0 : Int), (0 : Int), (0 : Int), (0 : Int), (0 : Int), (0 : Int), (0 : Int), (0 : Int),
        (0 : Int), (0 : Int), (0 : Int), (0 : Int)]
      [(1 : Int), x, (1 : Int), y, (19 : Int), (0 : Int)]).fst ==
  (-1 : Int))))))))
      (.leaf (.v (.one (.bool true false)))))
     (.leaf (.v (.one (.bool true false))))))
    (.leaf (.v (.one (.bool true false)))))
   (.leaf (.v (.one (.bool true false)))))
  (.leaf (.v (.one (.bool true false)))))
 (.leaf (.v (.one (.bool true false))))))))))))) := by kernel_rfl
theorem v18 (x y : Int) : evE [0, 0, 0, 0, 0, 0, 0, 0, 0, 0, 0, 0, 0, 0] [1, x, 1, y, 18, 0] = (IntKind.i64.wrap (x * (2 : Int) ^ Min.min (bits .and .i64 y 63).toNat 64), 0) := v_two 18 (by decide) (by decide) x y
theorem v19 (x y : Int) : evE [0, 0, 0, 0, 0, 0, 0, 0, 0, 0, 0, 0, 0, 0] [1, x, 1, y, 19, 0] = (x.fdiv ((2 : Int) ^ Min.min (bits .and .i64 y 63).toNat 64), 0) := v_two 19 (by decide) (by decide) x y
theorem shifts_walk (w : World) (x y : Int) (hx : -9223372036854775808 ≤ x ∧ x ≤ 9223372036854775807) : Calls Try.prog 7 #[.int .i64 x, .int .i64 y] w fun e w' => e = .returned (.bool true) ∧ Below w.heap.size w w' := by
  refine val_eq base2 (awT_ok w) (preOf_ok (rtab_ok evE w)) (loops_none _ _) (shifts_tree w x y evE) rfl ?_
  rw [v18, v18, v19, v19, and63 y, and63 (y % 64), show y % 64 % 64 = y % 64 by omega, show IntKind.i64.bits = 64 from rfl]
  have hk : 0 ≤ y % 64 ∧ y % 64 < 64 := by omega
  generalize hq : y % 64 = k at *
  have hp : (0 : Int) < (2 : Int) ^ Min.min k.toNat 64 := Int.pow_pos (by decide)
  have hr : x.fdiv ((2 : Int) ^ Min.min k.toNat 64) = x / ((2 : Int) ^ Min.min k.toNat 64) := Int.fdiv_eq_ediv_of_nonneg _ (by omega)
  simp only [T.holds, beq_self_eq_true, true_implies, Bool.true_eq_false, Bool.false_eq_true, false_implies, and_true, true_and, and_self]
  refine ⟨by decide, by decide, by decide, by decide, hk.1, fun _ => ⟨fun h => ⟨rfl, rfl⟩, fun h => ⟨fun h2 => ⟨rfl, rfl⟩, fun h2 => ⟨rfl, ?_⟩⟩⟩, fun h => ?_⟩
  · have h := of_decide_eq_false h
    have h63 : k = 63 := by omega
    subst h63
    have e : x.fdiv ((2 : Int) ^ Min.min (63 : Int).toNat 64) = x / 9223372036854775808 := hr
    have h2 : ¬ x.fdiv ((2 : Int) ^ Min.min (63 : Int).toNat 64) = 0 := by simpa using h2
    rw [e] at h2 ⊢
    have : x / 9223372036854775808 = -1 := by omega
    rw [this]
    rfl
  · exfalso
    rw [hr] at h
    by_cases hx0 : x < 0
    · have := Int.ediv_neg_of_neg_of_pos hx0 hp
      simp [this, hx0] at h
    · have := Int.ediv_nonneg (Int.not_lt.1 hx0) (Int.le_of_lt hp)
      simp [Int.not_lt.2 this, hx0] at h
theorem rules_tree (w : World) (x y : Int) (RN : List Int → Int) (RUN : List Int → List Int → Int × Int) :
    callV Try.prog w (flatT Try.prog) (ctrOr (ctrOf ruT) (qctr [rnF RN, runF RUN])) (preOf w (rtab RUN)) (noLoop) 20 6 [.v (.one (.int false .i64 x)), .v (.one (.int false .i64 y))] =
(.chk ((3 : Nat) ≤ (1000000 : Nat) ∧ RN = rnE)
(.chk ((4 : Nat) ≤ (1000000 : Nat) ∧ RN = rnE)
(.br (RN [(1 : Int), x, (1 : Int), y, (21 : Int), (0 : Int)] !=
  RN [(1 : Int), x, (1 : Int), y, (4 : Int), (0 : Int), (20 : Int), (0 : Int)])
 (.leaf (.v (.one (.bool true false))))
 (.chk ((3 : Nat) ≤ (1000000 : Nat) ∧ RN = rnE)
 (.br (RN [(1 : Int), x, (6 : Int), (0 : Int), (6 : Int), (0 : Int)] != x)
  (.leaf (.v (.one (.bool true false))))
  (.chk ((3 : Nat) ≤ (1000000 : Nat) ∧ RN = rnE)
  (.br (RN [(1 : Int), x, (4 : Int), (0 : Int), (4 : Int), (0 : Int)] != x)
   (.leaf (.v (.one (.bool true false))))
   (.chk ((3 : Nat) ≤ (1000000 : Nat) ∧ RN = rnE)
   (.chk ((3 : Nat) ≤ (1000000 : Nat) ∧ RN = rnE)
   (.chk ((3 : Nat) ≤ (1000000 : Nat) ∧ RN = rnE)
   (.chk ((3 : Nat) ≤ (1000000 : Nat) ∧ RN = rnE)
   (.br (IntKind.i64.wrap
    (RN [(1 : Int), x, (1 : Int), y, (14 : Int), (0 : Int)] + RN [(1 : Int), x, (1 : Int), y, (17 : Int), (0 : Int)]) !=
  (1 : Int))
    (.leaf (.v (.one (.bool true false))))
    (.br (IntKind.i64.wrap
    (RN [(1 : Int), x, (1 : Int), y, (12 : Int), (0 : Int)] + RN [(1 : Int), x, (1 : Int), y, (13 : Int), (0 : Int)]) !=
  (1 : Int))
     (.leaf (.v (.one (.bool true false))))
     (.chk ((3 : Nat) ≤ (1000000 : Nat) ∧ RN = rnE)
     (.chk ((3 : Nat) ≤ (1000000 : Nat) ∧ RN = rnE)
     (.br (RN [(1 : Int), x, (5 : Int), (0 : Int), (5 : Int), (0 : Int)] !=
  RN [(1 : Int), x, (1 : Int), (0 : Int), (13 : Int), (0 : Int)])
      (.leaf (.v (.one (.bool true false))))
      (.chk ((3 : Nat) ≤ (1000000 : Nat) ∧ RUN = evE)
      (.br (y == (0 : Int))
       (.leaf (.v (.one (.bool false ((RUN
      [(0 : Int), (0 : Int), (0 : Int), (0 : Int), (0 : Int), (0 : Int), (0 : Int), (0 : Int), (0 : Int), (0 : Int),
        (0 : Int), (0 : Int), (0 : Int), (0 : Int)]
      [(1 : Int), x, (1 : Int), y, (23 : Int), (0 : Int)]).snd ==
  (13 : Int))))))
       (.chk ((3 : Nat) ≤ (1000000 : Nat) ∧ RN = rnE)
       (.chk ((3 : Nat) ≤ (1000000 : Nat) ∧ RN = rnE)
       (.br ((RUN
      [(0 : Int), (0 : Int), (0 : Int), (0 : Int), (0 : Int), (0 : Int), (0 : Int), (0 : Int), (0 : Int), (0 : Int),
        (0 : Int), (0 : Int), (0 : Int), (0 : Int)]
      [(1 : Int), x, (1 : Int), y, (23 : Int), (0 : Int)]).snd ==
  (0 : Int))
        (.br (IntKind.i64.wrap
    (IntKind.i64.wrap (RN [(1 : Int), x, (1 : Int), y, (23 : Int), (0 : Int)] * y) +
      RN [(1 : Int), x, (1 : Int), y, (24 : Int), (0 : Int)]) ==
  x)
         (.chk ((3 : Nat) ≤ (1000000 : Nat) ∧ RN = rnE)
         (.chk ((3 : Nat) ≤ (1000000 : Nat) ∧ RN = rnE)
         (.leaf (.v (.one (.bool false (RN [(1 : Int), x, (1 : Int), y, (10 : Int), (0 : Int)] == RN [(1 : Int), y, (1 : Int), x, (10 : Int), (0 : Int)])))))))
         (.leaf (.v (.one (.bool true false)))))
        (.leaf (.v (.one (.bool true false))))))))))))))))))))))))) := by kernel_rfl
theorem rn_is {L : List Int} {v : Int} (h : evE [0, 0, 0, 0, 0, 0, 0, 0, 0, 0, 0, 0, 0, 0] L = (v, 0)) : rnE L = v := by
  unfold rnE
  rw [h]
  rfl
theorem v_2 (op : Int) (h : 7 ≤ op) (h2 : op ≤ 24) (x y : Int) (he : (twoL op x y).2 = 0) : rnE [1, x, 1, y, op, 0] = (twoL op x y).1 := rn_is (by rw [v_two op h h2, if_neg (by intro h; exact h he)])
theorem wcong (a : Int) : ∃ k, IntKind.i64.wrap a = a + 18446744073709551616 * k := ⟨-((a + 9223372036854775808) / 18446744073709551616), by rw [IntKind.wrap_i64]; omega⟩
theorem wadd (a k : Int) : IntKind.i64.wrap (a + 18446744073709551616 * k) = IntKind.i64.wrap a := by rw [IntKind.wrap_i64, IntKind.wrap_i64]; omega
theorem wdiv (x y : Int) (hx : -9223372036854775808 ≤ x ∧ x ≤ 9223372036854775807) : IntKind.i64.wrap (IntKind.i64.wrap (IntKind.i64.wrap (x.tdiv y) * y) + x.tmod y) = x := by
  obtain ⟨k, hk⟩ := wcong (x.tdiv y)
  obtain ⟨j, hj⟩ := wcong (IntKind.i64.wrap (x.tdiv y) * y)
  have e := Int.mul_tdiv_add_tmod x y
  have : IntKind.i64.wrap (IntKind.i64.wrap (x.tdiv y) * y) + x.tmod y = x + 18446744073709551616 * (k * y + j) := by
    rw [hj, hk, Int.add_mul, Int.mul_add, Int.mul_assoc]
    have : x.tdiv y * y = y * x.tdiv y := Int.mul_comm _ _
    omega
  rw [this, wadd, wi64 _ hx.1 hx.2]
theorem rules_walk (w : World) (x y : Int) (hx : -9223372036854775808 ≤ x ∧ x ≤ 9223372036854775807) : Calls Try.prog 6 #[.int .i64 x, .int .i64 y] w fun e w' => e = .returned (.bool true) ∧ Below w.heap.size w w' := by
  refine val_eq base2 (rulesT_ok w) (preOf_ok (rtab_ok evE w)) (loops_none _ _) (rules_tree w x y rnE evE) rfl ?_
  have c1 : rnE [1, x, 1, y, 21, 0] = rnE [1, x, 1, y, 4, 0, 20, 0] := by
    rw [v_2 21 (by decide) (by decide) x y rfl, rn_is (v_sub x y)]
    show IntKind.i64.wrap (x - y) = _
    rw [IntKind.wrap_i64, IntKind.wrap_i64, IntKind.wrap_i64]
    omega
  have c2 : rnE [1, x, 6, 0, 6, 0] = x := by
    rw [rn_is (v_one2 6 6 (by decide) (by decide) (by decide) (by decide) x)]
    show bits .xor .i64 (-1) (bits .xor .i64 (-1) x) = x
    rw [flip, flip, IntKind.wrap_i64, IntKind.wrap_i64]
    omega
  have c3 : rnE [1, x, 4, 0, 4, 0] = x := by
    rw [rn_is (v_one2 4 4 (by decide) (by decide) (by decide) (by decide) x)]
    show IntKind.i64.wrap (0 - IntKind.i64.wrap (0 - x)) = x
    rw [IntKind.wrap_i64, IntKind.wrap_i64]
    omega
  have c4 : IntKind.i64.wrap (rnE [1, x, 1, y, 14, 0] + rnE [1, x, 1, y, 17, 0]) = 1 := by
    rw [v_2 14 (by decide) (by decide) x y rfl, v_2 17 (by decide) (by decide) x y rfl]
    show IntKind.i64.wrap (B2 (decide (x < y)) + B2 (decide (x ≥ y))) = 1
    by_cases h : x < y
    · rw [decide_eq_true h, decide_eq_false (by omega)]; rfl
    · rw [decide_eq_false h, decide_eq_true (by omega)]; rfl
  have c5 : IntKind.i64.wrap (rnE [1, x, 1, y, 12, 0] + rnE [1, x, 1, y, 13, 0]) = 1 := by
    rw [v_2 12 (by decide) (by decide) x y rfl, v_2 13 (by decide) (by decide) x y rfl]
    show IntKind.i64.wrap (B2 (x == y) + B2 (!(x == y))) = 1
    cases x == y <;> rfl
  have c6 : rnE [1, x, 5, 0, 5, 0] = rnE [1, x, 1, 0, 13, 0] := by
    rw [rn_is (v_one2 5 5 (by decide) (by decide) (by decide) (by decide) x), v_2 13 (by decide) (by decide) x 0 rfl]
    show B2 (B2 (x == 0) == 0) = B2 (!(x == 0))
    cases x == 0 <;> rfl
  have c7 : rnE [1, x, 1, y, 10, 0] = rnE [1, y, 1, x, 10, 0] := by
    rw [v_2 10 (by decide) (by decide) x y rfl, v_2 10 (by decide) (by decide) y x rfl]
    exact xor_comm x y
  have big3 : 3 ≤ 1000000 := by decide
  have big4 : 4 ≤ 1000000 := by decide
  refine ⟨⟨big3, rfl⟩, ⟨big4, rfl⟩, T.br_f (bne_eq_false_iff_eq.2 c1) ⟨⟨big3, rfl⟩, T.br_f (bne_eq_false_iff_eq.2 c2) ⟨⟨big3, rfl⟩, T.br_f (bne_eq_false_iff_eq.2 c3) ⟨⟨big3, rfl⟩, ⟨big3, rfl⟩, ⟨big3, rfl⟩, ⟨big3, rfl⟩, T.br_f (bne_eq_false_iff_eq.2 c4) (T.br_f (bne_eq_false_iff_eq.2 c5) ⟨⟨big3, rfl⟩, ⟨big3, rfl⟩, T.br_f (bne_eq_false_iff_eq.2 c6) ⟨⟨big3, rfl⟩, ?_⟩⟩)⟩⟩⟩⟩
  have hd := v_two 23 (by decide) (by decide) x y
  by_cases hy : y = 0
  · have e : evE [0, 0, 0, 0, 0, 0, 0, 0, 0, 0, 0, 0, 0, 0] [1, x, 1, y, 23, 0] = (0, 13) := by
      rw [hd]
      subst hy
      rfl
    refine T.br_t (by simp [hy]) ⟨rfl, ?_⟩
    rw [e]
    rfl
  · have e2 : twoL 23 x y = (IntKind.i64.wrap (x.tdiv y), 0) := by
      show (if y = 0 then ((0 : Int), (13 : Int)) else (IntKind.i64.wrap (x.tdiv y), 0)) = _
      rw [if_neg hy]
    have e3 : twoL 24 x y = (x.tmod y, 0) := by
      show (if y = 0 then ((0 : Int), (13 : Int)) else (x.tmod y, 0)) = _
      rw [if_neg hy]
    have q : rnE [1, x, 1, y, 23, 0] = IntKind.i64.wrap (x.tdiv y) := by rw [v_2 23 (by decide) (by decide) x y (by rw [e2]), e2]
    have r : rnE [1, x, 1, y, 24, 0] = x.tmod y := by rw [v_2 24 (by decide) (by decide) x y (by rw [e3]), e3]
    have e : evE [0, 0, 0, 0, 0, 0, 0, 0, 0, 0, 0, 0, 0, 0] [1, x, 1, y, 23, 0] = (IntKind.i64.wrap (x.tdiv y), 0) := by rw [hd, e2]; rfl
    refine T.br_f (by simp [hy]) ⟨⟨big3, rfl⟩, ⟨big3, rfl⟩, T.br_t (by rw [e]; rfl) (T.br_t (by rw [q, r, wdiv x y hx]; exact beq_self_eq_true x) ⟨⟨big3, rfl⟩, ⟨big3, rfl⟩, rfl, ?_⟩)⟩
    rw [c7]
    simp [AV.γ, V.γ, Sc.γ]
end Go.Proofs.Ytmbahohmiecfiaa
