/-
  Walks of the statements of packs. Slices that hold bytes and pairs of words; no other condition.
-/
import Derived.Test.YtcfnfihemejjkaaR8
import Derived.Test.YtcfnfihemejjkaaK2
namespace Go.Proofs.Ytcfnfihemejjkaa
open Go.RowKit sym
set_option linter.unusedVariables false
set_option linter.unusedSimpArgs false
set_option maxRecDepth 100000
theorem own_cut {xs : List Int} {n : Nat} (h : xs.length = n) : cutL xs 0 (0 + n) [IntKind.u8].length = xs := by
  rw [List.length_singleton, cut1, List.drop_zero, List.take_of_length_le (by omega)]
theorem own_cut1 (xs : List Int) : cutL xs 0 xs.length 1 = xs := by
  rw [cut1, List.drop_zero, List.take_of_length_le (by omega)]
theorem pk_len (n m : Nat) (X Y : List Int) : (pk n m X Y).length ≤ 2 + 5 * Y.length := by
  unfold pk
  split
  · exact pack_len _ _ _ (Nat.le_refl _)
  · simp
theorem unp_len (X Y : List Int) : (unp X Y).2.length ≤ X.length := by
  by_cases h : (unp X Y).1 = 0
  · exact Nat.le_of_eq (unp_zero h).2
  · rw [unp_none h]; exact Nat.zero_le _
theorem tells_tree (w : World) (A : Option Addr) (X : List Int) (n cap : Nat) (A2 : Option Addr) (L : List Int) (k cap2 : Nat) (A3 : Option Addr) (Y : List Int) (m cap3 : Nat) (A4 : Option Addr) (Z : List Int) (p cap4 : Nat) :
    callV Try.prog w (flatT Try.prog) (ctrOf awT) (preOf w tab9) (noLoop) 20 3 [.v (.one (.xr A [.u8] X n cap)), .v (.one (.xr A2 [.u16, .u16] L k cap2)), .v (.one (.xr A3 [.u8] Y m cap3)), .v (.one (.xr A4 [.u8] Z p cap4))] =
(.br (decide ((↑n : Int) > (3000 : Int)))
 (.leaf (.v (.one (.bool true true))))
 (.br (decide ((↑k : Int) > (60 : Int)))
  (.leaf (.v (.one (.bool true true))))
  (.br (decide ((↑m : Int) > (3000 : Int)))
   (.leaf (.v (.one (.bool true true))))
   (.br (decide ((↑p : Int) > (3000 : Int)))
    (.leaf (.v (.one (.bool true true))))
    (.chk ((sym.XR w A [IntKind.u8] X n ∧ n ≤ cap) ∧
  (sym.XR w A2 [IntKind.u16, IntKind.u16] L k ∧ k ≤ cap2) ∧ True)
    (.chk (n ≤ (16000 : Nat) ∧ k ≤ (1000 : Nat) ∧ ∀ (j : Nat), W (L.getD j (0 : Int)))
    (.all fun x : RowR n =>
     (.chk ((sym.XR w A [IntKind.u8] X n ∧ n ≤ cap) ∧
  (x.nl = x.nl ∧ ((0 : Nat) + n) * [IntKind.u8].length ≤ (chg X L).length ∧ n ≤ x.cap) ∧
    True)
     (.chk (n ≤ (16000 : Nat))
     (.all fun x_1 : RowR
  (pk n n X
      (sym.cutL (chg X L) (0 : Nat) ((0 : Nat) + n)
        [IntKind.u8].length)).length =>
      (.chk ((sym.XR w A [IntKind.u8] X n ∧ n ≤ cap) ∧
  (x.nl = x.nl ∧ ((0 : Nat) + n) * [IntKind.u8].length ≤ (chg X L).length ∧ n ≤ x.cap) ∧
    True)
      (.chk (n ≤ (16000 : Nat))
      (.all fun x_2 : RowR
  (pk n n X
      (sym.cutL (chg X L) (0 : Nat) ((0 : Nat) + n)
        [IntKind.u8].length)).length =>
       (.chk ((sym.XR w A [IntKind.u8] X n ∧ n ≤ cap) ∧
  (sym.XR w A3 [IntKind.u8] Y m ∧ m ≤ cap3) ∧ True)
       (.chk (n ≤ (16000 : Nat))
       (.all fun x_3 : RowR (pk n m X Y).length =>
        (.chk ((sym.XR w A [IntKind.u8] X n ∧ n ≤ cap) ∧
  (sym.XR w A3 [IntKind.u8] Y m ∧ m ≤ cap3) ∧ True)
        (.chk (n ≤ (16000 : Nat))
        (.all fun x_4 : RowR (pk n m X Y).length =>
         (.chk ((sym.XR w A [IntKind.u8] X n ∧ n ≤ cap) ∧
  (sym.XR w A4 [IntKind.u8] Z p ∧ p ≤ cap4) ∧ True)
         (.chk (n ≤ (16000 : Nat) ∧ p ≤ (1000000 : Nat) ∧ Bs X ∧ Bs Z)
         (.all fun x_5 : RowR (unp X Z).snd.length =>
          (.chk ((sym.XR w A [IntKind.u8] X n ∧ n ≤ cap) ∧
  (sym.XR w A4 [IntKind.u8] Z p ∧ p ≤ cap4) ∧ True)
          (.chk (n ≤ (16000 : Nat) ∧ p ≤ (1000000 : Nat) ∧ Bs X ∧ Bs Z)
          (.all fun x_6 : RowR (unp X Z).snd.length =>
           (.chk ((x_1.nl = x_1.nl ∧
    ((0 : Nat) +
            (pk n n X
                (sym.cutL (chg X L) (0 : Nat) ((0 : Nat) + n)
                  [IntKind.u8].length)).length) *
          [IntKind.u8].length ≤
        (pk n n X
            (sym.cutL (chg X L) (0 : Nat) ((0 : Nat) + n)
              [IntKind.u8].length)).length ∧
      (pk n n X
            (sym.cutL (chg X L) (0 : Nat) ((0 : Nat) + n)
              [IntKind.u8].length)).length ≤
        x_1.cap) ∧
  (x_2.nl = x_2.nl ∧
      ((0 : Nat) +
              (pk n n X
                  (sym.cutL (chg X L) (0 : Nat) ((0 : Nat) + n)
                    [IntKind.u8].length)).length) *
            [IntKind.u8].length ≤
          (pk n n X
              (sym.cutL (chg X L) (0 : Nat) ((0 : Nat) + n)
                [IntKind.u8].length)).length ∧
        (pk n n X
              (sym.cutL (chg X L) (0 : Nat) ((0 : Nat) + n)
                [IntKind.u8].length)).length ≤
          x_2.cap) ∧
    True)
           (.chk ((pk n n X
      (sym.cutL (chg X L) (0 : Nat) ((0 : Nat) + n)
        [IntKind.u8].length)).length ≤
  (1000000000 : Nat))
           (.br (decide
  (sym.cutL
      (pk n n X
        (sym.cutL (chg X L) (0 : Nat) ((0 : Nat) + n)
          [IntKind.u8].length))
      (0 : Nat)
      ((0 : Nat) +
        (pk n n X
            (sym.cutL (chg X L) (0 : Nat) ((0 : Nat) + n)
              [IntKind.u8].length)).length)
      [IntKind.u8].length =
    sym.cutL
      (pk n n X
        (sym.cutL (chg X L) (0 : Nat) ((0 : Nat) + n)
          [IntKind.u8].length))
      (0 : Nat)
      ((0 : Nat) +
        (pk n n X
            (sym.cutL (chg X L) (0 : Nat) ((0 : Nat) + n)
              [IntKind.u8].length)).length)
      [IntKind.u8].length))
            (.br (pe n n == pe n n)
             (.chk ((x_3.nl = x_3.nl ∧
    ((0 : Nat) + (pk n m X Y).length) * [IntKind.u8].length ≤
        (pk n m X Y).length ∧
      (pk n m X Y).length ≤ x_3.cap) ∧
  (x_4.nl = x_4.nl ∧
      ((0 : Nat) + (pk n m X Y).length) * [IntKind.u8].length ≤
          (pk n m X Y).length ∧
        (pk n m X Y).length ≤ x_4.cap) ∧
    True)
             (.chk ((pk n m X Y).length ≤ (1000000000 : Nat))
             (.br (decide
  (sym.cutL (pk n m X Y) (0 : Nat)
      ((0 : Nat) + (pk n m X Y).length) [IntKind.u8].length =
    sym.cutL (pk n m X Y) (0 : Nat)
      ((0 : Nat) + (pk n m X Y).length) [IntKind.u8].length))
              (.br (pe n m == pe n m)
               (.chk ((x_5.nl = x_5.nl ∧
    ((0 : Nat) + (unp X Z).snd.length) * [IntKind.u8].length ≤
        (unp X Z).snd.length ∧
      (unp X Z).snd.length ≤ x_5.cap) ∧
  (x_6.nl = x_6.nl ∧
      ((0 : Nat) + (unp X Z).snd.length) * [IntKind.u8].length ≤
          (unp X Z).snd.length ∧
        (unp X Z).snd.length ≤ x_6.cap) ∧
    True)
               (.chk ((unp X Z).snd.length ≤ (1000000000 : Nat))
               (.br (decide
  (sym.cutL (unp X Z).snd (0 : Nat)
      ((0 : Nat) + (unp X Z).snd.length) [IntKind.u8].length =
    sym.cutL (unp X Z).snd (0 : Nat)
      ((0 : Nat) + (unp X Z).snd.length) [IntKind.u8].length))
                (.leaf (.v (.one (.bool false ((unp X Z).fst == (unp X Z).fst)))))
                (.leaf (.v (.one (.bool true false)))))))
               (.leaf (.v (.one (.bool true false)))))
              (.leaf (.v (.one (.bool true false)))))))
             (.leaf (.v (.one (.bool true false)))))
            (.leaf (.v (.one (.bool true false)))))))))))))))))))))))))))))))) := by kernel_rfl
set_option maxHeartbeats 2000000 in
theorem tells_walk (w : World) (A : Option Addr) (X : List Int) (n cap : Nat) (A2 : Option Addr) (L : List Int) (k cap2 : Nat) (A3 : Option Addr) (Y : List Int) (m cap3 : Nat) (A4 : Option Addr) (Z : List Int) (p cap4 : Nat) (hX : XR w A [.u8] X n) (hc : n ≤ cap) (hb : Bs X) (hL : XR w A2 [.u16, .u16] L k) (hc2 : k ≤ cap2) (hW : ∀ j, W (L.getD j 0)) (hY : XR w A3 [.u8] Y m) (hc3 : m ≤ cap3) (hZ : XR w A4 [.u8] Z p) (hc4 : p ≤ cap4) (hz : Bs Z) : Calls Try.prog 3 #[.slice A n cap, .slice A2 k cap2, .slice A3 m cap3, .slice A4 p cap4] w fun e w' => e = .returned (.bool true) ∧ Below w.heap.size w w' := by
  refine val_eq base2 (awT_ok w) (preOf_ok tab9_ok w) (loops_none _ _) (tells_tree w A X n cap A2 L k cap2 A3 Y m cap3 A4 Z p cap4) rfl ?_
  have hn : X.length = n := by simpa using hX.1
  have hm : Y.length = m := by simpa using hY.1
  have hg : (chg X L).length = n := by rw [chg_len, hn]
  rw [own_cut hg]
  have l1 := pk_len n n X (chg X L)
  have l2 := pk_len n m X Y
  have l3 := unp_len X Z
  simp only [T.holds, own_cut1, Nat.zero_add, List.length_singleton, Nat.mul_one, true_and, and_true, and_self, beq_self_eq_true, decide_true, forall_const, Bool.true_eq_false, false_implies, decide_eq_true_eq, decide_eq_false_iff_not]
  repeat' (first | exact ⟨rfl, rfl⟩ | exact hX | exact hL | exact hY | exact hZ | exact hW | exact hb | exact hz | (intro _) | (refine And.intro ?_ ?_))
  all_goals first
    | omega
    | assumption
    | exact RowR.le _
    | exact hY | exact hZ | exact hW _
theorem apart_tree (w : World) (A : Option Addr) (X : List Int) (n cap : Nat) (A2 : Option Addr) (L : List Int) (k cap2 : Nat) (A3 : Option Addr) (O : List Int) (l cap3 : Nat) :
    callV Try.prog w (flatT Try.prog) (ctrOf awT) (preOf w tab9) (noLoop) 20 7 [.v (.one (.xr A [.u8] X n cap)), .v (.one (.xr A2 [.u16, .u16] L k cap2)), .v (.one (.xr A3 [.u16, .u16] O l cap3))] =
(.br (decide ((↑n : Int) > (3000 : Int)))
 (.leaf (.v (.one (.bool true true))))
 (.br (decide ((↑k : Int) > (60 : Int)))
  (.leaf (.v (.one (.bool true true))))
  (.br (decide ((↑l : Int) > (60 : Int)))
   (.leaf (.v (.one (.bool true true))))
   (.chk ((sym.XR w A [IntKind.u8] X n ∧ n ≤ cap) ∧
  (sym.XR w A2 [IntKind.u16, IntKind.u16] L k ∧ k ≤ cap2) ∧ True)
   (.chk (n ≤ (16000 : Nat) ∧ k ≤ (1000 : Nat) ∧ ∀ (j : Nat), W (L.getD j (0 : Int)))
   (.all fun x : RowR n =>
    (.chk ((sym.XR w A [IntKind.u8] X n ∧ n ≤ cap) ∧
  (sym.XR w A3 [IntKind.u16, IntKind.u16] O l ∧ l ≤ cap3) ∧ True)
    (.chk (n ≤ (16000 : Nat) ∧ l ≤ (1000 : Nat) ∧ ∀ (j : Nat), W (O.getD j (0 : Int)))
    (.all fun x_1 : RowR n =>
     (.chk ((sym.XR w A [IntKind.u8] X n ∧ n ≤ cap) ∧
  (x.nl = x.nl ∧ ((0 : Nat) + n) * [IntKind.u8].length ≤ (chg X L).length ∧ n ≤ x.cap) ∧
    True)
     (.chk (n ≤ (16000 : Nat))
     (.all fun x_2 : RowR
  (pk n n X
      (sym.cutL (chg X L) (0 : Nat) ((0 : Nat) + n)
        [IntKind.u8].length)).length =>
      (.chk ((sym.XR w A [IntKind.u8] X n ∧ n ≤ cap) ∧
  (x_1.nl = x_1.nl ∧
      ((0 : Nat) + n) * [IntKind.u8].length ≤ (chg X O).length ∧ n ≤ x_1.cap) ∧
    True)
      (.chk (n ≤ (16000 : Nat))
      (.all fun x_3 : RowR
  (pk n n X
      (sym.cutL (chg X O) (0 : Nat) ((0 : Nat) + n)
        [IntKind.u8].length)).length =>
       (.br (pe n n == (0 : Int))
        (.br (pe n n == (0 : Int))
         (.chk ((x_2.nl = x_2.nl ∧
    ((0 : Nat) +
            (pk n n X
                (sym.cutL (chg X L) (0 : Nat) ((0 : Nat) + n)
                  [IntKind.u8].length)).length) *
          [IntKind.u8].length ≤
        (pk n n X
            (sym.cutL (chg X L) (0 : Nat) ((0 : Nat) + n)
              [IntKind.u8].length)).length ∧
      (pk n n X
            (sym.cutL (chg X L) (0 : Nat) ((0 : Nat) + n)
              [IntKind.u8].length)).length ≤
        x_2.cap) ∧
  (x_3.nl = x_3.nl ∧
      ((0 : Nat) +
              (pk n n X
                  (sym.cutL (chg X O) (0 : Nat) ((0 : Nat) + n)
                    [IntKind.u8].length)).length) *
            [IntKind.u8].length ≤
          (pk n n X
              (sym.cutL (chg X O) (0 : Nat) ((0 : Nat) + n)
                [IntKind.u8].length)).length ∧
        (pk n n X
              (sym.cutL (chg X O) (0 : Nat) ((0 : Nat) + n)
                [IntKind.u8].length)).length ≤
          x_3.cap) ∧
    True)
         (.chk ((pk n n X
      (sym.cutL (chg X L) (0 : Nat) ((0 : Nat) + n)
        [IntKind.u8].length)).length ≤
  (1000000000 : Nat))
         (.chk ((x.nl = x.nl ∧ ((0 : Nat) + n) * [IntKind.u8].length ≤ (chg X L).length ∧ n ≤ x.cap) ∧
  (x_1.nl = x_1.nl ∧
      ((0 : Nat) + n) * [IntKind.u8].length ≤ (chg X O).length ∧ n ≤ x_1.cap) ∧
    True)
         (.chk (n ≤ (1000000000 : Nat))
         (.leaf (.v (.one (.bool false (decide
    (sym.cutL
        (pk n n X
          (sym.cutL (chg X L) (0 : Nat) ((0 : Nat) + n)
            [IntKind.u8].length))
        (0 : Nat)
        ((0 : Nat) +
          (pk n n X
              (sym.cutL (chg X L) (0 : Nat) ((0 : Nat) + n)
                [IntKind.u8].length)).length)
        [IntKind.u8].length =
      sym.cutL
        (pk n n X
          (sym.cutL (chg X O) (0 : Nat) ((0 : Nat) + n)
            [IntKind.u8].length))
        (0 : Nat)
        ((0 : Nat) +
          (pk n n X
              (sym.cutL (chg X O) (0 : Nat) ((0 : Nat) + n)
                [IntKind.u8].length)).length)
        [IntKind.u8].length) ==
  decide
    (sym.cutL (chg X L) (0 : Nat) ((0 : Nat) + n)
        [IntKind.u8].length =
      sym.cutL (chg X O) (0 : Nat) ((0 : Nat) + n)
        [IntKind.u8].length))))))))))
         (.leaf (.v (.one (.bool true false)))))
        (.leaf (.v (.one (.bool true false)))))))))))))))))))) := by kernel_rfl
set_option maxHeartbeats 2000000 in
theorem apart_walk (w : World) (A : Option Addr) (X : List Int) (n cap : Nat) (A2 : Option Addr) (L : List Int) (k cap2 : Nat) (A3 : Option Addr) (O : List Int) (l cap3 : Nat) (hX : XR w A [.u8] X n) (hc : n ≤ cap) (hb : Bs X) (hL : XR w A2 [.u16, .u16] L k) (hc2 : k ≤ cap2) (hW : ∀ j, W (L.getD j 0)) (hO : XR w A3 [.u16, .u16] O l) (hc3 : l ≤ cap3) (hW2 : ∀ j, W (O.getD j 0)) : Calls Try.prog 7 #[.slice A n cap, .slice A2 k cap2, .slice A3 l cap3] w fun e w' => e = .returned (.bool true) ∧ Below w.heap.size w w' := by
  refine val_eq base2 (awT_ok w) (preOf_ok tab9_ok w) (loops_none _ _) (apart_tree w A X n cap A2 L k cap2 A3 O l cap3) rfl ?_
  have hn : X.length = n := by simpa using hX.1
  have hg : (chg X L).length = n := by rw [chg_len, hn]
  have hg2 : (chg X O).length = n := by rw [chg_len, hn]
  rw [own_cut hg, own_cut hg2]
  have l1 := pk_len n n X (chg X L)
  have l2 := pk_len n n X (chg X O)
  have e0 : pe n n = 0 := by unfold pe; rw [if_pos rfl]
  have fin : n ≤ 3000 → (AV.v (.one (.bool false (decide (pk n n X (chg X L) = pk n n X (chg X O)) == decide (chg X L = chg X O))))).own = true ∧ (AV.v (.one (.bool false (decide (pk n n X (chg X L) = pk n n X (chg X O)) == decide (chg X L = chg X O))))).γ [] = .bool true := by
    intro hle
    refine ⟨rfl, ?_⟩
    have : (pk n n X (chg X L) = pk n n X (chg X O)) ↔ (chg X L = chg X O) := by
      unfold pk
      rw [if_pos rfl, if_pos rfl]
      exact pack_inj (by omega) (by omega) (by omega)
    simp only [AV.γ, V.γ, Sc.γ, this, beq_self_eq_true]
  simp only [T.holds, e0, own_cut1, Nat.zero_add, List.length_singleton, Nat.mul_one, true_and, and_true, and_self, beq_self_eq_true, decide_true, forall_const, Bool.true_eq_false, false_implies, decide_eq_true_eq, decide_eq_false_iff_not]
  repeat' (first | exact ⟨rfl, rfl⟩ | exact hX | exact hL | exact hO | exact hW | exact hW2 | exact hb | (intro _) | (refine And.intro ?_ ?_))
  all_goals first
    | omega
    | assumption
    | exact RowR.le _
    | exact (fin (by omega)).1
    | exact (fin (by omega)).2
theorem hashes_tree (w : World) (A : Option Addr) (X : List Int) (n cap : Nat) (u x : Int) :
    callV Try.prog w (flatT Try.prog) (ctrOf awT) (preOf w tab9) (noLoop) 20 8 [.v (.one (.xr A [.u8] X n cap)), .v (.one (.int false .u64 u)), .v (.one (.int false .u8 x))] =
(.br (decide ((↑n : Int) > (3000 : Int)))
 (.leaf (.v (.one (.bool true true))))
 (.chk ((sym.XR w A [IntKind.u8] X n ∧ n ≤ cap) ∧ True)
 (.chk (n ≤ (1000000000 : Nat) ∧ Bs X)
 (.br ((↑n : Int) == (0 : Int))
  (.chk ((sym.XR w A [IntKind.u8] X n ∧ n ≤ cap) ∧ True)
  (.chk (n ≤ (1000000000 : Nat) ∧ Bs X)
  (.leaf (.v (.one (.bool false (hashL X == hashL X)))))))
  (.br (x == (0 : Int))
   (.chk ((sym.XR w A [IntKind.u8] X n ∧ n ≤ cap) ∧ True)
   (.chk (n ≤ (1000000000 : Nat) ∧ Bs X)
   (.leaf (.v (.one (.bool false (hashL X == hashL X)))))))
   (.chk ((sym.XR w A [IntKind.u8] X n ∧ n ≤ cap) ∧
  True ∧ ((0 : Nat) + n) * (1 : Nat) ≤ (140737488355328 : Nat))
   (.all fun x_1 : sym.Grown false n ((0 : Nat) + n) =>
    (.chk (IntKind.u64.wrap (↑((0 : Nat) + n) : Int) ≠ (0 : Int))
    (.chk (x_1.nl' = false ∧
  (0 : Int) ≤ IntKind.i64.wrap (u.tmod (IntKind.u64.wrap (↑((0 : Nat) + n) : Int))) ∧
    IntKind.i64.wrap (u.tmod (IntKind.u64.wrap (↑((0 : Nat) + n) : Int))) < (↑((0 : Nat) + n) : Int))
    (.chk (x_1.nl' = false ∧
  ((0 : Nat) + (IntKind.i64.wrap (u.tmod (IntKind.u64.wrap (↑((0 : Nat) + n) : Int)))).toNat) *
        [IntKind.u8].length +
      (1 : Nat) ≤
    ([] ++ X).length)
    (.chk (x_1.nl' = false ∧
  (0 : Int) ≤ IntKind.i64.wrap (u.tmod (IntKind.u64.wrap (↑((0 : Nat) + n) : Int))) ∧
    IntKind.i64.wrap (u.tmod (IntKind.u64.wrap (↑((0 : Nat) + n) : Int))) < (↑((0 : Nat) + n) : Int))
    (.chk (x_1.nl' = false ∧
  ((0 : Nat) + (IntKind.i64.wrap (u.tmod (IntKind.u64.wrap (↑((0 : Nat) + n) : Int)))).toNat) *
        [IntKind.u8].length +
      (0 : Nat) <
    ([] ++ X).length)
    (.chk ((sym.XR w A [IntKind.u8] X n ∧ n ≤ cap) ∧ True)
    (.chk (n ≤ (1000000000 : Nat) ∧ Bs X)
    (.br (hashL X == hashL X)
     (.chk ((x_1.nl' = x_1.nl' ∧
    ((0 : Nat) + ((0 : Nat) + n)) * [IntKind.u8].length ≤
        (([] ++ X).set
            (((0 : Nat) + (IntKind.i64.wrap (u.tmod (IntKind.u64.wrap (↑((0 : Nat) + n) : Int)))).toNat) *
                [IntKind.u8].length +
              (0 : Nat))
            (bits BinOp.xor ([IntKind.u8].getD (0 : Nat) IntKind.u8)
              (([] ++ X).getD
                (((0 : Nat) + (IntKind.i64.wrap (u.tmod (IntKind.u64.wrap (↑((0 : Nat) + n) : Int)))).toNat) *
                    [IntKind.u8].length +
                  (0 : Nat))
                (0 : Int))
              x)).length ∧
      (0 : Nat) + n ≤ x_1.cap) ∧
  True)
     (.chk ((0 : Nat) + n ≤ (1000000000 : Nat) ∧
  Bs
    (sym.cutL
      (([] ++ X).set
        (((0 : Nat) + (IntKind.i64.wrap (u.tmod (IntKind.u64.wrap (↑((0 : Nat) + n) : Int)))).toNat) *
            [IntKind.u8].length +
          (0 : Nat))
        (bits BinOp.xor ([IntKind.u8].getD (0 : Nat) IntKind.u8)
          (([] ++ X).getD
            (((0 : Nat) + (IntKind.i64.wrap (u.tmod (IntKind.u64.wrap (↑((0 : Nat) + n) : Int)))).toNat) *
                [IntKind.u8].length +
              (0 : Nat))
            (0 : Int))
          x))
      (0 : Nat) ((0 : Nat) + ((0 : Nat) + n)) [IntKind.u8].length))
     (.leaf (.v (.one (.bool false (hashL
    (sym.cutL
      (([] ++ X).set
        (((0 : Nat) + (IntKind.i64.wrap (u.tmod (IntKind.u64.wrap (↑((0 : Nat) + n) : Int)))).toNat) *
            [IntKind.u8].length +
          (0 : Nat))
        (bits BinOp.xor ([IntKind.u8].getD (0 : Nat) IntKind.u8)
          (([] ++ X).getD
            (((0 : Nat) + (IntKind.i64.wrap (u.tmod (IntKind.u64.wrap (↑((0 : Nat) + n) : Int)))).toNat) *
                [IntKind.u8].length +
              (0 : Nat))
            (0 : Int))
          x))
      (0 : Nat) ((0 : Nat) + ((0 : Nat) + n)) [IntKind.u8].length) !=
  hashL X)))))))
     (.leaf (.v (.one (.bool true false))))))))))))))))))) := by kernel_rfl
set_option maxHeartbeats 2000000 in
theorem hashes_walk (w : World) (A : Option Addr) (X : List Int) (n cap : Nat) (u x : Int) (hu : 0 ≤ u ∧ u < 18446744073709551616) (hx : B x) (hX : XR w A [.u8] X n) (hc : n ≤ cap) (hb : Bs X) : Calls Try.prog 8 #[.slice A n cap, .int .u64 u, .int .u8 x] w fun e w' => e = .returned (.bool true) ∧ Below w.heap.size w w' := by
  refine val_eq base2 (awT_ok w) (preOf_ok tab9_ok w) (loops_none _ _) (hashes_tree w A X n cap u x) rfl ?_
  have hn : X.length = n := by simpa using hX.1
  by_cases hbig : 3000 < n
  · exact ⟨fun _ => ⟨rfl, rfl⟩, fun h => absurd (of_decide_eq_false h) (by omega)⟩
  have wn : IntKind.u64.wrap ((n : Nat) : Int) = n := by rw [wu64]; omega
  have ut : u.tmod (n : Int) = u % (n : Int) := Int.tmod_eq_emod_of_nonneg hu.1
  by_cases h0 : n = 0
  · subst h0
    simp only [T.holds, beq_self_eq_true, forall_const, Bool.true_eq_false, false_implies, and_true]
    refine ⟨fun _ => ⟨rfl, rfl⟩, fun _ => ⟨⟨hX, hc⟩, ⟨by omega, hb⟩, fun _ => ⟨⟨hX, hc⟩, ⟨by omega, hb⟩, rfl, rfl⟩, fun h => ?_⟩⟩
    simp at h
  have h1 := Int.emod_nonneg u (show (n : Int) ≠ 0 by omega)
  have h2 := Int.emod_lt_of_pos u (show (0 : Int) < n by omega)
  have wq : IntKind.i64.wrap (u % (n : Int)) = u % (n : Int) := wi64 _ (by omega) (by omega)
  simp only [T.holds, List.nil_append, Nat.zero_add, List.length_singleton, Nat.mul_one, Nat.add_zero, wn, ut, wq, show [IntKind.u8].getD 0 IntKind.u8 = IntKind.u8 from rfl]
  generalize hq : (u % (n : Int)).toNat = q at *
  have hql : q < X.length := by omega
  generalize hy : bits BinOp.xor IntKind.u8 (X.getD q 0) x = y
  have hxs : (X.set q y).length = n := by rw [List.length_set, hn]
  have hcut : cutL (X.set q y) 0 n 1 = X.set q y := by
    have := own_cut1 (X.set q y)
    rwa [hxs] at this
  rw [hcut]
  have hyB : B y := by
    subst hy
    have g := hb q
    obtain ⟨a, ha⟩ := Int.eq_ofNat_of_zero_le g.1
    obtain ⟨b, hb'⟩ := Int.eq_ofNat_of_zero_le hx.1
    rw [ha, hb', u8_xor_nat a b (by omega) (by omega)]
    have : a ^^^ b < 2 ^ 8 := Nat.xor_lt_two_pow (n := 8) (by omega) (by omega)
    exact ⟨by omega, by omega⟩
  have hne : x ≠ 0 → y ≠ X.getD q 0 := by
    intro hx0 e
    subst hy
    have g := hb q
    obtain ⟨a, ha⟩ := Int.eq_ofNat_of_zero_le g.1
    obtain ⟨b, hb'⟩ := Int.eq_ofNat_of_zero_le hx.1
    rw [ha, hb', u8_xor_nat a b (by omega) (by omega)] at e
    have e : a ^^^ b = a := by omega
    have e2 := congrArg (a ^^^ ·) e
    simp only [← Nat.xor_assoc, Nat.xor_self, Nat.zero_xor] at e2
    omega
  refine ⟨fun _ => ⟨rfl, rfl⟩, fun _ => ⟨⟨⟨hX, hc⟩, trivial⟩, ⟨by omega, hb⟩, fun _ => ⟨⟨⟨hX, hc⟩, trivial⟩, ⟨by omega, hb⟩, rfl, by simp [AV.γ, V.γ, Sc.γ]⟩, fun _ => ⟨fun _ => ⟨⟨⟨hX, hc⟩, trivial⟩, ⟨by omega, hb⟩, rfl, by simp [AV.γ, V.γ, Sc.γ]⟩, fun hx0 => ⟨⟨⟨hX, hc⟩, trivial, by omega⟩, fun g => ?_⟩⟩⟩⟩
  have hx0 : x ≠ 0 := by simpa using hx0
  have hnl : g.nl' = false := by
    cases hh : g.nl' with
    | false => rfl
    | true => exact absurd (g.nil.1 hh).1 (by decide)
  refine ⟨by omega, ⟨hnl, by omega, by omega⟩, ⟨hnl, by omega⟩, ⟨hnl, by omega, by omega⟩, ⟨hnl, by omega⟩, ⟨⟨hX, hc⟩, trivial⟩, ⟨by omega, hb⟩, fun _ => ⟨⟨⟨trivial, by omega, by have := g.le; omega⟩, trivial⟩, ⟨by omega, hb.set _ hyB⟩, rfl, ?_⟩, fun h => by simp at h⟩
  have := hash_ne hb hql hyB (hne hx0)
  simp only [AV.γ, V.γ, Sc.γ, bne, show (hashL (X.set q y) == hashL X) = false by simpa using this, Bool.not_false]
end Go.Proofs.Ytcfnfihemejjkaa
