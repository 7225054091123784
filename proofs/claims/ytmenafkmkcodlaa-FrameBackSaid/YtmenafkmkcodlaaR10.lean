/-
  Contracts of frames as bytes, and of what a program that does nothing answers wrongly. Bytes are below 256, rows have at most 1000000.
-/
import Derived.Test.YtmenafkmkcodlaaR9
namespace Go.Proofs.Ytmenafkmkcodlaa
open Go.RowKit sym
set_option linter.unusedVariables false
set_option linter.unusedSimpArgs false
set_option maxRecDepth 100000
/-- A frame's bytes. -/
def encX (s : Int) (X : List Int) : List Int := [165, s, (X.length : Int)] ++ X ++ [crcL (s :: (X.length : Int) :: X) / 256, crcL (s :: (X.length : Int) :: X) % 256]
def encC (w0 : World) : FCtr := ⟨10, fun args h => match args, h with
  | [.v (.agg [.int sl .u8 s, .xr A [.u8] X n cap])], [] => some (.chk (XR w0 A [.u8] X n ∧ n ≤ cap ∧ B s ∧ Bs X ∧ n ≤ 1000000) (.br (decide (n > 64)) (.leaf (.tuple [.one .nos, .one (.int false .i64 8)], [])) (.all fun g : RowR (n + 5) => .leaf (.tuple [.one (.gs 1 g.nl 1 0 (n + 5) g.cap), .one (.int false .i64 0)], [⟨[.row g.nl [.u8] (encX s X) g.cap], 5⟩]))))
  | _, _ => none⟩
def rencC (w0 : World) : FCtr := ⟨11, fun args h => match args, h with
  | [.v (.agg [.int sl .u8 s, .xr A [.u8] X n cap])], [] => some (.chk (XR w0 A [.u8] X n ∧ n ≤ cap ∧ B s ∧ Bs X ∧ n ≤ 1000000) (.br (decide (n > 64)) (.leaf (.tuple [.one .nos, .one (.int false .i64 8)], [])) (.all fun g : RowR (n + 5) => .leaf (.tuple [.one (.gs 1 g.nl 1 0 (n + 5) g.cap), .one (.int false .i64 0)], [⟨[.row g.nl [.u8] (encX s X) g.cap], 5⟩]))))
  | _, _ => none⟩
theorem enc_tree (w : World) (L : Nat → Option Obj) (O : Nat → Bool) (sl : Bool) (s : Int) (A : Option Addr) (X : List Int) (n cap : Nat) :
    callT Try.prog w (flatT Try.prog) noCtr (preOr (preOf w tab2) (fpreOf [concatC w, feedC w, framesC, rscanC w, sameFC])) (noLoop) 20 10 [.v (.agg [.int sl .u8 s, .xr A [.u8] X n cap])] [⟨[.keep L O], 0⟩] =
(.br (decide ((↑n : Int) > (64 : Int)))
 (.leaf ((.tuple [(.one .nos), (.one (.int true .i64 (8)))]), [⟨[(.keep (L) (O))], 0⟩, ⟨[(.int (sl) .u8 (s)), (.xr (A) ([IntKind.u8]) (X) (n) (cap))], 29⟩]))
 (.chk ((sym.XR w A [IntKind.u8] X n ∧ n ≤ cap) ∧
  True ∧ ((3 : Nat) + n) * (1 : Nat) ≤ (140737488355328 : Nat))
 (.all fun x : sym.Grown false n ((3 : Nat) + n) =>
  (.chk ((0 : Int) ≤ (1 : Int) ∧ (1 : Int) ≤ (↑((3 : Nat) + n) : Int) ∧ (↑((3 : Nat) + n) : Int) ≤ (↑x.cap : Int))
  (.chk ((x.nl' = x.nl' ∧
    (sym.cutO (0 : Nat) x.cap (1 : Nat) + ((3 : Nat) + n - (1 : Nat))) *
          [IntKind.u8].length ≤
        ([(165 : Int), s, IntKind.u8.wrap (↑n : Int)] ++ X).length ∧
      (3 : Nat) + n - (1 : Nat) ≤ x.cap - (1 : Nat)) ∧
  True)
  (.chk ((3 : Nat) + n - (1 : Nat) ≤ (1000000000 : Nat) ∧
  Bs
    (sym.cutL ([(165 : Int), s, IntKind.u8.wrap (↑n : Int)] ++ X)
      (sym.cutO (0 : Nat) x.cap (1 : Nat))
      (sym.cutO (0 : Nat) x.cap (1 : Nat) + ((3 : Nat) + n - (1 : Nat)))
      [IntKind.u8].length))
  (.chk (True ∧
  (x.nl' = x.nl' ∧
      (0 : Nat) = (0 : Nat) ∧
        x.cap = x.cap ∧
          ((3 : Nat) + n) * [IntKind.u8].length ≤ ([(165 : Int), s, IntKind.u8.wrap (↑n : Int)] ++ X).length ∧
            (3 : Nat) + n ≤ x.cap ∧ x.cap ≤ Go.maxLen ∧ (x.nl' = true → x.cap = (0 : Nat))) ∧
    ((3 : Nat) + n + (2 : Nat)) * (1 : Nat) ≤ (140737488355328 : Nat))
  (.all fun x_1 : sym.Grown x.nl' (2 : Nat) ((3 : Nat) + n + (2 : Nat)) =>
   (.leaf ((.tuple [(.one (.gs 5 (x_1.nl') 1 0 ((3 : Nat) + n + (2 : Nat)) (x_1.cap))), (.one (.int true .i64 (0)))]), [⟨[(.keep (L) (O))], 0⟩, ⟨[(.int (sl) .u8 (s)), (.xr (A) ([IntKind.u8]) (X) (n) (cap))], 29⟩, ⟨[.dead], 5⟩, ⟨[.dead], 5⟩, ⟨[(.int false .u8 (IntKind.u8.wrap
  ((crcL
        (sym.cutL ([(165 : Int), s, IntKind.u8.wrap (↑n : Int)] ++ X)
          (sym.cutO (0 : Nat) x.cap (1 : Nat))
          (sym.cutO (0 : Nat) x.cap (1 : Nat) + ((3 : Nat) + n - (1 : Nat)))
          [IntKind.u8].length)).fdiv
    ((2 : Int) ^ (8 : Nat))))), (.int false .u8 (IntKind.u8.wrap
  (crcL
    (sym.cutL ([(165 : Int), s, IntKind.u8.wrap (↑n : Int)] ++ X)
      (sym.cutO (0 : Nat) x.cap (1 : Nat))
      (sym.cutO (0 : Nat) x.cap (1 : Nat) + ((3 : Nat) + n - (1 : Nat)))
      [IntKind.u8].length))))], 5⟩, ⟨[(.row (x_1.nl') ([IntKind.u8]) (List.take (((3 : Nat) + n) * [IntKind.u8].length) ([(165 : Int), s, IntKind.u8.wrap (↑n : Int)] ++ X) ++
  [IntKind.u8.wrap
      ((crcL
            (sym.cutL ([(165 : Int), s, IntKind.u8.wrap (↑n : Int)] ++ X)
              (sym.cutO (0 : Nat) x.cap (1 : Nat))
              (sym.cutO (0 : Nat) x.cap (1 : Nat) + ((3 : Nat) + n - (1 : Nat)))
              [IntKind.u8].length)).fdiv
        ((2 : Int) ^ (8 : Nat))),
    IntKind.u8.wrap
      (crcL
        (sym.cutL ([(165 : Int), s, IntKind.u8.wrap (↑n : Int)] ++ X)
          (sym.cutO (0 : Nat) x.cap (1 : Nat))
          (sym.cutO (0 : Nat) x.cap (1 : Nat) + ((3 : Nat) + n - (1 : Nat)))
          [IntKind.u8].length))]) (x_1.cap))], 5⟩])))))))))) := by kernel_rfl
theorem renc_tree (w : World) (L : Nat → Option Obj) (O : Nat → Bool) (sl : Bool) (s : Int) (A : Option Addr) (X : List Int) (n cap : Nat) :
    callT Try.prog w (flatT Try.prog) noCtr (preOr (preOf w tab2) (fpreOf [concatC w, feedC w, framesC, rscanC w, sameFC])) (noLoop) 20 11 [.v (.agg [.int sl .u8 s, .xr A [.u8] X n cap])] [⟨[.keep L O], 0⟩] =
(.br (decide ((↑n : Int) > (64 : Int)))
 (.leaf ((.tuple [(.one .nos), (.one (.int true .i64 (8)))]), [⟨[(.keep (L) (O))], 0⟩, ⟨[(.int (sl) .u8 (s)), (.xr (A) ([IntKind.u8]) (X) (n) (cap))], 24⟩]))
 (.chk ((sym.XR w A [IntKind.u8] X n ∧ n ≤ cap) ∧
  True ∧ ((3 : Nat) + n) * (1 : Nat) ≤ (140737488355328 : Nat))
 (.all fun x : sym.Grown false n ((3 : Nat) + n) =>
  (.chk ((0 : Int) ≤ (1 : Int) ∧ (1 : Int) ≤ (↑((3 : Nat) + n) : Int) ∧ (↑((3 : Nat) + n) : Int) ≤ (↑x.cap : Int))
  (.chk ((x.nl' = x.nl' ∧
    (sym.cutO (0 : Nat) x.cap (1 : Nat) + ((3 : Nat) + n - (1 : Nat))) *
          [IntKind.u8].length ≤
        ([(165 : Int), s, IntKind.u8.wrap (↑n : Int)] ++ X).length ∧
      (3 : Nat) + n - (1 : Nat) ≤ x.cap - (1 : Nat)) ∧
  True)
  (.chk ((3 : Nat) + n - (1 : Nat) ≤ (1000000000 : Nat) ∧
  Bs
    (sym.cutL ([(165 : Int), s, IntKind.u8.wrap (↑n : Int)] ++ X)
      (sym.cutO (0 : Nat) x.cap (1 : Nat))
      (sym.cutO (0 : Nat) x.cap (1 : Nat) + ((3 : Nat) + n - (1 : Nat)))
      [IntKind.u8].length))
  (.chk (True ∧
  (x.nl' = x.nl' ∧
      (0 : Nat) = (0 : Nat) ∧
        x.cap = x.cap ∧
          ((3 : Nat) + n) * [IntKind.u8].length ≤ ([(165 : Int), s, IntKind.u8.wrap (↑n : Int)] ++ X).length ∧
            (3 : Nat) + n ≤ x.cap ∧ x.cap ≤ Go.maxLen ∧ (x.nl' = true → x.cap = (0 : Nat))) ∧
    ((3 : Nat) + n + (2 : Nat)) * (1 : Nat) ≤ (140737488355328 : Nat))
  (.all fun x_1 : sym.Grown x.nl' (2 : Nat) ((3 : Nat) + n + (2 : Nat)) =>
   (.leaf ((.tuple [(.one (.gs 5 (x_1.nl') 1 0 ((3 : Nat) + n + (2 : Nat)) (x_1.cap))), (.one (.int true .i64 (0)))]), [⟨[(.keep (L) (O))], 0⟩, ⟨[(.int (sl) .u8 (s)), (.xr (A) ([IntKind.u8]) (X) (n) (cap))], 24⟩, ⟨[.dead], 5⟩, ⟨[.dead], 5⟩, ⟨[(.int false .u8 (IntKind.u8.wrap
  (IntKind.u16.wrap
    ((crcL
          (sym.cutL ([(165 : Int), s, IntKind.u8.wrap (↑n : Int)] ++ X)
            (sym.cutO (0 : Nat) x.cap (1 : Nat))
            (sym.cutO (0 : Nat) x.cap (1 : Nat) + ((3 : Nat) + n - (1 : Nat)))
            [IntKind.u8].length)).tdiv
      (256 : Int))))), (.int false .u8 (IntKind.u8.wrap
  ((crcL
        (sym.cutL ([(165 : Int), s, IntKind.u8.wrap (↑n : Int)] ++ X)
          (sym.cutO (0 : Nat) x.cap (1 : Nat))
          (sym.cutO (0 : Nat) x.cap (1 : Nat) + ((3 : Nat) + n - (1 : Nat)))
          [IntKind.u8].length)).tmod
    (256 : Int))))], 5⟩, ⟨[(.row (x_1.nl') ([IntKind.u8]) (List.take (((3 : Nat) + n) * [IntKind.u8].length) ([(165 : Int), s, IntKind.u8.wrap (↑n : Int)] ++ X) ++
  [IntKind.u8.wrap
      (IntKind.u16.wrap
        ((crcL
              (sym.cutL ([(165 : Int), s, IntKind.u8.wrap (↑n : Int)] ++ X)
                (sym.cutO (0 : Nat) x.cap (1 : Nat))
                (sym.cutO (0 : Nat) x.cap (1 : Nat) + ((3 : Nat) + n - (1 : Nat)))
                [IntKind.u8].length)).tdiv
          (256 : Int))),
    IntKind.u8.wrap
      ((crcL
            (sym.cutL ([(165 : Int), s, IntKind.u8.wrap (↑n : Int)] ++ X)
              (sym.cutO (0 : Nat) x.cap (1 : Nat))
              (sym.cutO (0 : Nat) x.cap (1 : Nat) + ((3 : Nat) + n - (1 : Nat)))
              [IntKind.u8].length)).tmod
        (256 : Int))]) (x_1.cap))], 5⟩])))))))))) := by kernel_rfl
theorem awake_tree (w : World) :
    callV Try.prog w (flatT Try.prog) noCtr (preOr (preOf w tab2) (fpreOf [concatC w, feedC w, framesC, rscanC w, sameFC])) (noLoop) 20 9 [] =
(.chk (True ∧ True ∧ (4 : Nat) ≤ (140737488355328 : Nat))
(.all fun x : sym.Grown false (1 : Nat) (4 : Nat) =>
 (.chk ((0 : Int) ≤ (1 : Int) ∧ (1 : Int) ≤ (↑(4 : Nat) : Int) ∧ (↑(4 : Nat) : Int) ≤ (↑x.cap : Int))
 (.chk ((x.nl' = x.nl' ∧
    (sym.cutO (0 : Nat) x.cap (1 : Nat) + (3 : Nat)) * [IntKind.u8].length ≤
        ([(165 : Int), (1 : Int), IntKind.u8.wrap (↑(1 : Nat) : Int)] ++ [(2 : Int)]).length ∧
      (3 : Nat) ≤ x.cap - (1 : Nat)) ∧
  True)
 (.chk ((3 : Nat) ≤ (1000000000 : Nat) ∧
  Bs
    (sym.cutL
      ([(165 : Int), (1 : Int), IntKind.u8.wrap (↑(1 : Nat) : Int)] ++ [(2 : Int)])
      (sym.cutO (0 : Nat) x.cap (1 : Nat))
      (sym.cutO (0 : Nat) x.cap (1 : Nat) + (3 : Nat)) [IntKind.u8].length))
 (.chk (True ∧
  (x.nl' = x.nl' ∧
      (0 : Nat) = (0 : Nat) ∧
        x.cap = x.cap ∧
          (4 : Nat) ≤ ([(165 : Int), (1 : Int), IntKind.u8.wrap (↑(1 : Nat) : Int)] ++ [(2 : Int)]).length ∧
            (4 : Nat) ≤ x.cap ∧ x.cap ≤ Go.maxLen ∧ (x.nl' = true → x.cap = (0 : Nat))) ∧
    (6 : Nat) ≤ (140737488355328 : Nat))
 (.all fun x_1 : sym.Grown x.nl' (2 : Nat) (6 : Nat) =>
  (.chk (x_1.nl' = x_1.nl' ∧
  (6 : Nat) ≤
      (List.take (4 : Nat) ([(165 : Int), (1 : Int), IntKind.u8.wrap (↑(1 : Nat) : Int)] ++ [(2 : Int)]) ++
          [IntKind.u8.wrap
              ((crcL
                    (sym.cutL
                      ([(165 : Int), (1 : Int), IntKind.u8.wrap (↑(1 : Nat) : Int)] ++ [(2 : Int)])
                      (sym.cutO (0 : Nat) x.cap (1 : Nat))
                      (sym.cutO (0 : Nat) x.cap (1 : Nat) + (3 : Nat))
                      [IntKind.u8].length)).fdiv
                ((2 : Int) ^ (8 : Nat))),
            IntKind.u8.wrap
              (crcL
                (sym.cutL
                  ([(165 : Int), (1 : Int), IntKind.u8.wrap (↑(1 : Nat) : Int)] ++ [(2 : Int)])
                  (sym.cutO (0 : Nat) x.cap (1 : Nat))
                  (sym.cutO (0 : Nat) x.cap (1 : Nat) + (3 : Nat))
                  [IntKind.u8].length))]).length ∧
    (6 : Nat) ≤ x_1.cap ∧
      (6 : Nat) ≤ (1000000 : Nat) ∧
        Bs
            (List.take (4 : Nat) ([(165 : Int), (1 : Int), IntKind.u8.wrap (↑(1 : Nat) : Int)] ++ [(2 : Int)]) ++
              [IntKind.u8.wrap
                  ((crcL
                        (sym.cutL
                          ([(165 : Int), (1 : Int), IntKind.u8.wrap (↑(1 : Nat) : Int)] ++ [(2 : Int)])
                          (sym.cutO (0 : Nat) x.cap (1 : Nat))
                          (sym.cutO (0 : Nat) x.cap (1 : Nat) + (3 : Nat))
                          [IntKind.u8].length)).fdiv
                    ((2 : Int) ^ (8 : Nat))),
                IntKind.u8.wrap
                  (crcL
                    (sym.cutL
                      ([(165 : Int), (1 : Int), IntKind.u8.wrap (↑(1 : Nat) : Int)] ++ [(2 : Int)])
                      (sym.cutO (0 : Nat) x.cap (1 : Nat))
                      (sym.cutO (0 : Nat) x.cap (1 : Nat) + (3 : Nat))
                      [IntKind.u8].length))]) ∧
          (0 : Int) ≤ (0 : Int) ∧ (0 : Int) ≤ (1000000000 : Int))
  (.all fun x_2 : FeedR
  (sym.cutL
    (List.take (4 : Nat) ([(165 : Int), (1 : Int), IntKind.u8.wrap (↑(1 : Nat) : Int)] ++ [(2 : Int)]) ++
      [IntKind.u8.wrap
          ((crcL
                (sym.cutL
                  ([(165 : Int), (1 : Int), IntKind.u8.wrap (↑(1 : Nat) : Int)] ++ [(2 : Int)])
                  (sym.cutO (0 : Nat) x.cap (1 : Nat))
                  (sym.cutO (0 : Nat) x.cap (1 : Nat) + (3 : Nat))
                  [IntKind.u8].length)).fdiv
            ((2 : Int) ^ (8 : Nat))),
        IntKind.u8.wrap
          (crcL
            (sym.cutL
              ([(165 : Int), (1 : Int), IntKind.u8.wrap (↑(1 : Nat) : Int)] ++ [(2 : Int)])
              (sym.cutO (0 : Nat) x.cap (1 : Nat))
              (sym.cutO (0 : Nat) x.cap (1 : Nat) + (3 : Nat)) [IntKind.u8].length))])
    (0 : Nat) (6 : Nat) (1 : Nat)) =>
   (.br ((↑(6 : Nat) : Int) == (6 : Int))
    (.br ((↑x_2.fs.length : Int) == (1 : Int))
     (.chk (x_2.fn = false ∧ (0 : Int) ≤ (0 : Int) ∧ (0 : Int) < (↑x_2.fs.length : Int))
     (.chk (x_2.fn = false ∧ (0 : Nat) < x_2.fs.length)
     (.br ((sym.frAt x_2.fs (0 : Nat)).s == (1 : Int))
      (.all fun x_3 : sym.IzOf
  [(49 : Int), (50 : Int), (51 : Int), (52 : Int), (53 : Int), (54 : Int), (55 : Int), (56 : Int), (57 : Int)] (0 : Nat) =>
       (.chk (([(49 : Int), (50 : Int), (51 : Int), (52 : Int), (53 : Int), (54 : Int), (55 : Int), (56 : Int), (57 : Int)].length ≤
      (9 : Nat) ∧
    ∃ C t fr,
      sym.izL x_3 x_3.b = Option.some (Go.Obj.cells C t fr) ∧
        ∀ (j : Nat),
          j <
              [(49 : Int), (50 : Int), (51 : Int), (52 : Int), (53 : Int), (54 : Int), (55 : Int), (56 : Int),
                  (57 : Int)].length →
            C[(0 : Nat) + j]? =
              Option.some
                (Go.Value.int IntKind.u8
                  ([(49 : Int), (50 : Int), (51 : Int), (52 : Int), (53 : Int), (54 : Int), (55 : Int), (56 : Int),
                        (57 : Int)].getD
                    j (0 : Int)))) ∧
  True)
       (.chk ([(49 : Int), (50 : Int), (51 : Int), (52 : Int), (53 : Int), (54 : Int), (55 : Int), (56 : Int), (57 : Int)].length ≤
    (1000000000 : Nat) ∧
  Bs
    [(49 : Int), (50 : Int), (51 : Int), (52 : Int), (53 : Int), (54 : Int), (55 : Int), (56 : Int), (57 : Int)])
       (.leaf (.v (.one (.bool false true)))))))
      (.leaf (.v (.one (.bool true false)))))))
     (.leaf (.v (.one (.bool true false)))))
    (.leaf (.v (.one (.bool true false)))))))))))))) := by kernel_rfl
theorem enc_cut {s : Int} {X : List Int} {n cap : Nat} (hl : X.length = n) (hc : 3 + n ≤ cap) : sym.cutL ([165, s, (n : Int)] ++ X) (sym.cutO 0 cap 1) (sym.cutO 0 cap 1 + (3 + n - 1)) 1 = s :: (n : Int) :: X ∧ sym.cutO 0 cap 1 + (3 + n - 1) ≤ ([165, s, (n : Int)] ++ X).length := by
  rw [sym.cutO_eq, if_neg (by omega), Nat.zero_add]
  have hL : 1 + (3 + n - 1) = ([165, s, (n : Int)] ++ X).length := by simp [hl]; omega
  rw [hL]
  refine ⟨?_, Nat.le_refl _⟩
  rw [cut_all]
  rfl
theorem encX_length (s : Int) (X : List Int) : (encX s X).length = X.length + 5 := by simp [encX]
theorem encC_ok (w0 : World) : (encC w0).Ok Try.prog w0 := by
  refine fctr_ok base2 (ctrs_none _ _) (pre4_ok w0) (n := 20) fun args h t h0 => ?_
  unfold encC at h0
  simp only at h0
  split at h0
  · rename_i sl s A X n cap
    cases h0
    intro L O K hK
    obtain ⟨⟨hX, hc, hs, hB, big⟩, hK⟩ := hK
    refine ⟨noLoop, loops_none _ _, ?_⟩
    show T.holds (callT Try.prog w0 (flatT Try.prog) noCtr (preOr (preOf w0 tab2) (fpreOf [concatC w0, feedC w0, framesC, rscanC w0, sameFC])) (noLoop) 20 10 [.v (.agg [.int sl .u8 s, .xr A [.u8] X n cap])] [⟨[.keep L O], 0⟩]) _
    rw [enc_tree]
    have hXl : X.length = n := by simpa using hX.1
    refine ⟨fun h => ?_, fun h => ?_⟩
    · have h' : n > 64 := by have := of_decide_eq_true h; omega
      refine ⟨_, _, hK.1 (by simpa using h'), as_end [] ?_ (by kernel_rfl) (fun h => by cases h)⟩
      repeat' (first | exact trivial | exact rfl | (refine And.intro ?_ ?_))
    · have h' : n ≤ 64 := by have := of_decide_eq_false h; omega
      have hK := hK.2 (by simp; omega)
      have wn : IntKind.u8.wrap (n : Int) = (n : Int) := by rw [wu8]; omega
      simp only [wn, List.length_singleton, Nat.mul_one]
      refine ⟨⟨⟨hX, hc⟩, trivial, by omega⟩, fun x => ?_⟩
      obtain ⟨c1, c2⟩ := enc_cut (s := s) hXl x.le
      have hBc : Bs (s :: (n : Int) :: X) := Bs.cons hs (Bs.cons ⟨by omega, by omega⟩ hB)
      dsimp only
      rw [c1]
      have hxl := x.le
      refine ⟨⟨by omega, by omega, by omega⟩, ⟨⟨trivial, c2, by omega⟩, trivial⟩, ⟨by omega, hBc⟩, ⟨trivial, ⟨trivial, trivial, trivial, by simp [hXl]; omega, hxl, x.max, fun h => x.none h⟩, by omega⟩, fun y => ?_⟩
      have hy : y.nl' = true → n + 5 = 0 ∧ y.cap = 0 := fun h => by have := (rowR y).nil h; omega
      obtain ⟨k0, k1⟩ := crcL_W (s :: (n : Int) :: X)
      have htk : (([165, s, (n : Int)] ++ X).take (3 + n)) = [165, s, (n : Int)] ++ X := List.take_of_length_le (by simp [hXl]; omega)
      have f1 : IntKind.u8.wrap ((crcL (s :: (n : Int) :: X)).fdiv (2 ^ 8)) = crcL (s :: (n : Int) :: X) / 256 := by
        rw [Int.fdiv_eq_ediv_of_nonneg _ (by decide), wu8]
        have : (2 : Int) ^ 8 = 256 := rfl
        rw [this]
        omega
      have f2 : IntKind.u8.wrap (crcL (s :: (n : Int) :: X)) = crcL (s :: (n : Int) :: X) % 256 := wu8 _
      have hcont : (([165, s, (n : Int)] ++ X).take (3 + n)) ++ [IntKind.u8.wrap ((crcL (s :: (n : Int) :: X)).fdiv (2 ^ 8)), IntKind.u8.wrap (crcL (s :: (n : Int) :: X))] = encX s X := by
        rw [htk, f1, f2]
        unfold encX
        rw [hXl]
      refine ⟨_, _, hK ⟨y.nl', y.cap, hy, by have := y.le; omega, y.max⟩, as_end [some 5] ?_ (by kernel_rfl) (fun h => by cases h)⟩
      have hlen : 3 + n + 2 = n + 5 := by omega
      repeat' (first | exact trivial | exact rfl | exact hlen | exact hcont | (refine And.intro ?_ ?_))
  · cases h0
theorem rencC_ok (w0 : World) : (rencC w0).Ok Try.prog w0 := by
  refine fctr_ok base2 (ctrs_none _ _) (pre4_ok w0) (n := 20) fun args h t h0 => ?_
  unfold rencC at h0
  simp only at h0
  split at h0
  · rename_i sl s A X n cap
    cases h0
    intro L O K hK
    obtain ⟨⟨hX, hc, hs, hB, big⟩, hK⟩ := hK
    refine ⟨noLoop, loops_none _ _, ?_⟩
    show T.holds (callT Try.prog w0 (flatT Try.prog) noCtr (preOr (preOf w0 tab2) (fpreOf [concatC w0, feedC w0, framesC, rscanC w0, sameFC])) (noLoop) 20 11 [.v (.agg [.int sl .u8 s, .xr A [.u8] X n cap])] [⟨[.keep L O], 0⟩]) _
    rw [renc_tree]
    have hXl : X.length = n := by simpa using hX.1
    refine ⟨fun h => ?_, fun h => ?_⟩
    · have h' : n > 64 := by have := of_decide_eq_true h; omega
      refine ⟨_, _, hK.1 (by simpa using h'), as_end [] ?_ (by kernel_rfl) (fun h => by cases h)⟩
      repeat' (first | exact trivial | exact rfl | (refine And.intro ?_ ?_))
    · have h' : n ≤ 64 := by have := of_decide_eq_false h; omega
      have hK := hK.2 (by simp; omega)
      have wn : IntKind.u8.wrap (n : Int) = (n : Int) := by rw [wu8]; omega
      simp only [wn, List.length_singleton, Nat.mul_one]
      refine ⟨⟨⟨hX, hc⟩, trivial, by omega⟩, fun x => ?_⟩
      obtain ⟨c1, c2⟩ := enc_cut (s := s) hXl x.le
      have hBc : Bs (s :: (n : Int) :: X) := Bs.cons hs (Bs.cons ⟨by omega, by omega⟩ hB)
      dsimp only
      rw [c1]
      have hxl := x.le
      refine ⟨⟨by omega, by omega, by omega⟩, ⟨⟨trivial, c2, by omega⟩, trivial⟩, ⟨by omega, hBc⟩, ⟨trivial, ⟨trivial, trivial, trivial, by simp [hXl]; omega, hxl, x.max, fun h => x.none h⟩, by omega⟩, fun y => ?_⟩
      have hy : y.nl' = true → n + 5 = 0 ∧ y.cap = 0 := fun h => by have := (rowR y).nil h; omega
      obtain ⟨k0, k1⟩ := crcL_W (s :: (n : Int) :: X)
      have htk : (([165, s, (n : Int)] ++ X).take (3 + n)) = [165, s, (n : Int)] ++ X := List.take_of_length_le (by simp [hXl]; omega)
      have f1 : IntKind.u8.wrap (IntKind.u16.wrap ((crcL (s :: (n : Int) :: X)).tdiv 256)) = crcL (s :: (n : Int) :: X) / 256 := by
        rw [Int.tdiv_eq_ediv_of_nonneg k0, wu16, wu8]
        omega
      have f2 : IntKind.u8.wrap ((crcL (s :: (n : Int) :: X)).tmod 256) = crcL (s :: (n : Int) :: X) % 256 := by
        rw [Int.tmod_eq_emod_of_nonneg k0, wu8]
        omega
      have hcont : (([165, s, (n : Int)] ++ X).take (3 + n)) ++ [IntKind.u8.wrap (IntKind.u16.wrap ((crcL (s :: (n : Int) :: X)).tdiv 256)), IntKind.u8.wrap ((crcL (s :: (n : Int) :: X)).tmod 256)] = encX s X := by
        rw [htk, f1, f2]
        unfold encX
        rw [hXl]
      refine ⟨_, _, hK ⟨y.nl', y.cap, hy, by have := y.le; omega, y.max⟩, as_end [some 5] ?_ (by kernel_rfl) (fun h => by cases h)⟩
      have hlen : 3 + n + 2 = n + 5 := by omega
      repeat' (first | exact trivial | exact rfl | exact hlen | exact hcont | (refine And.intro ?_ ?_))
  · cases h0
def awC : Ctr := ⟨9, fun | [] => some (.leaf (.v (.one (.bool true true)))) | _ => none⟩
theorem aw_cut {cap : Nat} (hc : 4 ≤ cap) : sym.cutO 0 cap 1 = 1 := by rw [sym.cutO_eq, if_neg (by omega)]
theorem awC_ok (w0 : World) : awC.ok Try.prog w0 := by
  refine ⟨⟨_, Try.func9, rfl⟩, fun args t ht => ?_⟩
  unfold awC at ht
  simp only at ht
  split at ht
  · cases ht
    refine ⟨rfl, fun K hK => ⟨_, hK, rfl, fun w _ => ?_⟩⟩
    refine val_eq base2 (ctrs_none _ _) (pre4_ok w) (loops_none _ _) (awake_tree w) rfl ?_
    refine ⟨⟨trivial, trivial, by decide⟩, fun x => ?_⟩
    have hx := x.le
    dsimp only
    rw [aw_cut hx]
    have k1 : Bs (sym.cutL ([165, 1, IntKind.u8.wrap ((1 : Nat) : Int)] ++ [2]) 1 (1 + 3) [IntKind.u8].length) := .of fun y hy => by
      have : sym.cutL ([165, 1, IntKind.u8.wrap ((1 : Nat) : Int)] ++ [2]) 1 (1 + 3) [IntKind.u8].length = [1, 1, 2] := by decide +kernel
      rw [this] at hy
      simp at hy
      rcases hy with rfl | rfl <;> exact ⟨by decide, by decide⟩
    have k2 : (List.take 4 ([165, 1, IntKind.u8.wrap ((1 : Nat) : Int)] ++ [2]) ++ [IntKind.u8.wrap ((crcL (sym.cutL ([165, 1, IntKind.u8.wrap ((1 : Nat) : Int)] ++ [2]) 1 (1 + 3) [IntKind.u8].length)).fdiv (2 ^ 8)), IntKind.u8.wrap (crcL (sym.cutL ([165, 1, IntKind.u8.wrap ((1 : Nat) : Int)] ++ [2]) 1 (1 + 3) [IntKind.u8].length))]) = [165, 1, 1, 2, 232, 223] := by decide +kernel
    rw [k2]
    have k3 : Bs [165, 1, 1, 2, 232, 223] := .of fun y hy => by
      simp at hy
      rcases hy with rfl | rfl | rfl | rfl | rfl <;> exact ⟨by decide, by decide⟩
    have k4 : sym.cutL [165, 1, 1, 2, 232, 223] 0 6 1 = [165, 1, 1, 2, 232, 223] := by decide +kernel
    rw [k4]
    have k5 : (scanL [165, 1, 1, 2, 232, 223]).1 = [(1, [2])] := by decide +kernel
    refine ⟨⟨by decide, by decide, by omega⟩, ⟨⟨rfl, by decide, by omega⟩, trivial⟩, ⟨by decide, k1⟩, ⟨trivial, ⟨rfl, rfl, rfl, by decide, hx, x.max, fun h => x.none h⟩, by decide⟩, fun y => ?_⟩
    have hy := y.le
    refine ⟨⟨rfl, by decide, hy, by decide, k3, by decide, by decide⟩, fun r => ?_⟩
    have hr := r.eq
    rw [k5] at hr
    have hl : r.fs.length = 1 := by
      have := congrArg List.length hr
      rwa [pj_length] at this
    have hn : r.fn = false := by
      cases hh : r.fn with
      | false => rfl
      | true => have := (r.fnil hh).1; omega
    have hs : (sym.frAt r.fs 0).s = 1 := by
      have := pj_get (l := r.fs) (j := 0) (by omega)
      rw [hr] at this
      simp at this
      exact this.1.symm
    have fin : (AV.v (.one (.bool false true))).own = true ∧ (AV.v (.one (.bool false true))).γ [] = (AV.v (.one (.bool true true))).γ [] := ⟨rfl, rfl⟩
    have k9 : Bs [49, 50, 51, 52, 53, 54, 55, 56, 57] := .of fun y hy => by
      simp at hy
      rcases hy with rfl | rfl | rfl | rfl | rfl | rfl | rfl | rfl | rfl <;> exact ⟨by decide, by decide⟩
    refine ⟨fun _ => ⟨fun _ => ⟨⟨hn, by decide, by omega⟩, ⟨hn, by omega⟩, fun _ => fun z => ⟨⟨⟨by decide, z.C, z.t, z.fr, by simp [sym.izL], fun j hj => z.it j hj⟩, trivial⟩, ⟨by decide, k9⟩, ?_⟩, fun h => ?_⟩, fun h => ?_⟩, fun h => ?_⟩
    all_goals first | exact fin | skip
    · rw [hs] at h; simp at h
    · rw [hl] at h; simp at h
    · simp at h
  · cases ht
end Go.Proofs.Ytmenafkmkcodlaa
