/-
  Contracts of what a pack comes to, the program's and the document's. Bytes are below 256, at most 16000 of them; no other condition.
-/
import Derived.Test.YtcfnfihemejjkaaR6
namespace Go.Proofs.Ytcfnfihemejjkaa
open Go.RowKit sym
set_option linter.unusedVariables false
set_option linter.unusedSimpArgs false
set_option maxRecDepth 100000
def tab5 : List RCtr := [laidC, packC, equalC]
theorem tab5_ok : ∀ c ∈ tab5, c.Ok Try.prog := fun c hc => by
  simp only [tab5, List.mem_cons, List.not_mem_nil, or_false] at hc
  rcases hc with rfl | rfl | rfl
  · exact laidC_ok
  · exact packC_ok
  · exact equalC_ok
def tab6 : List RCtr := [readC, rpackC]
theorem tab6_ok : ∀ c ∈ tab6, c.Ok Try.prog := fun c hc => by
  simp only [tab6, List.mem_cons, List.not_mem_nil, or_false] at hc
  rcases hc with rfl | rfl
  · exact readC_ok
  · exact rpackC_ok
theorem unpack_tree (w : World) (A : Option Addr) (X : List Int) (n cap : Nat) (A2 : Option Addr) (Y : List Int) (m cap2 : Nat) :
    callT Try.prog w (flatT Try.prog) (noCtr) (preOf w tab5) (noLoop) 20 13 [.v (.one (.xr A [.u8] X n cap)), .v (.one (.xr A2 [.u8] Y m cap2))] [] =
(.chk ((sym.XR w A [IntKind.u8] X n ∧ n ≤ cap) ∧
  (sym.XR w A2 [IntKind.u8] Y m ∧ m ≤ cap2) ∧ True)
(.chk (n ≤ (16000 : Nat) ∧ m ≤ (1000000000 : Nat) ∧ Bs Y)
(.br (decide ((lay false (0 : Nat) X Y).fst = (0 : Int)))
 (.all fun x : RowR n =>
  (.br ((0 : Int) != (0 : Int))
   (.leaf ((.tuple [(.one .nos), (.one (.int false .i64 ((0 : Int))))]), [⟨[(.row (x.nl) ([IntKind.u8]) ((lay false (0 : Nat) X Y).snd) (x.cap))], 5⟩]))
   (.chk ((sym.XR w A [IntKind.u8] X n ∧ n ≤ cap) ∧
  (x.nl = x.nl ∧
      ((0 : Nat) + n) * [IntKind.u8].length ≤ (lay false (0 : Nat) X Y).snd.length ∧
        n ≤ x.cap) ∧
    True)
   (.chk (n ≤ (16000 : Nat))
   (.br (decide (n = n))
    (.all fun x_1 : RowR
  (pack X
      (sym.cutL (lay false (0 : Nat) X Y).snd (0 : Nat)
        ((0 : Nat) + n) [IntKind.u8].length)).length =>
     (.chk ((x_1.nl = x_1.nl ∧
    ((0 : Nat) +
            (pack X
                (sym.cutL (lay false (0 : Nat) X Y).snd
                  (0 : Nat) ((0 : Nat) + n) [IntKind.u8].length)).length) *
          [IntKind.u8].length ≤
        (pack X
            (sym.cutL (lay false (0 : Nat) X Y).snd (0 : Nat)
              ((0 : Nat) + n) [IntKind.u8].length)).length ∧
      (pack X
            (sym.cutL (lay false (0 : Nat) X Y).snd (0 : Nat)
              ((0 : Nat) + n) [IntKind.u8].length)).length ≤
        x_1.cap) ∧
  (sym.XR w A2 [IntKind.u8] Y m ∧ m ≤ cap2) ∧ True)
     (.chk (Bs
    (sym.cutL
      (pack X
        (sym.cutL (lay false (0 : Nat) X Y).snd (0 : Nat)
          ((0 : Nat) + n) [IntKind.u8].length))
      (0 : Nat)
      ((0 : Nat) +
        (pack X
            (sym.cutL (lay false (0 : Nat) X Y).snd (0 : Nat)
              ((0 : Nat) + n) [IntKind.u8].length)).length)
      [IntKind.u8].length) ∧
  Bs Y)
     (.br (!decide
    (sym.cutL
        (pack X
          (sym.cutL (lay false (0 : Nat) X Y).snd (0 : Nat)
            ((0 : Nat) + n) [IntKind.u8].length))
        (0 : Nat)
        ((0 : Nat) +
          (pack X
              (sym.cutL (lay false (0 : Nat) X Y).snd
                (0 : Nat) ((0 : Nat) + n) [IntKind.u8].length)).length)
        [IntKind.u8].length =
      Y))
      (.leaf ((.tuple [(.one .nos), (.one (.int true .i64 (5)))]), [⟨[(.row (x.nl) ([IntKind.u8]) ((lay false (0 : Nat) X Y).snd) (x.cap))], 5⟩, ⟨[(.row (x_1.nl) ([IntKind.u8]) (pack X
  (sym.cutL (lay false (0 : Nat) X Y).snd (0 : Nat)
    ((0 : Nat) + n) [IntKind.u8].length)) (x_1.cap))], 5⟩]))
      (.leaf ((.tuple [(.one (.gs 0 (x.nl) 1 0 (n) (x.cap))), (.one (.int true .i64 (0)))]), [⟨[(.row (x.nl) ([IntKind.u8]) ((lay false (0 : Nat) X Y).snd) (x.cap))], 5⟩, ⟨[(.row (x_1.nl) ([IntKind.u8]) (pack X
  (sym.cutL (lay false (0 : Nat) X Y).snd (0 : Nat)
    ((0 : Nat) + n) [IntKind.u8].length)) (x_1.cap))], 5⟩]))))))
    (.chk ((true = true ∧ (0 : Nat) ≤ ([] : List Int).length ∧ (0 : Nat) ≤ (0 : Nat)) ∧
  (sym.XR w A2 [IntKind.u8] Y m ∧ m ≤ cap2) ∧ True)
    (.chk (Bs (sym.cutL [] (0 : Nat) (0 : Nat) [IntKind.u8].length) ∧
  Bs Y)
    (.br (!decide (sym.cutL [] (0 : Nat) (0 : Nat) [IntKind.u8].length = Y))
     (.leaf ((.tuple [(.one .nos), (.one (.int true .i64 (5)))]), [⟨[(.row (x.nl) ([IntKind.u8]) ((lay false (0 : Nat) X Y).snd) (x.cap))], 5⟩, ⟨[(.row true ([IntKind.u8]) ([]) 0)], 5⟩]))
     (.leaf ((.tuple [(.one (.gs 0 (x.nl) 1 0 (n) (x.cap))), (.one (.int true .i64 (0)))]), [⟨[(.row (x.nl) ([IntKind.u8]) ((lay false (0 : Nat) X Y).snd) (x.cap))], 5⟩, ⟨[(.row true ([IntKind.u8]) ([]) 0)], 5⟩]))))))))))
 (.br ((lay false (0 : Nat) X Y).fst != (0 : Int))
  (.leaf ((.tuple [(.one .nos), (.one (.int false .i64 ((lay false (0 : Nat) X Y).fst)))]), [⟨[(.row true ([IntKind.u8]) ([]) 0)], 5⟩]))
  (.chk ((sym.XR w A [IntKind.u8] X n ∧ n ≤ cap) ∧
  (true = true ∧ (0 : Nat) ≤ ([] : List Int).length ∧ (0 : Nat) ≤ (0 : Nat)) ∧ True)
  (.chk (n ≤ (16000 : Nat))
  (.br (decide (n = (0 : Nat)))
   (.all fun x : RowR
  (pack X
      (sym.cutL [] (0 : Nat) (0 : Nat) [IntKind.u8].length)).length =>
    (.chk ((x.nl = x.nl ∧
    ((0 : Nat) +
            (pack X
                (sym.cutL [] (0 : Nat) (0 : Nat) [IntKind.u8].length)).length) *
          [IntKind.u8].length ≤
        (pack X
            (sym.cutL [] (0 : Nat) (0 : Nat) [IntKind.u8].length)).length ∧
      (pack X
            (sym.cutL [] (0 : Nat) (0 : Nat) [IntKind.u8].length)).length ≤
        x.cap) ∧
  (sym.XR w A2 [IntKind.u8] Y m ∧ m ≤ cap2) ∧ True)
    (.chk (Bs
    (sym.cutL
      (pack X
        (sym.cutL [] (0 : Nat) (0 : Nat) [IntKind.u8].length))
      (0 : Nat)
      ((0 : Nat) +
        (pack X
            (sym.cutL [] (0 : Nat) (0 : Nat) [IntKind.u8].length)).length)
      [IntKind.u8].length) ∧
  Bs Y)
    (.br (!decide
    (sym.cutL
        (pack X
          (sym.cutL [] (0 : Nat) (0 : Nat) [IntKind.u8].length))
        (0 : Nat)
        ((0 : Nat) +
          (pack X
              (sym.cutL [] (0 : Nat) (0 : Nat) [IntKind.u8].length)).length)
        [IntKind.u8].length =
      Y))
     (.leaf ((.tuple [(.one .nos), (.one (.int true .i64 (5)))]), [⟨[(.row true ([IntKind.u8]) ([]) 0)], 5⟩, ⟨[(.row (x.nl) ([IntKind.u8]) (pack X (sym.cutL [] (0 : Nat) (0 : Nat) [IntKind.u8].length)) (x.cap))], 5⟩]))
     (.leaf ((.tuple [(.one (.gs 0 true 1 0 0 0)), (.one (.int true .i64 (0)))]), [⟨[(.row true ([IntKind.u8]) ([]) 0)], 5⟩, ⟨[(.row (x.nl) ([IntKind.u8]) (pack X (sym.cutL [] (0 : Nat) (0 : Nat) [IntKind.u8].length)) (x.cap))], 5⟩]))))))
   (.chk ((true = true ∧ (0 : Nat) ≤ ([] : List Int).length ∧ (0 : Nat) ≤ (0 : Nat)) ∧
  (sym.XR w A2 [IntKind.u8] Y m ∧ m ≤ cap2) ∧ True)
   (.chk (Bs (sym.cutL [] (0 : Nat) (0 : Nat) [IntKind.u8].length) ∧
  Bs Y)
   (.br (!decide (sym.cutL [] (0 : Nat) (0 : Nat) [IntKind.u8].length = Y))
    (.leaf ((.tuple [(.one .nos), (.one (.int true .i64 (5)))]), [⟨[(.row true ([IntKind.u8]) ([]) 0)], 5⟩, ⟨[(.row true ([IntKind.u8]) ([]) 0)], 5⟩]))
    (.leaf ((.tuple [(.one (.gs 0 true 1 0 0 0)), (.one (.int true .i64 (0)))]), [⟨[(.row true ([IntKind.u8]) ([]) 0)], 5⟩, ⟨[(.row true ([IntKind.u8]) ([]) 0)], 5⟩])))))))))))) := by kernel_rfl
def unpackC : RCtr := ⟨13, [some [.u8], some [.u8]], fun | [.row [.u8] n xs, .row [.u8] m ys] => some (.chk (n ≤ 16000 ∧ m ≤ 1000000 ∧ Bs xs ∧ Bs ys) (.br (decide ((unp xs ys).1 = 0)) (.all fun g : RowR n => .leaf [.row g.nl 5 [.u8] (unp xs ys).2 n g.cap, .av (.one (.int false .i64 0))]) (.leaf [.row true 5 [.u8] [] 0 0, .av (.one (.int false .i64 (unp xs ys).1))]))) | _ => none⟩
theorem unpackC_ok : unpackC.Ok Try.prog := by
  refine rctr_ok base2 ⟨_, Try.func13, rfl⟩ (ctr := fun w => noCtr) (fun w => ctrs_none _ w) (pre := fun w => preOf w tab5) (fun w => preOf_ok tab5_ok w) (n := 20) fun w cas args t h ha K hK => ?_
  unfold unpackC at h
  simp only at h
  split at h
  · cases h
    obtain ⟨y0, y1, rfl, q0, q1⟩ := all2_2 ha
    obtain ⟨A, c, rfl, hX, hc⟩ := argRow q0
    obtain ⟨A2, c2, rfl, hY, hc2⟩ := argRow q1
    rename_i n X m Y
    obtain ⟨⟨big, big2, hb1, hb⟩, hK⟩ := hK
    refine ⟨noLoop, loops_none _ _, ?_⟩
    have hn : X.length = n := by simpa using hX.1
    have bad : ∀ (e : Int) (lit : Bool) (h' : List Blk), e ≠ 0 → unp X Y = (e, []) → ∃ rs ys, K rs ∧ AV.tuple [.one .nos, .one (.int lit .i64 e)] = packA ys ∧ All2 (OutIs [.v (.one (.xr A [.u8] X n c)), .v (.one (.xr A2 [.u8] Y m c2))] h') rs ys := by
      intro e lit h' he hl
      exact ⟨_, [_, _], hK.2 (by simp [hl, he]), rfl, .cons .nil (.cons (.av rfl fun _ => by rw [hl]; rfl) .nil)⟩
    rw [show unpackC.f = 13 from rfl, unpack_tree]
    refine ⟨⟨⟨hX, hc⟩, ⟨hY, hc2⟩, trivial⟩, ⟨big, by omega, hb⟩, fun h0 => ?_, fun h0 => ?_⟩
    · have h0 := of_decide_eq_true h0
      have hl : (lay false 0 X Y).2.length = n := by rw [lay_length _ _ _ _ _ (Nat.le_refl _) (Nat.zero_le _) h0, hn]
      have hB : Bs (lay false 0 X Y).2 := lay_B _ _ _ _ _ (Nat.le_refl _) hb1 hb
      intro g
      have hcut : cutL (lay false 0 X Y).2 0 (0 + n) [IntKind.u8].length = (lay false 0 X Y).2 := by
        rw [List.length_singleton, cut1, List.drop_zero, List.take_of_length_le (by omega)]
      have hcut2 : cutL (pack X (lay false 0 X Y).2) 0 (0 + (pack X (lay false 0 X Y).2).length) [IntKind.u8].length = pack X (lay false 0 X Y).2 := by
        rw [List.length_singleton, cut1, List.drop_zero, List.take_of_length_le (by omega)]
      rw [hcut, hcut2]
      simp only [T.holds, List.length_singleton, Nat.mul_one, Nat.zero_add, true_and, and_true, and_self]
      refine ⟨fun h => by simp at h, fun _ => ⟨⟨⟨hX, hc⟩, by omega, g.le⟩, big, fun _ g2 => ⟨⟨⟨Nat.le_refl _, g2.le⟩, hY, hc2⟩, ⟨pack_B _ _ _ (Nat.le_refl _) (by omega) hB, hb⟩, fun h1 => ?_, fun h1 => ?_⟩, fun h => by simp at h⟩⟩
      · have h1 : ¬ pack X (lay false 0 X Y).2 = Y := by simpa using h1
        refine bad 5 true _ (by decide) ?_
        unfold unp
        rw [if_pos h0, if_neg h1]
      · have h1 : pack X (lay false 0 X Y).2 = Y := by simpa using h1
        have hu : unp X Y = (0, (lay false 0 X Y).2) := by
          unfold unp
          rw [if_pos h0, if_pos h1]
        have hK := hK.1 (by simp [hu]) g
        rw [hu] at hK
        exact ⟨_, [_, _], hK, rfl, .cons (.row (r := 0) rfl g.nil) (.cons (.av rfl fun _ => rfl) .nil)⟩
    · have h0 := of_decide_eq_false h0
      have hu : unp X Y = ((lay false 0 X Y).1, []) := by
        unfold unp
        rw [if_neg h0]
      refine ⟨fun _ => bad _ _ _ h0 hu, fun h => ?_⟩
      exact absurd (by simpa using h) h0
  · cases h
theorem winc {j : Nat} (h : j < 1000000000) : IntKind.i64.wrap ((j : Int) + 1) = ((j + 1 : Nat) : Int) := by rw [wi64 _ (by omega) (by omega)]; omega
theorem splice_set {R Z : List Int} {i j : Nat} (hj : j < Z.length) (h : i + j < R.length) : (splice R i (Z.take j)).set (i + j) (Z.getD j 0) = splice R i (Z.take (j + 1)) := by
  unfold splice
  have e1 : (Z.take j).length = j := by rw [List.length_take]; omega
  have e2 : (Z.take (j + 1)).length = j + 1 := by rw [List.length_take]; omega
  have e3 : (R.take i ++ Z.take j).length = i + j := by rw [List.length_append, List.length_take]; omega
  rw [e1, e2, List.set_append_right _ _ (by omega), e3, Nat.sub_self, List.drop_eq_getElem_cons h, List.set_cons_zero, List.take_succ_eq_append_getElem hj, ← Nat.add_assoc]
  have e4 : Z.getD j 0 = Z[j] := by rw [List.getD_eq_getElem?_getD, List.getElem?_eq_getElem hj]; rfl
  rw [e4]
  simp only [List.append_assoc, List.cons_append, List.nil_append]
structure ucP where
  R0 : List Int
  nl : Bool
  r : Nat
  d : Nat
  at_ : Nat
  i : Nat
  t : Nat
  k : Nat
structure ucX where
  R : List Int
  j : Nat
def ucSt (A : Option Addr) (X : List Int) (n cap : Nat) (A2 : Option Addr) (Y : List Int) (m cap2 : Nat) : ucP → ucX → ASt := fun ⟨R0, nl, r, d, at_, i, t, k⟩ ⟨R, j⟩ => ⟨slots (List.replicate 113 .any) [(0, .v (.one (.xr A [.u8] X n cap))), (1, .v (.one (.xr A2 [.u8] Y m cap2))), (6, .v (.one (.gs 1 nl 1 0 r d))), (7, .v (.one (.int false .i64 (at_ : Int)))), (8, .v (.one (.int false .i64 (i : Int)))), (9, .v (.one (.int false .i64 (t : Int)))), (10, .v (.one (.int false .i64 (k : Int)))), (13, .v (.one (.int false .i64 (j : Int))))], [⟨[.dead], 5⟩, ⟨[.row nl [.u8] R d], 5⟩]⟩
def ucFin (A : Option Addr) (X : List Int) (n cap : Nat) (A2 : Option Addr) (Y : List Int) (m cap2 : Nat) : ucP → ucX → ASt := fun ⟨R0, nl, r, d, at_, i, t, k⟩ ⟨R, j⟩ => ⟨slots (List.replicate 113 .any) [(0, .v (.one (.xr A [.u8] X n cap))), (1, .v (.one (.xr A2 [.u8] Y m cap2))), (6, .v (.one (.gs 1 nl 1 0 r d))), (7, .v (.one (.int false .i64 (at_ : Int)))), (8, .v (.one (.int false .i64 (i : Int)))), (9, .v (.one (.int false .i64 (t : Int)))), (10, .v (.one (.int false .i64 (k : Int)))), (13, .v (.one (.int false .i64 (j : Int))))], [⟨[.dead], 5⟩, ⟨[.row nl [.u8] R d], 5⟩]⟩
def ucBck (A : Option Addr) (X : List Int) (n cap : Nat) (A2 : Option Addr) (Y : List Int) (m cap2 : Nat) : ucP → Empty → ASt := fun _ z => nomatch z
def ucNxP : ASt → Option ucP := fun s => match sym.gX s 6 with | none => none | some R0 => match sym.gN s 6 with | none => none | some nl => match sym.gL s 6 with | none => none | some r => match sym.gC s 6 with | none => none | some d => match (sym.gI s 7).map Int.toNat with | none => none | some at_ => match (sym.gI s 8).map Int.toNat with | none => none | some i => match (sym.gI s 9).map Int.toNat with | none => none | some t => match (sym.gI s 10).map Int.toNat with | none => none | some k => some ⟨R0, nl, r, d, at_, i, t, k⟩
def ucNxX : ASt → Option ucX := fun s => match sym.gX s 6 with | none => none | some R => match (sym.gI s 13).map Int.toNat with | none => none | some j => some ⟨R, j⟩
def ucNxZ : ASt → Option Empty := fun _ => none
def ucRo : ASt → List (Option Nat) := (fun _ => [])
def ucRf : ASt → List (Option Nat) := (fun _ => [])
def ucRb : ASt → List (Option Nat) := (fun _ => [])
structure ucInv (A : Option Addr) (X : List Int) (n cap : Nat) (A2 : Option Addr) (Y : List Int) (m cap2 : Nat) (p : ucP) (x : ucX) : Prop where
  j1 : x.j ≤ p.k
  rl : p.R0.length = p.r
  rd : p.r ≤ p.d ∧ p.d ≤ maxLen
  nil : p.nl = true → p.r = 0
  l1 : p.at_ + p.k ≤ p.r
  l2 : p.i + p.k ≤ m
  big : p.r ≤ 16000 ∧ m ≤ 1000000
  eq : x.R = splice p.R0 p.at_ ((Y.drop p.i).take x.j)
structure ucPost (A : Option Addr) (X : List Int) (n cap : Nat) (A2 : Option Addr) (Y : List Int) (m cap2 : Nat) (p : ucP) (x : ucX) : Prop where
  eq : x.R = splice p.R0 p.at_ ((Y.drop p.i).take p.k)
def ucBack (A : Option Addr) (X : List Int) (n cap : Nat) (A2 : Option Addr) (Y : List Int) (m cap2 : Nat) (p : ucP) (x : Empty) : Prop := False
def ucLp (A : Option Addr) (X : List Int) (n cap : Nat) (A2 : Option Addr) (Y : List Int) (m cap2 : Nat) : Lp := ⟨14, 2, fun s => match ucNxP s with
  | some p => match ucNxX s with
    | some x => some (loopT 2 2 false ucRo (ucSt A X n cap A2 Y m cap2 p) (ucFin A X n cap A2 Y m cap2 p) (ucBck A X n cap A2 Y m cap2 p) (ucInv A X n cap A2 Y m cap2 p) (ucPost A X n cap A2 Y m cap2 p) (ucBack A X n cap A2 Y m cap2 p) s x)
    | none => none
  | none => none⟩
theorem ucstep_tree (w : World) (A : Option Addr) (X : List Int) (n cap : Nat) (A2 : Option Addr) (Y : List Int) (m cap2 : Nat) (R0 : List Int) (nl : Bool) (r : Nat) (d : Nat) (at_ : Nat) (i : Nat) (t : Nat) (k : Nat) (R : List Int) (j : Nat) :
    roundT Try.prog w (flatT Try.prog) (noCtr) (callT Try.prog w (flatT Try.prog) (noCtr) (noPre) (noLoop) 20) ((noLoop) 14) (roundOf (bodyAt Try.prog 14 2)) 2 2 ucRo ucRf ucRb (ucSt A X n cap A2 Y m cap2 ⟨R0, nl, r, d, at_, i, t, k⟩) (ucFin A X n cap A2 Y m cap2 ⟨R0, nl, r, d, at_, i, t, k⟩) (ucBck A X n cap A2 Y m cap2 ⟨R0, nl, r, d, at_, i, t, k⟩) ucNxX ucNxX ucNxZ ⟨R, j⟩ =
(.br (decide ((↑j : Int) < (↑k : Int)))
 (.chk (sym.XR w A2 [IntKind.u8] Y m ∧
  (0 : Int) ≤ IntKind.i64.wrap ((↑i : Int) + (↑j : Int)) ∧
    IntKind.i64.wrap ((↑i : Int) + (↑j : Int)) < (↑m : Int) ∧ (0 : Nat) < [IntKind.u8].length)
 (.chk (sym.XC w A2 [IntKind.u8] Y ∧
  (0 : Nat) < (1 : Nat) ∧
    (IntKind.i64.wrap ((↑i : Int) + (↑j : Int))).toNat * [IntKind.u8].length + (1 : Nat) ≤ Y.length)
 (.chk (nl = false ∧
  (0 : Int) ≤ IntKind.i64.wrap ((↑at_ : Int) + (↑j : Int)) ∧
    IntKind.i64.wrap ((↑at_ : Int) + (↑j : Int)) < (↑r : Int))
 (.chk (nl = false ∧
  ((0 : Nat) + (IntKind.i64.wrap ((↑at_ : Int) + (↑j : Int))).toNat) * (1 : Nat) + (0 : Nat) < R.length)
 (.chk (A = A ∧ [IntKind.u8] = [IntKind.u8] ∧ X = X ∧ n = n ∧ cap = cap)
 (.chk (A2 = A2 ∧ [IntKind.u8] = [IntKind.u8] ∧ Y = Y ∧ m = m ∧ cap2 = cap2)
 (.chk (nl = nl ∧ (1 : Nat) = (1 : Nat) ∧ (0 : Nat) = (0 : Nat) ∧ r = r ∧ d = d)
 (.chk (IntKind.i64 = IntKind.i64 ∧ (↑at_ : Int) = (↑at_ : Int))
 (.chk (IntKind.i64 = IntKind.i64 ∧ (↑i : Int) = (↑i : Int))
 (.chk (IntKind.i64 = IntKind.i64 ∧ (↑t : Int) = (↑t : Int))
 (.chk (IntKind.i64 = IntKind.i64 ∧ (↑k : Int) = (↑k : Int))
 (.chk (IntKind.i64 = IntKind.i64 ∧
  IntKind.i64.wrap ((↑j : Int) + (1 : Int)) = (↑(IntKind.i64.wrap ((↑j : Int) + (1 : Int))).toNat : Int))
 (.chk (nl = nl ∧
  [IntKind.u8] = [IntKind.u8] ∧
    R.set (((0 : Nat) + (IntKind.i64.wrap ((↑at_ : Int) + (↑j : Int))).toNat) * (1 : Nat) + (0 : Nat))
          (Y.getD ((IntKind.i64.wrap ((↑i : Int) + (↑j : Int))).toNat * [IntKind.u8].length + (0 : Nat))
            (0 : Int)) =
        R.set (((0 : Nat) + (IntKind.i64.wrap ((↑at_ : Int) + (↑j : Int))).toNat) * (1 : Nat) + (0 : Nat))
          (Y.getD ((IntKind.i64.wrap ((↑i : Int) + (↑j : Int))).toNat * [IntKind.u8].length + (0 : Nat))
            (0 : Int)) ∧
      d = d)
 (.leaf (.inl ⟨R.set (((0 : Nat) + (IntKind.i64.wrap ((↑at_ : Int) + (↑j : Int))).toNat) * (1 : Nat) + (0 : Nat))
  (Y.getD ((IntKind.i64.wrap ((↑i : Int) + (↑j : Int))).toNat * [IntKind.u8].length + (0 : Nat)) (0 : Int)), (IntKind.i64.wrap ((↑j : Int) + (1 : Int))).toNat⟩)))))))))))))))
 (.chk (A = A ∧ [IntKind.u8] = [IntKind.u8] ∧ X = X ∧ n = n ∧ cap = cap)
 (.chk (A2 = A2 ∧ [IntKind.u8] = [IntKind.u8] ∧ Y = Y ∧ m = m ∧ cap2 = cap2)
 (.chk (nl = nl ∧ (1 : Nat) = (1 : Nat) ∧ (0 : Nat) = (0 : Nat) ∧ r = r ∧ d = d)
 (.chk (IntKind.i64 = IntKind.i64 ∧ (↑at_ : Int) = (↑at_ : Int))
 (.chk (IntKind.i64 = IntKind.i64 ∧ (↑i : Int) = (↑i : Int))
 (.chk (IntKind.i64 = IntKind.i64 ∧ (↑t : Int) = (↑t : Int))
 (.chk (IntKind.i64 = IntKind.i64 ∧ (↑k : Int) = (↑k : Int))
 (.chk (IntKind.i64 = IntKind.i64 ∧ (↑j : Int) = (↑(↑j : Int).toNat : Int))
 (.chk (nl = nl ∧ [IntKind.u8] = [IntKind.u8] ∧ R = R ∧ d = d)
 (.leaf (.inr (.inl ⟨R, (↑j : Int).toNat⟩))))))))))))) := by kernel_rfl
def ucMu (A : Option Addr) (X : List Int) (n cap : Nat) (A2 : Option Addr) (Y : List Int) (m cap2 : Nat) (p : ucP) (x : ucX) : Nat := p.k - x.j
theorem uc_step (w : World) (A : Option Addr) (X : List Int) (n cap : Nat) (A2 : Option Addr) (Y : List Int) (m cap2 : Nat) (p : ucP) (x : ucX) (hX : XR w A [.u8] X n) (hY : XR w A2 [.u8] Y m) (hcX : n ≤ cap) (hcY : m ≤ cap2) (hb : Bs Y) (h : ucInv A X n cap A2 Y m cap2 p x) : Hid (roundT Try.prog w (flatT Try.prog) (noCtr) (callT Try.prog w (flatT Try.prog) (noCtr) (noPre) (noLoop) 20) ((noLoop) 14) (roundOf (bodyAt Try.prog 14 2)) 2 2 ucRo ucRf ucRb (ucSt A X n cap A2 Y m cap2 p) (ucFin A X n cap A2 Y m cap2 p) (ucBck A X n cap A2 Y m cap2 p) ucNxX ucNxX ucNxZ x) (Kept (ucInv A X n cap A2 Y m cap2 p) (ucPost A X n cap A2 Y m cap2 p) (ucBack A X n cap A2 Y m cap2 p) (ucMu A X n cap A2 Y m cap2 p) x) := by
  obtain ⟨R0, nl, r, d, at_, i, t, k⟩ := p
  obtain ⟨R, j⟩ := x
  constructor
  rw [ucstep_tree]
  simp only [T.holds, Kept, ucMu, and_self, true_and, and_true]
  obtain ⟨j1, rl, rd, nil, l1, l2, ⟨big, big2⟩, eq⟩ := h
  simp only at j1 rl rd nil l1 l2 big big2 eq
  have hn : X.length = n := by simpa using hX.1
  have hm : Y.length = m := by simpa using hY.1
  simp only [T.holds, List.length_singleton, Int.toNat_natCast, Nat.mul_one, Nat.sub_zero, Nat.zero_add, Nat.add_zero, Nat.zero_mul, List.drop_zero, true_and, and_true, and_self, decide_eq_true_eq, decide_eq_false_iff_not, bne_iff_ne, ne_eq, Bool.not_eq_true, bne_eq_false_iff_eq, not_true_eq_false, false_implies, true_implies, beq_iff_eq, beq_eq_false_iff_ne]
  have w0 := winc (show j < 1000000000 by omega)
  have hset := splice_set (R := R0) (Z := Y.drop i) (i := at_) (j := j)
  refine ⟨fun hlt => ?_, fun hge => ⟨?_⟩⟩
  · have hlt : j < k := by omega
    have w1 := a1 i j (by omega)
    have w2 := a1 at_ j (by omega)
    rw [w0, w1, w2]
    simp only [Int.toNat_natCast]
    have hnl : nl = false := by
      cases nl with
      | false => rfl
      | true => have := nil rfl; omega
    have hR : R.length = r := by rw [eq, splice_length (by rw [List.length_take, List.length_drop]; omega), rl]
    refine ⟨⟨hY, by omega, by omega, by decide⟩, ⟨hY.2, by decide, by omega⟩, ⟨hnl, by omega, by omega⟩, ⟨hnl, by omega⟩, trivial, ⟨by show j + 1 ≤ k; omega, rl, rd, nil, l1, l2, ⟨big, big2⟩, ?_⟩, by omega⟩
    show R.set (at_ + j) (Y.getD (i + j) 0) = _
    rw [eq, ← getD_drop, hset (by rw [List.length_drop]; omega) (by omega)]
  · show R = splice R0 at_ ((Y.drop i).take k)
    rw [eq, show j = k by omega]
theorem ucLp_ok (w : World) (A : Option Addr) (X : List Int) (n cap : Nat) (A2 : Option Addr) (Y : List Int) (m cap2 : Nat) (hX : XR w A [.u8] X n) (hY : XR w A2 [.u8] Y m) (hcX : n ≤ cap) (hcY : m ≤ cap2) (hb : Bs Y) : (ucLp A X n cap A2 Y m cap2).ok Try.prog w := by
  intro s t h
  unfold ucLp at h
  simp only at h
  split at h
  · rename_i p _
    split at h
    · rename_i x _
      cases h
      exact loop_ok base2 (ctrs_none _ w) (callT_ok base2.mixed base2.names base2.eqs (ctrs_none _ w).ok (ctrs_none _ w).there (pre_none _ _) (loops_none _ _) 20) ((loops_none _ _) 14) (c := roundOf (bodyAt Try.prog 14 2)) (by kernel_rfl) (id := 2) (n := 2) (hr := false) (ro := ucRo) (rf := ucRf) (rr := ucRb) (st := ucSt A X n cap A2 Y m cap2 p) (fin := ucFin A X n cap A2 Y m cap2 p) (bck := ucBck A X n cap A2 Y m cap2 p) (inv := ucInv A X n cap A2 Y m cap2 p) (post := ucPost A X n cap A2 Y m cap2 p) (back := ucBack A X n cap A2 Y m cap2 p) (nx := ucNxX) (fx := ucNxX) (bx := ucNxZ) (ucMu A X n cap A2 Y m cap2 p) (nf := 2) (nf' := 2) (nf'' := 2) (fun x => by kernel_rfl) (fun y => by kernel_rfl) (fun z => nomatch z) (.inr fun z => nomatch z) (fun x hx => uc_step w A X n cap A2 Y m cap2 p x hX hY hcX hcY hb hx) s x
    · cases h
  · cases h
structure ueP where
  R : List Int
  nl : Bool
  r : Nat
  d : Nat
  S : List Int
  sn : Nat
  snl : Bool
  sd : Nat
structure ueX where
  j : Nat
structure ueY where
structure ueZ where
def ueSt (A : Option Addr) (X : List Int) (n cap : Nat) (A2 : Option Addr) (Y : List Int) (m cap2 : Nat) : ueP → ueX → ASt := fun ⟨R, nl, r, d, S, sn, snl, sd⟩ ⟨j⟩ => ⟨slots (List.replicate 113 .any) [(1, .v (.one (.xr A2 [.u8] Y m cap2))), (6, .v (.one (.gs 1 nl 1 0 r d))), (14, .v (.one (.gs 2 snl 1 0 sn sd))), (98, .v (.one (.int false .i64 (m : Int)))), (99, .v (.one (.int false .i64 (j : Int))))], [⟨[.dead], 5⟩, ⟨[.row nl [.u8] R d], 5⟩, ⟨[.row snl [.u8] S sd], 5⟩]⟩
def ueFin (A : Option Addr) (X : List Int) (n cap : Nat) (A2 : Option Addr) (Y : List Int) (m cap2 : Nat) : ueP → ueY → ASt := fun ⟨R, nl, r, d, S, sn, snl, sd⟩ ⟨⟩ => ⟨slots (List.replicate 113 .any) [(6, .v (.one (.gs 1 nl 1 0 r d)))], [⟨[.dead], 5⟩, ⟨[.row nl [.u8] R d], 5⟩, ⟨[.dead], 5⟩]⟩
def ueBck (A : Option Addr) (X : List Int) (n cap : Nat) (A2 : Option Addr) (Y : List Int) (m cap2 : Nat) : ueP → ueZ → ASt := fun ⟨R, nl, r, d, S, sn, snl, sd⟩ ⟨⟩ => ⟨slots (List.replicate 113 .any) [(4, .v (.one .nos)), (5, .v (.one (.int true .i64 5)))], [⟨[.dead], 5⟩, ⟨[.dead], 5⟩, ⟨[.dead], 5⟩]⟩
def ueNxP : ASt → Option ueP := fun s => match sym.gX s 6 with | none => none | some R => match sym.gN s 6 with | none => none | some nl => match sym.gL s 6 with | none => none | some r => match sym.gC s 6 with | none => none | some d => match sym.gX s 14 with | none => none | some S => match sym.gL s 14 with | none => none | some sn => match sym.gN s 14 with | none => none | some snl => match sym.gC s 14 with | none => none | some sd => some ⟨R, nl, r, d, S, sn, snl, sd⟩
def ueNxX : ASt → Option ueX := fun s => match (sym.gI s 99).map Int.toNat with | none => none | some j => some ⟨j⟩
def ueNxY : ASt → Option ueY := fun s => some ⟨⟩
def ueNxZ : ASt → Option ueZ := fun s => some ⟨⟩
def ueRo : ASt → List (Option Nat) := (fun _ => [])
def ueRf : ASt → List (Option Nat) := (fun _ => [])
def ueRb : ASt → List (Option Nat) := (fun _ => [])
structure ueInv (A : Option Addr) (X : List Int) (n cap : Nat) (A2 : Option Addr) (Y : List Int) (m cap2 : Nat) (p : ueP) (x : ueX) : Prop where
  j1 : x.j ≤ m
  sl : p.S.length = p.sn
  sm : p.sn = m
  snil : p.snl = true → p.sn = 0
  big : m ≤ 1000000
  eq : ∀ j : Nat, j < x.j → p.S.getD j 0 = Y.getD j 0
structure uePost (A : Option Addr) (X : List Int) (n cap : Nat) (A2 : Option Addr) (Y : List Int) (m cap2 : Nat) (p : ueP) (x : ueY) : Prop where
  eq : p.S = Y
structure ueBack (A : Option Addr) (X : List Int) (n cap : Nat) (A2 : Option Addr) (Y : List Int) (m cap2 : Nat) (p : ueP) (x : ueZ) : Prop where
  ne : p.S ≠ Y
def ueLp (A : Option Addr) (X : List Int) (n cap : Nat) (A2 : Option Addr) (Y : List Int) (m cap2 : Nat) : Lp := ⟨14, 4, fun s => match ueNxP s with
  | some p => match ueNxX s with
    | some x => some (loopT 4 3 true ueRo (ueSt A X n cap A2 Y m cap2 p) (ueFin A X n cap A2 Y m cap2 p) (ueBck A X n cap A2 Y m cap2 p) (ueInv A X n cap A2 Y m cap2 p) (uePost A X n cap A2 Y m cap2 p) (ueBack A X n cap A2 Y m cap2 p) s x)
    | none => none
  | none => none⟩
theorem uestep_tree (w : World) (A : Option Addr) (X : List Int) (n cap : Nat) (A2 : Option Addr) (Y : List Int) (m cap2 : Nat) (R : List Int) (nl : Bool) (r : Nat) (d : Nat) (S : List Int) (sn : Nat) (snl : Bool) (sd : Nat) (j : Nat) :
    roundT Try.prog w (flatT Try.prog) (noCtr) (callT Try.prog w (flatT Try.prog) (noCtr) (noPre) (noLoop) 20) ((noLoop) 14) (roundOf (bodyAt Try.prog 14 4)) 4 3 ueRo ueRf ueRb (ueSt A X n cap A2 Y m cap2 ⟨R, nl, r, d, S, sn, snl, sd⟩) (ueFin A X n cap A2 Y m cap2 ⟨R, nl, r, d, S, sn, snl, sd⟩) (ueBck A X n cap A2 Y m cap2 ⟨R, nl, r, d, S, sn, snl, sd⟩) ueNxX ueNxY ueNxZ ⟨j⟩ =
(.br (decide ((↑j : Int) < (↑m : Int)))
 (.chk (snl = false ∧ (0 : Int) ≤ (↑j : Int) ∧ (↑j : Int) < (↑sn : Int))
 (.chk (snl = false ∧ ((0 : Nat) + (↑j : Int).toNat) * (1 : Nat) + (1 : Nat) ≤ S.length)
 (.chk (sym.XR w A2 [IntKind.u8] Y m ∧
  (0 : Int) ≤ (↑j : Int) ∧ (↑j : Int) < (↑m : Int) ∧ (0 : Nat) < [IntKind.u8].length)
 (.chk (sym.XC w A2 [IntKind.u8] Y ∧
  (0 : Nat) < (1 : Nat) ∧ (↑j : Int).toNat * [IntKind.u8].length + (1 : Nat) ≤ Y.length)
 (.br (S.getD (((0 : Nat) + (↑j : Int).toNat) * (1 : Nat) + (0 : Nat)) (0 : Int) !=
  Y.getD ((↑j : Int).toNat * [IntKind.u8].length + (0 : Nat)) (0 : Int))
  (.chk (IntKind.i64 = IntKind.i64 ∧ (5 : Int) = (5 : Int))
  (.leaf (.inr (.inr ⟨⟩))))
  (.chk (A2 = A2 ∧ [IntKind.u8] = [IntKind.u8] ∧ Y = Y ∧ m = m ∧ cap2 = cap2)
  (.chk (nl = nl ∧ (1 : Nat) = (1 : Nat) ∧ (0 : Nat) = (0 : Nat) ∧ r = r ∧ d = d)
  (.chk (snl = snl ∧ (1 : Nat) = (1 : Nat) ∧ (0 : Nat) = (0 : Nat) ∧ sn = sn ∧ sd = sd)
  (.chk (IntKind.i64 = IntKind.i64 ∧ (↑m : Int) = (↑m : Int))
  (.chk (IntKind.i64 = IntKind.i64 ∧
  IntKind.i64.wrap ((↑j : Int) + (1 : Int)) = (↑(IntKind.i64.wrap ((↑j : Int) + (1 : Int))).toNat : Int))
  (.chk (nl = nl ∧ [IntKind.u8] = [IntKind.u8] ∧ R = R ∧ d = d)
  (.chk (snl = snl ∧ [IntKind.u8] = [IntKind.u8] ∧ S = S ∧ sd = sd)
  (.leaf (.inl ⟨(IntKind.i64.wrap ((↑j : Int) + (1 : Int))).toNat⟩))))))))))))))
 (.chk (nl = nl ∧ (1 : Nat) = (1 : Nat) ∧ (0 : Nat) = (0 : Nat) ∧ r = r ∧ d = d)
 (.chk (nl = nl ∧ [IntKind.u8] = [IntKind.u8] ∧ R = R ∧ d = d)
 (.leaf (.inr (.inl ⟨⟩)))))) := by kernel_rfl
def ueMu (A : Option Addr) (X : List Int) (n cap : Nat) (A2 : Option Addr) (Y : List Int) (m cap2 : Nat) (p : ueP) (x : ueX) : Nat := m - x.j
theorem ue_step (w : World) (A : Option Addr) (X : List Int) (n cap : Nat) (A2 : Option Addr) (Y : List Int) (m cap2 : Nat) (p : ueP) (x : ueX) (hX : XR w A [.u8] X n) (hY : XR w A2 [.u8] Y m) (hcX : n ≤ cap) (hcY : m ≤ cap2) (hb : Bs Y) (h : ueInv A X n cap A2 Y m cap2 p x) : Hid (roundT Try.prog w (flatT Try.prog) (noCtr) (callT Try.prog w (flatT Try.prog) (noCtr) (noPre) (noLoop) 20) ((noLoop) 14) (roundOf (bodyAt Try.prog 14 4)) 4 3 ueRo ueRf ueRb (ueSt A X n cap A2 Y m cap2 p) (ueFin A X n cap A2 Y m cap2 p) (ueBck A X n cap A2 Y m cap2 p) ueNxX ueNxY ueNxZ x) (Kept (ueInv A X n cap A2 Y m cap2 p) (uePost A X n cap A2 Y m cap2 p) (ueBack A X n cap A2 Y m cap2 p) (ueMu A X n cap A2 Y m cap2 p) x) := by
  obtain ⟨R, nl, r, d, S, sn, snl, sd⟩ := p
  obtain ⟨j⟩ := x
  constructor
  rw [uestep_tree]
  simp only [T.holds, Kept, ueMu, and_self, true_and, and_true]
  obtain ⟨j1, sl, sm, snil, big, eq⟩ := h
  simp only at j1 sl sm snil big eq
  have hn : X.length = n := by simpa using hX.1
  have hm : Y.length = m := by simpa using hY.1
  simp only [T.holds, List.length_singleton, Int.toNat_natCast, Nat.mul_one, Nat.sub_zero, Nat.zero_add, Nat.add_zero, Nat.zero_mul, List.drop_zero, true_and, and_true, and_self, decide_eq_true_eq, decide_eq_false_iff_not, bne_iff_ne, ne_eq, Bool.not_eq_true, bne_eq_false_iff_eq, not_true_eq_false, false_implies, true_implies, beq_iff_eq, beq_eq_false_iff_ne]
  have w0 := winc (show j < 1000000000 by omega)
  refine ⟨fun hlt => ?_, fun hge => ⟨by show S = Y; exact ext_getD (by omega) fun i hi => eq i (by omega)⟩⟩
  have hlt : j < m := by omega
  have hnl : snl = false := by
    cases snl with
    | false => rfl
    | true => have := snil rfl; omega
  rw [w0]
  simp only [Int.toNat_natCast]
  refine ⟨⟨hnl, by omega, by omega⟩, ⟨hnl, by omega⟩, ⟨hY, by omega, by omega, by decide⟩, ⟨hY.2, by decide, by omega⟩, fun hne => ⟨?_⟩, fun he => ⟨trivial, ⟨by show j + 1 ≤ m; omega, sl, sm, snil, big, fun i hi => ?_⟩, by omega⟩⟩
  · rintro rfl
    exact hne rfl
  · have hi : i < j + 1 := hi
    by_cases e : i = j
    · rw [e]; exact he
    · exact eq i (by omega)
theorem ueLp_ok (w : World) (A : Option Addr) (X : List Int) (n cap : Nat) (A2 : Option Addr) (Y : List Int) (m cap2 : Nat) (hX : XR w A [.u8] X n) (hY : XR w A2 [.u8] Y m) (hcX : n ≤ cap) (hcY : m ≤ cap2) (hb : Bs Y) : (ueLp A X n cap A2 Y m cap2).ok Try.prog w := by
  intro s t h
  unfold ueLp at h
  simp only at h
  split at h
  · rename_i p _
    split at h
    · rename_i x _
      cases h
      exact loop_ok base2 (ctrs_none _ w) (callT_ok base2.mixed base2.names base2.eqs (ctrs_none _ w).ok (ctrs_none _ w).there (pre_none _ _) (loops_none _ _) 20) ((loops_none _ _) 14) (c := roundOf (bodyAt Try.prog 14 4)) (by kernel_rfl) (id := 4) (n := 3) (hr := true) (ro := ueRo) (rf := ueRf) (rr := ueRb) (st := ueSt A X n cap A2 Y m cap2 p) (fin := ueFin A X n cap A2 Y m cap2 p) (bck := ueBck A X n cap A2 Y m cap2 p) (inv := ueInv A X n cap A2 Y m cap2 p) (post := uePost A X n cap A2 Y m cap2 p) (back := ueBack A X n cap A2 Y m cap2 p) (nx := ueNxX) (fx := ueNxY) (bx := ueNxZ) (ueMu A X n cap A2 Y m cap2 p) (nf := 3) (nf' := 3) (nf'' := 3) (fun x => by kernel_rfl) (fun y => by kernel_rfl) (fun z => by kernel_rfl) (.inl rfl) (fun x hx => ue_step w A X n cap A2 Y m cap2 p x hX hY hcX hcY hb hx) s x
    · cases h
  · cases h
structure umP where
  nl : Bool
  r : Nat
  d : Nat
structure umX where
  R : List Int
  at_ : Nat
  i : Nat
  t : Nat
structure umY where
  R : List Int
  i : Nat
structure umZ where
  e : Int
def umSt (A : Option Addr) (X : List Int) (n cap : Nat) (A2 : Option Addr) (Y : List Int) (m cap2 : Nat) : umP → umX → ASt := fun ⟨nl, r, d⟩ ⟨R, at_, i, t⟩ => ⟨slots (List.replicate 113 .any) [(0, .v (.one (.xr A [.u8] X n cap))), (1, .v (.one (.xr A2 [.u8] Y m cap2))), (6, .v (.one (.gs 1 nl 1 0 r d))), (7, .v (.one (.int false .i64 (at_ : Int)))), (8, .v (.one (.int false .i64 (i : Int)))), (9, .v (.one (.int false .i64 (t : Int))))], [⟨[.dead], 5⟩, ⟨[.row nl [.u8] R d], 5⟩]⟩
def umFin (A : Option Addr) (X : List Int) (n cap : Nat) (A2 : Option Addr) (Y : List Int) (m cap2 : Nat) : umP → umY → ASt := fun ⟨nl, r, d⟩ ⟨R, i⟩ => ⟨slots (List.replicate 113 .any) [(0, .v (.one (.xr A [.u8] X n cap))), (1, .v (.one (.xr A2 [.u8] Y m cap2))), (6, .v (.one (.gs 1 nl 1 0 r d))), (8, .v (.one (.int false .i64 (i : Int))))], [⟨[.dead], 5⟩, ⟨[.row nl [.u8] R d], 5⟩]⟩
def umBck (A : Option Addr) (X : List Int) (n cap : Nat) (A2 : Option Addr) (Y : List Int) (m cap2 : Nat) : umP → umZ → ASt := fun ⟨nl, r, d⟩ ⟨e⟩ => ⟨slots (List.replicate 113 .any) [(4, .v (.one .nos)), (5, .v (.one (.int false .i64 e)))], [⟨[.dead], 5⟩, ⟨[.dead], 5⟩]⟩
def umNxP : ASt → Option umP := fun s => match sym.gN s 6 with | none => none | some nl => match sym.gL s 6 with | none => none | some r => match sym.gC s 6 with | none => none | some d => some ⟨nl, r, d⟩
def umNxX : ASt → Option umX := fun s => match sym.gX s 6 with | none => none | some R => match (sym.gI s 7).map Int.toNat with | none => none | some at_ => match (sym.gI s 8).map Int.toNat with | none => none | some i => match (sym.gI s 9).map Int.toNat with | none => none | some t => some ⟨R, at_, i, t⟩
def umNxY : ASt → Option umY := fun s => match sym.gX s 6 with | none => none | some R => match (sym.gI s 8).map Int.toNat with | none => none | some i => some ⟨R, i⟩
def umNxZ : ASt → Option umZ := fun s => match sym.gI s 5 with | none => none | some e => some ⟨e⟩
def umRo : ASt → List (Option Nat) := (fun _ => [])
def umRf : ASt → List (Option Nat) := (fun _ => [])
def umRb : ASt → List (Option Nat) := (fun _ => [])
structure umInv (A : Option Addr) (X : List Int) (n cap : Nat) (A2 : Option Addr) (Y : List Int) (m cap2 : Nat) (p : umP) (x : umX) : Prop where
  rn : p.r = n
  rl : x.R.length = p.r
  rd : p.r ≤ p.d ∧ p.d ≤ maxLen
  nil : p.nl = true → p.r = 0
  l1 : x.at_ ≤ p.r
  l2 : x.i ≤ m
  l3 : x.t ≤ x.i
  big : p.r ≤ 16000 ∧ m ≤ 1000000
  eq : lay (x.t % 2 == 1) x.at_ x.R (Y.drop x.i) = lay false 0 X Y
structure umPost (A : Option Addr) (X : List Int) (n cap : Nat) (A2 : Option Addr) (Y : List Int) (m cap2 : Nat) (p : umP) (x : umY) : Prop where
  rl : x.R.length = p.r
  l2 : x.i ≤ m
  eq : lay false 0 X Y = if x.i = m then (0, x.R) else (3, [])
structure umBack (A : Option Addr) (X : List Int) (n cap : Nat) (A2 : Option Addr) (Y : List Int) (m cap2 : Nat) (p : umP) (x : umZ) : Prop where
  ne : x.e ≠ 0
  eq : lay false 0 X Y = (x.e, [])
def umLp (A : Option Addr) (X : List Int) (n cap : Nat) (A2 : Option Addr) (Y : List Int) (m cap2 : Nat) : Lp := ⟨14, 0, fun s => match umNxP s with
  | some p => match umNxX s with
    | some x => some (loopT 0 2 true umRo (umSt A X n cap A2 Y m cap2 p) (umFin A X n cap A2 Y m cap2 p) (umBck A X n cap A2 Y m cap2 p) (umInv A X n cap A2 Y m cap2 p) (umPost A X n cap A2 Y m cap2 p) (umBack A X n cap A2 Y m cap2 p) s x)
    | none => none
  | none => none⟩
theorem umstep_tree (w : World) (A : Option Addr) (X : List Int) (n cap : Nat) (A2 : Option Addr) (Y : List Int) (m cap2 : Nat) (nl : Bool) (r : Nat) (d : Nat) (R : List Int) (at_ : Nat) (i : Nat) (t : Nat) :
    roundT Try.prog w (flatT Try.prog) (noCtr) (callT Try.prog w (flatT Try.prog) (noCtr) (preOf w tab6) (lpOf Try.prog [ucLp A X n cap A2 Y m cap2]) 20) ((lpOf Try.prog [ucLp A X n cap A2 Y m cap2]) 14) (roundOf (bodyAt Try.prog 14 0)) 0 2 umRo umRf umRb (umSt A X n cap A2 Y m cap2 ⟨nl, r, d⟩) (umFin A X n cap A2 Y m cap2 ⟨nl, r, d⟩) (umBck A X n cap A2 Y m cap2 ⟨nl, r, d⟩) umNxX umNxY umNxZ ⟨R, at_, i, t⟩ =
(.chk ((0 : Int) ≤ (↑i : Int) ∧ (↑i : Int) ≤ (↑m : Int) ∧ (↑m : Int) ≤ (↑m : Int) ∧ m ≤ cap2)
(.chk ((sym.XR w
      (sym.cutA A2 cap2 (↑i : Int).toNat [IntKind.u8].length) [IntKind.u8]
      (sym.cutL Y (↑i : Int).toNat m [IntKind.u8].length) (m - (↑i : Int).toNat) ∧
    m - (↑i : Int).toNat ≤ cap2 - (↑i : Int).toNat) ∧
  True)
(.chk (m - (↑i : Int).toNat ≤ (1000000000 : Nat) ∧
  Bs (sym.cutL Y (↑i : Int).toNat m [IntKind.u8].length))
(.br (decide
  (gE (sym.cutL Y (↑i : Int).toNat m [IntKind.u8].length) =
    (0 : Int)))
 (.br ((0 : Int) != (0 : Int))
  (.chk (IntKind.i64 = IntKind.i64 ∧ (0 : Int) = (0 : Int))
  (.leaf (.inr (.inr ⟨(0 : Int)⟩))))
  (.br (decide
  ((↑(gN (sym.cutL Y (↑i : Int).toNat m [IntKind.u8].length)) :
      Int) >
    IntKind.i64.wrap ((↑n : Int) - (↑at_ : Int))))
   (.chk (IntKind.i64 = IntKind.i64 ∧ (6 : Int) = (6 : Int))
   (.leaf (.inr (.inr ⟨(6 : Int)⟩))))
   (.br ((↑t : Int).tmod (2 : Int) == (1 : Int))
    (.br (decide
  ((↑(gN (sym.cutL Y (↑i : Int).toNat m [IntKind.u8].length)) :
      Int) >
    IntKind.i64.wrap
      ((↑m : Int) -
        IntKind.i64.wrap
          ((↑i : Int) +
            (↑(gK
                  (sym.cutL Y (↑i : Int).toNat m [IntKind.u8].length)) :
              Int)))))
     (.chk (IntKind.i64 = IntKind.i64 ∧ (2 : Int) = (2 : Int))
     (.leaf (.inr (.inr ⟨(2 : Int)⟩))))
     (.chk (sym.textAt Go.Proofs.Try.prog (14 : Go.FuncId) (2 : Nat) = sym.textAt Go.Proofs.Try.prog (14 : Go.FuncId) (2 : Nat))
     (.chk (A = A ∧ [IntKind.u8] = [IntKind.u8] ∧ X = X ∧ n = n ∧ cap = cap)
     (.chk (A2 = A2 ∧ [IntKind.u8] = [IntKind.u8] ∧ Y = Y ∧ m = m ∧ cap2 = cap2)
     (.chk (nl = nl ∧ (1 : Nat) = (1 : Nat) ∧ (0 : Nat) = (0 : Nat) ∧ r = r ∧ d = d)
     (.chk (IntKind.i64 = IntKind.i64 ∧ (↑at_ : Int) = (↑(↑at_ : Int).toNat : Int))
     (.chk (IntKind.i64 = IntKind.i64 ∧
  IntKind.i64.wrap
      ((↑i : Int) +
        (↑(gK
              (sym.cutL Y (↑i : Int).toNat m [IntKind.u8].length)) :
          Int)) =
    (↑(IntKind.i64.wrap
            ((↑i : Int) +
              (↑(gK
                    (sym.cutL Y (↑i : Int).toNat m [IntKind.u8].length)) :
                Int))).toNat :
      Int))
     (.chk (IntKind.i64 = IntKind.i64 ∧ (↑t : Int) = (↑(↑t : Int).toNat : Int))
     (.chk (IntKind.i64 = IntKind.i64 ∧
  (↑(gN (sym.cutL Y (↑i : Int).toNat m [IntKind.u8].length)) :
      Int) =
    (↑(↑(gN
                (sym.cutL Y (↑i : Int).toNat m [IntKind.u8].length)) :
            Int).toNat :
      Int))
     (.chk (IntKind.i64 = IntKind.i64 ∧ (0 : Int) = (↑(0 : Nat) : Int))
     (.chk (nl = nl ∧ [IntKind.u8] = [IntKind.u8] ∧ R = R ∧ d = d)
     (.chk (ucInv A X n cap A2 Y m cap2
  { R0 := R, nl := nl, r := r, d := d, at_ := (↑at_ : Int).toNat,
    i :=
      (IntKind.i64.wrap
          ((↑i : Int) +
            (↑(gK
                  (sym.cutL Y (↑i : Int).toNat m [IntKind.u8].length)) :
              Int))).toNat,
    t := (↑t : Int).toNat,
    k :=
      (↑(gN
              (sym.cutL Y (↑i : Int).toNat m [IntKind.u8].length)) :
          Int).toNat }
  { R := R, j := (0 : Nat) })
     (.all fun x : sym.Got ucX
  (ucPost A X n cap A2 Y m cap2
    { R0 := R, nl := nl, r := r, d := d, at_ := (↑at_ : Int).toNat,
      i :=
        (IntKind.i64.wrap
            ((↑i : Int) +
              (↑(gK
                    (sym.cutL Y (↑i : Int).toNat m [IntKind.u8].length)) :
                Int))).toNat,
      t := (↑t : Int).toNat,
      k :=
        (↑(gN
                (sym.cutL Y (↑i : Int).toNat m [IntKind.u8].length)) :
            Int).toNat }) =>
      (.br ((↑(↑t : Int).toNat : Int).tmod (2 : Int) == (0 : Int))
       (.br (IntKind.i64.wrap
    ((↑(↑at_ : Int).toNat : Int) +
      (↑(↑(gN
                  (sym.cutL Y (↑i : Int).toNat m [IntKind.u8].length)) :
              Int).toNat :
        Int)) ==
  (↑n : Int))
        (.chk (A = A ∧ [IntKind.u8] = [IntKind.u8] ∧ X = X ∧ n = n ∧ cap = cap)
        (.chk (A2 = A2 ∧ [IntKind.u8] = [IntKind.u8] ∧ Y = Y ∧ m = m ∧ cap2 = cap2)
        (.chk (nl = nl ∧ (1 : Nat) = (1 : Nat) ∧ (0 : Nat) = (0 : Nat) ∧ r = r ∧ d = d)
        (.chk (IntKind.i64 = IntKind.i64 ∧
  IntKind.i64.wrap
      ((↑(IntKind.i64.wrap
                ((↑i : Int) +
                  (↑(gK
                        (sym.cutL Y (↑i : Int).toNat m [IntKind.u8].length)) :
                    Int))).toNat :
          Int) +
        (↑(↑(gN
                    (sym.cutL Y (↑i : Int).toNat m [IntKind.u8].length)) :
                Int).toNat :
          Int)) =
    (↑(IntKind.i64.wrap
            ((↑(IntKind.i64.wrap
                      ((↑i : Int) +
                        (↑(gK
                              (sym.cutL Y (↑i : Int).toNat m [IntKind.u8].length)) :
                          Int))).toNat :
                Int) +
              (↑(↑(gN
                          (sym.cutL Y (↑i : Int).toNat m [IntKind.u8].length)) :
                      Int).toNat :
                Int))).toNat :
      Int))
        (.chk (nl = nl ∧ [IntKind.u8] = [IntKind.u8] ∧ x.1.1 = x.1.1 ∧ d = d)
        (.leaf (.inr (.inl ⟨x.1.1, (IntKind.i64.wrap
    ((↑(IntKind.i64.wrap
              ((↑i : Int) +
                (↑(gK
                      (sym.cutL Y (↑i : Int).toNat m [IntKind.u8].length)) :
                  Int))).toNat :
        Int) +
      (↑(↑(gN
                  (sym.cutL Y (↑i : Int).toNat m [IntKind.u8].length)) :
              Int).toNat :
        Int))).toNat⟩))))))))
        (.chk (A = A ∧ [IntKind.u8] = [IntKind.u8] ∧ X = X ∧ n = n ∧ cap = cap)
        (.chk (A2 = A2 ∧ [IntKind.u8] = [IntKind.u8] ∧ Y = Y ∧ m = m ∧ cap2 = cap2)
        (.chk (nl = nl ∧ (1 : Nat) = (1 : Nat) ∧ (0 : Nat) = (0 : Nat) ∧ r = r ∧ d = d)
        (.chk (IntKind.i64 = IntKind.i64 ∧
  IntKind.i64.wrap
      ((↑(↑at_ : Int).toNat : Int) +
        (↑(↑(gN
                    (sym.cutL Y (↑i : Int).toNat m [IntKind.u8].length)) :
                Int).toNat :
          Int)) =
    (↑(IntKind.i64.wrap
            ((↑(↑at_ : Int).toNat : Int) +
              (↑(↑(gN
                          (sym.cutL Y (↑i : Int).toNat m [IntKind.u8].length)) :
                      Int).toNat :
                Int))).toNat :
      Int))
        (.chk (IntKind.i64 = IntKind.i64 ∧
  IntKind.i64.wrap
      ((↑(IntKind.i64.wrap
                ((↑i : Int) +
                  (↑(gK
                        (sym.cutL Y (↑i : Int).toNat m [IntKind.u8].length)) :
                    Int))).toNat :
          Int) +
        (↑(↑(gN
                    (sym.cutL Y (↑i : Int).toNat m [IntKind.u8].length)) :
                Int).toNat :
          Int)) =
    (↑(IntKind.i64.wrap
            ((↑(IntKind.i64.wrap
                      ((↑i : Int) +
                        (↑(gK
                              (sym.cutL Y (↑i : Int).toNat m [IntKind.u8].length)) :
                          Int))).toNat :
                Int) +
              (↑(↑(gN
                          (sym.cutL Y (↑i : Int).toNat m [IntKind.u8].length)) :
                      Int).toNat :
                Int))).toNat :
      Int))
        (.chk (IntKind.i64 = IntKind.i64 ∧
  IntKind.i64.wrap ((↑(↑t : Int).toNat : Int) + (1 : Int)) =
    (↑(IntKind.i64.wrap ((↑(↑t : Int).toNat : Int) + (1 : Int))).toNat : Int))
        (.chk (nl = nl ∧ [IntKind.u8] = [IntKind.u8] ∧ x.1.1 = x.1.1 ∧ d = d)
        (.leaf (.inl ⟨x.1.1, (IntKind.i64.wrap
    ((↑(↑at_ : Int).toNat : Int) +
      (↑(↑(gN
                  (sym.cutL Y (↑i : Int).toNat m [IntKind.u8].length)) :
              Int).toNat :
        Int))).toNat, (IntKind.i64.wrap
    ((↑(IntKind.i64.wrap
              ((↑i : Int) +
                (↑(gK
                      (sym.cutL Y (↑i : Int).toNat m [IntKind.u8].length)) :
                  Int))).toNat :
        Int) +
      (↑(↑(gN
                  (sym.cutL Y (↑i : Int).toNat m [IntKind.u8].length)) :
              Int).toNat :
        Int))).toNat, (IntKind.i64.wrap ((↑(↑t : Int).toNat : Int) + (1 : Int))).toNat⟩))))))))))
       (.chk (A = A ∧ [IntKind.u8] = [IntKind.u8] ∧ X = X ∧ n = n ∧ cap = cap)
       (.chk (A2 = A2 ∧ [IntKind.u8] = [IntKind.u8] ∧ Y = Y ∧ m = m ∧ cap2 = cap2)
       (.chk (nl = nl ∧ (1 : Nat) = (1 : Nat) ∧ (0 : Nat) = (0 : Nat) ∧ r = r ∧ d = d)
       (.chk (IntKind.i64 = IntKind.i64 ∧
  IntKind.i64.wrap
      ((↑(↑at_ : Int).toNat : Int) +
        (↑(↑(gN
                    (sym.cutL Y (↑i : Int).toNat m [IntKind.u8].length)) :
                Int).toNat :
          Int)) =
    (↑(IntKind.i64.wrap
            ((↑(↑at_ : Int).toNat : Int) +
              (↑(↑(gN
                          (sym.cutL Y (↑i : Int).toNat m [IntKind.u8].length)) :
                      Int).toNat :
                Int))).toNat :
      Int))
       (.chk (IntKind.i64 = IntKind.i64 ∧
  IntKind.i64.wrap
      ((↑(IntKind.i64.wrap
                ((↑i : Int) +
                  (↑(gK
                        (sym.cutL Y (↑i : Int).toNat m [IntKind.u8].length)) :
                    Int))).toNat :
          Int) +
        (↑(↑(gN
                    (sym.cutL Y (↑i : Int).toNat m [IntKind.u8].length)) :
                Int).toNat :
          Int)) =
    (↑(IntKind.i64.wrap
            ((↑(IntKind.i64.wrap
                      ((↑i : Int) +
                        (↑(gK
                              (sym.cutL Y (↑i : Int).toNat m [IntKind.u8].length)) :
                          Int))).toNat :
                Int) +
              (↑(↑(gN
                          (sym.cutL Y (↑i : Int).toNat m [IntKind.u8].length)) :
                      Int).toNat :
                Int))).toNat :
      Int))
       (.chk (IntKind.i64 = IntKind.i64 ∧
  IntKind.i64.wrap ((↑(↑t : Int).toNat : Int) + (1 : Int)) =
    (↑(IntKind.i64.wrap ((↑(↑t : Int).toNat : Int) + (1 : Int))).toNat : Int))
       (.chk (nl = nl ∧ [IntKind.u8] = [IntKind.u8] ∧ x.1.1 = x.1.1 ∧ d = d)
       (.leaf (.inl ⟨x.1.1, (IntKind.i64.wrap
    ((↑(↑at_ : Int).toNat : Int) +
      (↑(↑(gN
                  (sym.cutL Y (↑i : Int).toNat m [IntKind.u8].length)) :
              Int).toNat :
        Int))).toNat, (IntKind.i64.wrap
    ((↑(IntKind.i64.wrap
              ((↑i : Int) +
                (↑(gK
                      (sym.cutL Y (↑i : Int).toNat m [IntKind.u8].length)) :
                  Int))).toNat :
        Int) +
      (↑(↑(gN
                  (sym.cutL Y (↑i : Int).toNat m [IntKind.u8].length)) :
              Int).toNat :
        Int))).toNat, (IntKind.i64.wrap ((↑(↑t : Int).toNat : Int) + (1 : Int))).toNat⟩)))))))))))))))))))))))
    (.br ((↑t : Int).tmod (2 : Int) == (0 : Int))
     (.br (IntKind.i64.wrap
    ((↑at_ : Int) +
      (↑(gN
            (sym.cutL Y (↑i : Int).toNat m [IntKind.u8].length)) :
        Int)) ==
  (↑n : Int))
      (.chk (A = A ∧ [IntKind.u8] = [IntKind.u8] ∧ X = X ∧ n = n ∧ cap = cap)
      (.chk (A2 = A2 ∧ [IntKind.u8] = [IntKind.u8] ∧ Y = Y ∧ m = m ∧ cap2 = cap2)
      (.chk (nl = nl ∧ (1 : Nat) = (1 : Nat) ∧ (0 : Nat) = (0 : Nat) ∧ r = r ∧ d = d)
      (.chk (IntKind.i64 = IntKind.i64 ∧
  IntKind.i64.wrap
      ((↑i : Int) +
        (↑(gK
              (sym.cutL Y (↑i : Int).toNat m [IntKind.u8].length)) :
          Int)) =
    (↑(IntKind.i64.wrap
            ((↑i : Int) +
              (↑(gK
                    (sym.cutL Y (↑i : Int).toNat m [IntKind.u8].length)) :
                Int))).toNat :
      Int))
      (.chk (nl = nl ∧ [IntKind.u8] = [IntKind.u8] ∧ R = R ∧ d = d)
      (.leaf (.inr (.inl ⟨R, (IntKind.i64.wrap
    ((↑i : Int) +
      (↑(gK
            (sym.cutL Y (↑i : Int).toNat m [IntKind.u8].length)) :
        Int))).toNat⟩))))))))
      (.chk (A = A ∧ [IntKind.u8] = [IntKind.u8] ∧ X = X ∧ n = n ∧ cap = cap)
      (.chk (A2 = A2 ∧ [IntKind.u8] = [IntKind.u8] ∧ Y = Y ∧ m = m ∧ cap2 = cap2)
      (.chk (nl = nl ∧ (1 : Nat) = (1 : Nat) ∧ (0 : Nat) = (0 : Nat) ∧ r = r ∧ d = d)
      (.chk (IntKind.i64 = IntKind.i64 ∧
  IntKind.i64.wrap
      ((↑at_ : Int) +
        (↑(gN
              (sym.cutL Y (↑i : Int).toNat m [IntKind.u8].length)) :
          Int)) =
    (↑(IntKind.i64.wrap
            ((↑at_ : Int) +
              (↑(gN
                    (sym.cutL Y (↑i : Int).toNat m [IntKind.u8].length)) :
                Int))).toNat :
      Int))
      (.chk (IntKind.i64 = IntKind.i64 ∧
  IntKind.i64.wrap
      ((↑i : Int) +
        (↑(gK
              (sym.cutL Y (↑i : Int).toNat m [IntKind.u8].length)) :
          Int)) =
    (↑(IntKind.i64.wrap
            ((↑i : Int) +
              (↑(gK
                    (sym.cutL Y (↑i : Int).toNat m [IntKind.u8].length)) :
                Int))).toNat :
      Int))
      (.chk (IntKind.i64 = IntKind.i64 ∧
  IntKind.i64.wrap ((↑t : Int) + (1 : Int)) = (↑(IntKind.i64.wrap ((↑t : Int) + (1 : Int))).toNat : Int))
      (.chk (nl = nl ∧ [IntKind.u8] = [IntKind.u8] ∧ R = R ∧ d = d)
      (.leaf (.inl ⟨R, (IntKind.i64.wrap
    ((↑at_ : Int) +
      (↑(gN
            (sym.cutL Y (↑i : Int).toNat m [IntKind.u8].length)) :
        Int))).toNat, (IntKind.i64.wrap
    ((↑i : Int) +
      (↑(gK
            (sym.cutL Y (↑i : Int).toNat m [IntKind.u8].length)) :
        Int))).toNat, (IntKind.i64.wrap ((↑t : Int) + (1 : Int))).toNat⟩))))))))))
     (.chk (A = A ∧ [IntKind.u8] = [IntKind.u8] ∧ X = X ∧ n = n ∧ cap = cap)
     (.chk (A2 = A2 ∧ [IntKind.u8] = [IntKind.u8] ∧ Y = Y ∧ m = m ∧ cap2 = cap2)
     (.chk (nl = nl ∧ (1 : Nat) = (1 : Nat) ∧ (0 : Nat) = (0 : Nat) ∧ r = r ∧ d = d)
     (.chk (IntKind.i64 = IntKind.i64 ∧
  IntKind.i64.wrap
      ((↑at_ : Int) +
        (↑(gN
              (sym.cutL Y (↑i : Int).toNat m [IntKind.u8].length)) :
          Int)) =
    (↑(IntKind.i64.wrap
            ((↑at_ : Int) +
              (↑(gN
                    (sym.cutL Y (↑i : Int).toNat m [IntKind.u8].length)) :
                Int))).toNat :
      Int))
     (.chk (IntKind.i64 = IntKind.i64 ∧
  IntKind.i64.wrap
      ((↑i : Int) +
        (↑(gK
              (sym.cutL Y (↑i : Int).toNat m [IntKind.u8].length)) :
          Int)) =
    (↑(IntKind.i64.wrap
            ((↑i : Int) +
              (↑(gK
                    (sym.cutL Y (↑i : Int).toNat m [IntKind.u8].length)) :
                Int))).toNat :
      Int))
     (.chk (IntKind.i64 = IntKind.i64 ∧
  IntKind.i64.wrap ((↑t : Int) + (1 : Int)) = (↑(IntKind.i64.wrap ((↑t : Int) + (1 : Int))).toNat : Int))
     (.chk (nl = nl ∧ [IntKind.u8] = [IntKind.u8] ∧ R = R ∧ d = d)
     (.leaf (.inl ⟨R, (IntKind.i64.wrap
    ((↑at_ : Int) +
      (↑(gN
            (sym.cutL Y (↑i : Int).toNat m [IntKind.u8].length)) :
        Int))).toNat, (IntKind.i64.wrap
    ((↑i : Int) +
      (↑(gK
            (sym.cutL Y (↑i : Int).toNat m [IntKind.u8].length)) :
        Int))).toNat, (IntKind.i64.wrap ((↑t : Int) + (1 : Int))).toNat⟩)))))))))))))
 (.br (gE (sym.cutL Y (↑i : Int).toNat m [IntKind.u8].length) !=
  (0 : Int))
  (.chk (IntKind.i64 = IntKind.i64 ∧
  gE (sym.cutL Y (↑i : Int).toNat m [IntKind.u8].length) =
    gE (sym.cutL Y (↑i : Int).toNat m [IntKind.u8].length))
  (.leaf (.inr (.inr ⟨gE (sym.cutL Y (↑i : Int).toNat m [IntKind.u8].length)⟩))))
  (.br (decide ((0 : Int) > IntKind.i64.wrap ((↑n : Int) - (↑at_ : Int))))
   (.chk (IntKind.i64 = IntKind.i64 ∧ (6 : Int) = (6 : Int))
   (.leaf (.inr (.inr ⟨(6 : Int)⟩))))
   (.br ((↑t : Int).tmod (2 : Int) == (1 : Int))
    (.br (decide ((0 : Int) > IntKind.i64.wrap ((↑m : Int) - IntKind.i64.wrap ((↑i : Int) + (0 : Int)))))
     (.chk (IntKind.i64 = IntKind.i64 ∧ (2 : Int) = (2 : Int))
     (.leaf (.inr (.inr ⟨(2 : Int)⟩))))
     (.chk (sym.textAt Go.Proofs.Try.prog (14 : Go.FuncId) (2 : Nat) = sym.textAt Go.Proofs.Try.prog (14 : Go.FuncId) (2 : Nat))
     (.chk (A = A ∧ [IntKind.u8] = [IntKind.u8] ∧ X = X ∧ n = n ∧ cap = cap)
     (.chk (A2 = A2 ∧ [IntKind.u8] = [IntKind.u8] ∧ Y = Y ∧ m = m ∧ cap2 = cap2)
     (.chk (nl = nl ∧ (1 : Nat) = (1 : Nat) ∧ (0 : Nat) = (0 : Nat) ∧ r = r ∧ d = d)
     (.chk (IntKind.i64 = IntKind.i64 ∧ (↑at_ : Int) = (↑(↑at_ : Int).toNat : Int))
     (.chk (IntKind.i64 = IntKind.i64 ∧
  IntKind.i64.wrap ((↑i : Int) + (0 : Int)) = (↑(IntKind.i64.wrap ((↑i : Int) + (0 : Int))).toNat : Int))
     (.chk (IntKind.i64 = IntKind.i64 ∧ (↑t : Int) = (↑(↑t : Int).toNat : Int))
     (.chk (IntKind.i64 = IntKind.i64 ∧ (0 : Int) = (↑(0 : Nat) : Int))
     (.chk (IntKind.i64 = IntKind.i64 ∧ (0 : Int) = (↑(0 : Nat) : Int))
     (.chk (nl = nl ∧ [IntKind.u8] = [IntKind.u8] ∧ R = R ∧ d = d)
     (.chk (ucInv A X n cap A2 Y m cap2
  { R0 := R, nl := nl, r := r, d := d, at_ := (↑at_ : Int).toNat,
    i := (IntKind.i64.wrap ((↑i : Int) + (0 : Int))).toNat, t := (↑t : Int).toNat, k := (0 : Nat) }
  { R := R, j := (0 : Nat) })
     (.all fun x : sym.Got ucX
  (ucPost A X n cap A2 Y m cap2
    { R0 := R, nl := nl, r := r, d := d, at_ := (↑at_ : Int).toNat,
      i := (IntKind.i64.wrap ((↑i : Int) + (0 : Int))).toNat, t := (↑t : Int).toNat, k := (0 : Nat) }) =>
      (.br ((↑(↑t : Int).toNat : Int).tmod (2 : Int) == (0 : Int))
       (.br (IntKind.i64.wrap ((↑(↑at_ : Int).toNat : Int) + (↑(0 : Nat) : Int)) == (↑n : Int))
        (.chk (A = A ∧ [IntKind.u8] = [IntKind.u8] ∧ X = X ∧ n = n ∧ cap = cap)
        (.chk (A2 = A2 ∧ [IntKind.u8] = [IntKind.u8] ∧ Y = Y ∧ m = m ∧ cap2 = cap2)
        (.chk (nl = nl ∧ (1 : Nat) = (1 : Nat) ∧ (0 : Nat) = (0 : Nat) ∧ r = r ∧ d = d)
        (.chk (IntKind.i64 = IntKind.i64 ∧
  IntKind.i64.wrap ((↑(IntKind.i64.wrap ((↑i : Int) + (0 : Int))).toNat : Int) + (↑(0 : Nat) : Int)) =
    (↑(IntKind.i64.wrap ((↑(IntKind.i64.wrap ((↑i : Int) + (0 : Int))).toNat : Int) + (↑(0 : Nat) : Int))).toNat :
      Int))
        (.chk (nl = nl ∧ [IntKind.u8] = [IntKind.u8] ∧ x.1.1 = x.1.1 ∧ d = d)
        (.leaf (.inr (.inl ⟨x.1.1, (IntKind.i64.wrap ((↑(IntKind.i64.wrap ((↑i : Int) + (0 : Int))).toNat : Int) + (↑(0 : Nat) : Int))).toNat⟩))))))))
        (.chk (A = A ∧ [IntKind.u8] = [IntKind.u8] ∧ X = X ∧ n = n ∧ cap = cap)
        (.chk (A2 = A2 ∧ [IntKind.u8] = [IntKind.u8] ∧ Y = Y ∧ m = m ∧ cap2 = cap2)
        (.chk (nl = nl ∧ (1 : Nat) = (1 : Nat) ∧ (0 : Nat) = (0 : Nat) ∧ r = r ∧ d = d)
        (.chk (IntKind.i64 = IntKind.i64 ∧
  IntKind.i64.wrap ((↑(↑at_ : Int).toNat : Int) + (↑(0 : Nat) : Int)) =
    (↑(IntKind.i64.wrap ((↑(↑at_ : Int).toNat : Int) + (↑(0 : Nat) : Int))).toNat : Int))
        (.chk (IntKind.i64 = IntKind.i64 ∧
  IntKind.i64.wrap ((↑(IntKind.i64.wrap ((↑i : Int) + (0 : Int))).toNat : Int) + (↑(0 : Nat) : Int)) =
    (↑(IntKind.i64.wrap ((↑(IntKind.i64.wrap ((↑i : Int) + (0 : Int))).toNat : Int) + (↑(0 : Nat) : Int))).toNat :
      Int))
        (.chk (IntKind.i64 = IntKind.i64 ∧
  IntKind.i64.wrap ((↑(↑t : Int).toNat : Int) + (1 : Int)) =
    (↑(IntKind.i64.wrap ((↑(↑t : Int).toNat : Int) + (1 : Int))).toNat : Int))
        (.chk (nl = nl ∧ [IntKind.u8] = [IntKind.u8] ∧ x.1.1 = x.1.1 ∧ d = d)
        (.leaf (.inl ⟨x.1.1, (IntKind.i64.wrap ((↑(↑at_ : Int).toNat : Int) + (↑(0 : Nat) : Int))).toNat, (IntKind.i64.wrap ((↑(IntKind.i64.wrap ((↑i : Int) + (0 : Int))).toNat : Int) + (↑(0 : Nat) : Int))).toNat, (IntKind.i64.wrap ((↑(↑t : Int).toNat : Int) + (1 : Int))).toNat⟩))))))))))
       (.chk (A = A ∧ [IntKind.u8] = [IntKind.u8] ∧ X = X ∧ n = n ∧ cap = cap)
       (.chk (A2 = A2 ∧ [IntKind.u8] = [IntKind.u8] ∧ Y = Y ∧ m = m ∧ cap2 = cap2)
       (.chk (nl = nl ∧ (1 : Nat) = (1 : Nat) ∧ (0 : Nat) = (0 : Nat) ∧ r = r ∧ d = d)
       (.chk (IntKind.i64 = IntKind.i64 ∧
  IntKind.i64.wrap ((↑(↑at_ : Int).toNat : Int) + (↑(0 : Nat) : Int)) =
    (↑(IntKind.i64.wrap ((↑(↑at_ : Int).toNat : Int) + (↑(0 : Nat) : Int))).toNat : Int))
       (.chk (IntKind.i64 = IntKind.i64 ∧
  IntKind.i64.wrap ((↑(IntKind.i64.wrap ((↑i : Int) + (0 : Int))).toNat : Int) + (↑(0 : Nat) : Int)) =
    (↑(IntKind.i64.wrap ((↑(IntKind.i64.wrap ((↑i : Int) + (0 : Int))).toNat : Int) + (↑(0 : Nat) : Int))).toNat :
      Int))
       (.chk (IntKind.i64 = IntKind.i64 ∧
  IntKind.i64.wrap ((↑(↑t : Int).toNat : Int) + (1 : Int)) =
    (↑(IntKind.i64.wrap ((↑(↑t : Int).toNat : Int) + (1 : Int))).toNat : Int))
       (.chk (nl = nl ∧ [IntKind.u8] = [IntKind.u8] ∧ x.1.1 = x.1.1 ∧ d = d)
       (.leaf (.inl ⟨x.1.1, (IntKind.i64.wrap ((↑(↑at_ : Int).toNat : Int) + (↑(0 : Nat) : Int))).toNat, (IntKind.i64.wrap ((↑(IntKind.i64.wrap ((↑i : Int) + (0 : Int))).toNat : Int) + (↑(0 : Nat) : Int))).toNat, (IntKind.i64.wrap ((↑(↑t : Int).toNat : Int) + (1 : Int))).toNat⟩)))))))))))))))))))))))
    (.br ((↑t : Int).tmod (2 : Int) == (0 : Int))
     (.br (IntKind.i64.wrap ((↑at_ : Int) + (0 : Int)) == (↑n : Int))
      (.chk (A = A ∧ [IntKind.u8] = [IntKind.u8] ∧ X = X ∧ n = n ∧ cap = cap)
      (.chk (A2 = A2 ∧ [IntKind.u8] = [IntKind.u8] ∧ Y = Y ∧ m = m ∧ cap2 = cap2)
      (.chk (nl = nl ∧ (1 : Nat) = (1 : Nat) ∧ (0 : Nat) = (0 : Nat) ∧ r = r ∧ d = d)
      (.chk (IntKind.i64 = IntKind.i64 ∧
  IntKind.i64.wrap ((↑i : Int) + (0 : Int)) = (↑(IntKind.i64.wrap ((↑i : Int) + (0 : Int))).toNat : Int))
      (.chk (nl = nl ∧ [IntKind.u8] = [IntKind.u8] ∧ R = R ∧ d = d)
      (.leaf (.inr (.inl ⟨R, (IntKind.i64.wrap ((↑i : Int) + (0 : Int))).toNat⟩))))))))
      (.chk (A = A ∧ [IntKind.u8] = [IntKind.u8] ∧ X = X ∧ n = n ∧ cap = cap)
      (.chk (A2 = A2 ∧ [IntKind.u8] = [IntKind.u8] ∧ Y = Y ∧ m = m ∧ cap2 = cap2)
      (.chk (nl = nl ∧ (1 : Nat) = (1 : Nat) ∧ (0 : Nat) = (0 : Nat) ∧ r = r ∧ d = d)
      (.chk (IntKind.i64 = IntKind.i64 ∧
  IntKind.i64.wrap ((↑at_ : Int) + (0 : Int)) = (↑(IntKind.i64.wrap ((↑at_ : Int) + (0 : Int))).toNat : Int))
      (.chk (IntKind.i64 = IntKind.i64 ∧
  IntKind.i64.wrap ((↑i : Int) + (0 : Int)) = (↑(IntKind.i64.wrap ((↑i : Int) + (0 : Int))).toNat : Int))
      (.chk (IntKind.i64 = IntKind.i64 ∧
  IntKind.i64.wrap ((↑t : Int) + (1 : Int)) = (↑(IntKind.i64.wrap ((↑t : Int) + (1 : Int))).toNat : Int))
      (.chk (nl = nl ∧ [IntKind.u8] = [IntKind.u8] ∧ R = R ∧ d = d)
      (.leaf (.inl ⟨R, (IntKind.i64.wrap ((↑at_ : Int) + (0 : Int))).toNat, (IntKind.i64.wrap ((↑i : Int) + (0 : Int))).toNat, (IntKind.i64.wrap ((↑t : Int) + (1 : Int))).toNat⟩))))))))))
     (.chk (A = A ∧ [IntKind.u8] = [IntKind.u8] ∧ X = X ∧ n = n ∧ cap = cap)
     (.chk (A2 = A2 ∧ [IntKind.u8] = [IntKind.u8] ∧ Y = Y ∧ m = m ∧ cap2 = cap2)
     (.chk (nl = nl ∧ (1 : Nat) = (1 : Nat) ∧ (0 : Nat) = (0 : Nat) ∧ r = r ∧ d = d)
     (.chk (IntKind.i64 = IntKind.i64 ∧
  IntKind.i64.wrap ((↑at_ : Int) + (0 : Int)) = (↑(IntKind.i64.wrap ((↑at_ : Int) + (0 : Int))).toNat : Int))
     (.chk (IntKind.i64 = IntKind.i64 ∧
  IntKind.i64.wrap ((↑i : Int) + (0 : Int)) = (↑(IntKind.i64.wrap ((↑i : Int) + (0 : Int))).toNat : Int))
     (.chk (IntKind.i64 = IntKind.i64 ∧
  IntKind.i64.wrap ((↑t : Int) + (1 : Int)) = (↑(IntKind.i64.wrap ((↑t : Int) + (1 : Int))).toNat : Int))
     (.chk (nl = nl ∧ [IntKind.u8] = [IntKind.u8] ∧ R = R ∧ d = d)
     (.leaf (.inl ⟨R, (IntKind.i64.wrap ((↑at_ : Int) + (0 : Int))).toNat, (IntKind.i64.wrap ((↑i : Int) + (0 : Int))).toNat, (IntKind.i64.wrap ((↑t : Int) + (1 : Int))).toNat⟩))))))))))))))))) := by kernel_rfl
def umMu (A : Option Addr) (X : List Int) (n cap : Nat) (A2 : Option Addr) (Y : List Int) (m cap2 : Nat) (p : umP) (x : umX) : Nat := m - x.i
theorem um_step (w : World) (A : Option Addr) (X : List Int) (n cap : Nat) (A2 : Option Addr) (Y : List Int) (m cap2 : Nat) (p : umP) (x : umX) (hX : XR w A [.u8] X n) (hY : XR w A2 [.u8] Y m) (hcX : n ≤ cap) (hcY : m ≤ cap2) (hb : Bs Y) (h : umInv A X n cap A2 Y m cap2 p x) : Hid (roundT Try.prog w (flatT Try.prog) (noCtr) (callT Try.prog w (flatT Try.prog) (noCtr) (preOf w tab6) (lpOf Try.prog [ucLp A X n cap A2 Y m cap2]) 20) ((lpOf Try.prog [ucLp A X n cap A2 Y m cap2]) 14) (roundOf (bodyAt Try.prog 14 0)) 0 2 umRo umRf umRb (umSt A X n cap A2 Y m cap2 p) (umFin A X n cap A2 Y m cap2 p) (umBck A X n cap A2 Y m cap2 p) umNxX umNxY umNxZ x) (Kept (umInv A X n cap A2 Y m cap2 p) (umPost A X n cap A2 Y m cap2 p) (umBack A X n cap A2 Y m cap2 p) (umMu A X n cap A2 Y m cap2 p) x) := by
  obtain ⟨nl, r, d⟩ := p
  obtain ⟨R, at_, i, t⟩ := x
  constructor
  rw [umstep_tree]
  simp only [T.holds, Kept, umMu, and_self, true_and, and_true]
  obtain ⟨rn, rl, rd, nil, l1, l2, l3, ⟨big, big2⟩, eq⟩ := h
  simp only at rn rl rd nil l1 l2 l3 big big2 eq
  have hn : X.length = n := by simpa using hX.1
  have hm : Y.length = m := by simpa using hY.1
  simp only [cut_n hm, T.holds, List.length_singleton, Int.toNat_natCast, Nat.mul_one, Nat.sub_zero, Nat.zero_add, Nat.add_zero, Nat.zero_mul, List.drop_zero, true_and, and_true, and_self, decide_eq_true_eq, decide_eq_false_iff_not, bne_iff_ne, ne_eq, Bool.not_eq_true, bne_eq_false_iff_eq, not_true_eq_false, false_implies, true_implies, beq_iff_eq, beq_eq_false_iff_ne]
  have hY2 := xr_cut (l := i) hY hcY (by omega) (Nat.le_refl m)
  simp only [List.length_singleton, cut_n hm] at hY2
  have hlq : (Y.drop i).length = m - i := by rw [List.length_drop]; omega
  have err : ∀ e : Int, e ≠ 0 → lay (t % 2 == 1) at_ R (Y.drop i) = (e, []) → umBack A X n cap A2 Y m cap2 ⟨nl, r, d⟩ ⟨e⟩ := fun e h1 h2 => ⟨h1, by rw [← eq]; exact h2⟩
  have hgn := gN_lt (Y.drop i)
  have hgk := gK_pos (Y.drop i)
  refine ⟨⟨by omega, by omega, by omega, hcY⟩, ⟨hY2, by omega⟩, ⟨by omega, hb.drop _⟩, fun hE => ?_, fun hE => ⟨fun _ => err _ hE (lay_err hE), fun h => absurd h hE⟩⟩
  have hK := gE_len hE
  have v1 : IntKind.i64.wrap ((n : Int) - (at_ : Int)) = ((n - at_ : Nat) : Int) := by rw [wi64 _ (by omega) (by omega)]; omega
  have v2 := a1 i (gK (Y.drop i)) (by omega)
  have v3 : IntKind.i64.wrap ((m : Int) - ((i + gK (Y.drop i) : Nat) : Int)) = ((m - (i + gK (Y.drop i)) : Nat) : Int) := by rw [wi64 _ (by omega) (by omega)]; omega
  have v4 := a1 at_ (gN (Y.drop i)) (by omega)
  have v5 := a1 (i + gK (Y.drop i)) (gN (Y.drop i)) (by omega)
  have v6 := winc (show t < 1000000000 by omega)
  have v7 : ((t : Int)).tmod 2 = ((t % 2 : Nat) : Int) := by rw [Int.tmod_eq_emod_of_nonneg (by omega)]; omega
  have dd : (Y.drop i).drop (gK (Y.drop i)) = Y.drop (i + gK (Y.drop i)) := by rw [List.drop_drop]
  have dd2 : (Y.drop i).drop (gK (Y.drop i) + gN (Y.drop i)) = Y.drop (i + gK (Y.drop i) + gN (Y.drop i)) := by rw [List.drop_drop, Nat.add_assoc]
  simp only [v1, v2, v3, v4, v5, v6, v7, Int.toNat_natCast, true_and]
  refine ⟨fun hs => err 6 (by decide) (lay_size hE (by omega)), fun hs => ⟨fun ho => ?_, fun ho => ?_⟩⟩
  · have ho : t % 2 = 1 := by omega
    have hlay := lay_t (i := at_) (xs := R) hE (by omega)
    rw [dd, dd2] at hlay
    rw [ho] at eq err
    refine ⟨fun h2 => err 2 (by decide) (by rw [if_pos (by omega)] at hlay; exact hlay), fun h2 => ⟨rfl, ⟨Nat.zero_le _, rl, rd, nil, by show at_ + gN (Y.drop i) ≤ r; omega, by show i + gK (Y.drop i) + gN (Y.drop i) ≤ m; omega, ⟨big, big2⟩, ?_⟩, fun y => ?_⟩⟩
    · show R = splice R at_ (List.take 0 _)
      simp [splice]
    rw [if_neg (by omega)] at hlay
    have ye : y.it.R = splice R at_ ((Y.drop (i + gK (Y.drop i))).take (gN (Y.drop i))) := by
      have := y.so.eq
      simp only [cut_n hm, v2, Int.toNat_natCast] at this
      exact this
    refine ⟨fun h3 => by omega, fun _ => ⟨⟨rn, ?_, rd, nil, ?_, ?_, ?_, ⟨big, big2⟩, ?_⟩, by omega⟩⟩
    · show y.it.R.length = r
      rw [ye, splice_length (by rw [List.length_take, List.length_drop]; omega), rl]
    · show at_ + gN (Y.drop i) ≤ r; omega
    · show i + gK (Y.drop i) + gN (Y.drop i) ≤ m; omega
    · show t + 1 ≤ i + gK (Y.drop i) + gN (Y.drop i); omega
    · show lay ((t + 1) % 2 == 1) (at_ + gN (Y.drop i)) y.it.R (Y.drop (i + gK (Y.drop i) + gN (Y.drop i))) = _
      rw [show (t + 1) % 2 = 0 by omega, ← eq, ye]
      exact hlay.symm
  · have ho : t % 2 = 0 := by omega
    have hlay := lay_f (i := at_) (xs := R) hE (by omega)
    rw [dd] at hlay
    rw [ho] at eq err
    refine ⟨fun _ => ⟨fun h3 => ⟨rl, ?_, ?_⟩, fun h3 => ⟨⟨rn, rl, rd, nil, ?_, ?_, ?_, ⟨big, big2⟩, ?_⟩, by omega⟩⟩, fun h3 => by omega⟩
    · show i + gK (Y.drop i) ≤ m; omega
    · show lay false 0 X Y = if i + gK (Y.drop i) = m then (0, R) else (3, [])
      rw [← eq]
      refine hlay.trans ?_
      rw [if_pos (by omega)]
      by_cases h4 : i + gK (Y.drop i) = m
      · rw [if_pos h4, if_pos (by omega)]
      · rw [if_neg h4, if_neg (by omega)]
    · show at_ + gN (Y.drop i) ≤ r; omega
    · show i + gK (Y.drop i) ≤ m; omega
    · show t + 1 ≤ i + gK (Y.drop i); omega
    · show lay ((t + 1) % 2 == 1) (at_ + gN (Y.drop i)) R (Y.drop (i + gK (Y.drop i))) = _
      rw [show (t + 1) % 2 = 1 by omega, ← eq]
      rw [if_neg (by omega)] at hlay
      exact hlay.symm
theorem umLp_ok (w : World) (A : Option Addr) (X : List Int) (n cap : Nat) (A2 : Option Addr) (Y : List Int) (m cap2 : Nat) (hX : XR w A [.u8] X n) (hY : XR w A2 [.u8] Y m) (hcX : n ≤ cap) (hcY : m ≤ cap2) (hb : Bs Y) : (umLp A X n cap A2 Y m cap2).ok Try.prog w := by
  intro s t h
  unfold umLp at h
  simp only at h
  split at h
  · rename_i p _
    split at h
    · rename_i x _
      cases h
      exact loop_ok base2 (ctrs_none _ w) (callT_ok base2.mixed base2.names base2.eqs (ctrs_none _ w).ok (ctrs_none _ w).there (preOf_ok tab6_ok w) (lps_ok fun l hl => by (simp only [List.mem_cons, List.not_mem_nil, or_false] at hl; subst hl; exact ucLp_ok w A X n cap A2 Y m cap2 hX hY hcX hcY hb)) 20) ((lps_ok fun l hl => by (simp only [List.mem_cons, List.not_mem_nil, or_false] at hl; subst hl; exact ucLp_ok w A X n cap A2 Y m cap2 hX hY hcX hcY hb)) 14) (c := roundOf (bodyAt Try.prog 14 0)) (by kernel_rfl) (id := 0) (n := 2) (hr := true) (ro := umRo) (rf := umRf) (rr := umRb) (st := umSt A X n cap A2 Y m cap2 p) (fin := umFin A X n cap A2 Y m cap2 p) (bck := umBck A X n cap A2 Y m cap2 p) (inv := umInv A X n cap A2 Y m cap2 p) (post := umPost A X n cap A2 Y m cap2 p) (back := umBack A X n cap A2 Y m cap2 p) (nx := umNxX) (fx := umNxY) (bx := umNxZ) (umMu A X n cap A2 Y m cap2 p) (nf := 2) (nf' := 2) (nf'' := 2) (fun x => by kernel_rfl) (fun y => by kernel_rfl) (fun z => by kernel_rfl) (.inl rfl) (fun x hx => um_step w A X n cap A2 Y m cap2 p x hX hY hcX hcY hb hx) s x
    · cases h
  · cases h
theorem runpack_tree (w : World) (A : Option Addr) (X : List Int) (n cap : Nat) (A2 : Option Addr) (Y : List Int) (m cap2 : Nat) :
    callT Try.prog w (flatT Try.prog) (noCtr) (preOf w tab6) (lpOf Try.prog [umLp A X n cap A2 Y m cap2, ucLp A X n cap A2 Y m cap2, ueLp A X n cap A2 Y m cap2]) 20 14 [.v (.one (.xr A [.u8] X n cap)), .v (.one (.xr A2 [.u8] Y m cap2))] [] =
(.chk ((sym.XR w A [IntKind.u8] X n ∧ n ≤ cap) ∧
  True ∧ ((0 : Nat) + n) * (1 : Nat) ≤ (140737488355328 : Nat))
(.all fun x : sym.Grown false n ((0 : Nat) + n) =>
 (.chk (sym.textAt Go.Proofs.Try.prog (14 : Go.FuncId) (0 : Nat) = sym.textAt Go.Proofs.Try.prog (14 : Go.FuncId) (0 : Nat))
 (.chk (A = A ∧ [IntKind.u8] = [IntKind.u8] ∧ X = X ∧ n = n ∧ cap = cap)
 (.chk (A2 = A2 ∧ [IntKind.u8] = [IntKind.u8] ∧ Y = Y ∧ m = m ∧ cap2 = cap2)
 (.chk (x.nl' = x.nl' ∧
  [IntKind.u8].length = (1 : Nat) ∧ (0 : Nat) = (0 : Nat) ∧ (0 : Nat) + n = (0 : Nat) + n ∧ x.cap = x.cap)
 (.chk (IntKind.i64 = IntKind.i64 ∧ (0 : Int) = (↑(0 : Nat) : Int))
 (.chk (IntKind.i64 = IntKind.i64 ∧ (0 : Int) = (↑(0 : Nat) : Int))
 (.chk (IntKind.i64 = IntKind.i64 ∧ (0 : Int) = (↑(0 : Nat) : Int))
 (.chk (x.nl' = x.nl' ∧ [IntKind.u8] = [IntKind.u8] ∧ [] ++ X = [] ++ X ∧ x.cap = x.cap)
 (.chk (umInv A X n cap A2 Y m cap2 { nl := x.nl', r := (0 : Nat) + n, d := x.cap }
  { R := [] ++ X, at_ := (0 : Nat), i := (0 : Nat), t := (0 : Nat) })
 (.all fun x_1 : Bool =>
  (.br (x_1)
   (.all fun x_2 : sym.Got umY
  (umPost A X n cap A2 Y m cap2 { nl := x.nl', r := (0 : Nat) + n, d := x.cap }) =>
    (.br (decide ((↑x_2.1.2 : Int) < (↑m : Int)))
     (.leaf ((.tuple [(.one .nos), (.one (.int true .i64 (3)))]), [⟨[.dead], 5⟩, ⟨[(.row (x.nl') ([IntKind.u8]) (x_2.1.1) (x.cap))], 5⟩]))
     (.chk ((sym.XR w A [IntKind.u8] X n ∧ n ≤ cap) ∧
  (x.nl' = x.nl' ∧ ((0 : Nat) + ((0 : Nat) + n)) * (1 : Nat) ≤ x_2.1.1.length ∧ (0 : Nat) + n ≤ x.cap) ∧ True)
     (.chk (n ≤ (16000 : Nat))
     (.br (decide (n = (0 : Nat) + n))
      (.all fun x_3 : RowR
  (pack X
      (sym.cutL x_2.1.1 (0 : Nat) ((0 : Nat) + ((0 : Nat) + n)) (1 : Nat))).length =>
       (.br ((↑(pack X
          (sym.cutL x_2.1.1 (0 : Nat) ((0 : Nat) + ((0 : Nat) + n)) (1 : Nat))).length :
    Int) !=
  (↑m : Int))
        (.leaf ((.tuple [(.one .nos), (.one (.int true .i64 (5)))]), [⟨[.dead], 5⟩, ⟨[(.row (x.nl') ([IntKind.u8]) (x_2.1.1) (x.cap))], 5⟩, ⟨[(.row (x_3.nl) ([IntKind.u8]) (pack X
  (sym.cutL x_2.1.1 (0 : Nat) ((0 : Nat) + ((0 : Nat) + n)) (1 : Nat))) (x_3.cap))], 5⟩]))
        (.chk (sym.textAt Go.Proofs.Try.prog (14 : Go.FuncId) (4 : Nat) = sym.textAt Go.Proofs.Try.prog (14 : Go.FuncId) (4 : Nat))
        (.chk (A2 = A2 ∧ [IntKind.u8] = [IntKind.u8] ∧ Y = Y ∧ m = m ∧ cap2 = cap2)
        (.chk (x.nl' = x.nl' ∧ (1 : Nat) = (1 : Nat) ∧ (0 : Nat) = (0 : Nat) ∧ (0 : Nat) + n = (0 : Nat) + n ∧ x.cap = x.cap)
        (.chk (x_3.nl = x_3.nl ∧
  [IntKind.u8].length = (1 : Nat) ∧
    (0 : Nat) = (0 : Nat) ∧
      (pack X
              (sym.cutL x_2.1.1 (0 : Nat) ((0 : Nat) + ((0 : Nat) + n)) (1 : Nat))).length =
          (pack X
              (sym.cutL x_2.1.1 (0 : Nat) ((0 : Nat) + ((0 : Nat) + n)) (1 : Nat))).length ∧
        x_3.cap = x_3.cap)
        (.chk (IntKind.i64 = IntKind.i64 ∧ (↑m : Int) = (↑m : Int))
        (.chk (IntKind.i64 = IntKind.i64 ∧ (0 : Int) = (↑(0 : Nat) : Int))
        (.chk (x.nl' = x.nl' ∧ [IntKind.u8] = [IntKind.u8] ∧ x_2.1.1 = x_2.1.1 ∧ x.cap = x.cap)
        (.chk (x_3.nl = x_3.nl ∧
  [IntKind.u8] = [IntKind.u8] ∧
    pack X
          (sym.cutL x_2.1.1 (0 : Nat) ((0 : Nat) + ((0 : Nat) + n)) (1 : Nat)) =
        pack X
          (sym.cutL x_2.1.1 (0 : Nat) ((0 : Nat) + ((0 : Nat) + n)) (1 : Nat)) ∧
      x_3.cap = x_3.cap)
        (.chk (ueInv A X n cap A2 Y m cap2
  { R := x_2.1.1, nl := x.nl', r := (0 : Nat) + n, d := x.cap,
    S :=
      pack X
        (sym.cutL x_2.1.1 (0 : Nat) ((0 : Nat) + ((0 : Nat) + n)) (1 : Nat)),
    sn :=
      (pack X
          (sym.cutL x_2.1.1 (0 : Nat) ((0 : Nat) + ((0 : Nat) + n)) (1 : Nat))).length,
    snl := x_3.nl, sd := x_3.cap }
  { j := (0 : Nat) })
        (.all fun x_4 : Bool =>
         (.br (x_4)
          (.all fun x_5 : sym.Got ueY
  (uePost A X n cap A2 Y m cap2
    { R := x_2.1.1, nl := x.nl', r := (0 : Nat) + n, d := x.cap,
      S :=
        pack X
          (sym.cutL x_2.1.1 (0 : Nat) ((0 : Nat) + ((0 : Nat) + n)) (1 : Nat)),
      sn :=
        (pack X
            (sym.cutL x_2.1.1 (0 : Nat) ((0 : Nat) + ((0 : Nat) + n)) (1 : Nat))).length,
      snl := x_3.nl, sd := x_3.cap }) =>
           (.leaf ((.tuple [(.one (.gs 1 (x.nl') 1 0 ((0 : Nat) + n) (x.cap))), (.one (.int true .i64 (0)))]), [⟨[.dead], 5⟩, ⟨[(.row (x.nl') ([IntKind.u8]) (x_2.1.1) (x.cap))], 5⟩, ⟨[.dead], 5⟩])))
          (.all fun x_5 : sym.Got ueZ
  (ueBack A X n cap A2 Y m cap2
    { R := x_2.1.1, nl := x.nl', r := (0 : Nat) + n, d := x.cap,
      S :=
        pack X
          (sym.cutL x_2.1.1 (0 : Nat) ((0 : Nat) + ((0 : Nat) + n)) (1 : Nat)),
      sn :=
        (pack X
            (sym.cutL x_2.1.1 (0 : Nat) ((0 : Nat) + ((0 : Nat) + n)) (1 : Nat))).length,
      snl := x_3.nl, sd := x_3.cap }) =>
           (.leaf ((.tuple [(.one .nos), (.one (.int true .i64 (5)))]), [⟨[.dead], 5⟩, ⟨[.dead], 5⟩, ⟨[.dead], 5⟩]))))))))))))))))
      (.br ((↑(0 : Nat) : Int) != (↑m : Int))
       (.leaf ((.tuple [(.one .nos), (.one (.int true .i64 (5)))]), [⟨[.dead], 5⟩, ⟨[(.row (x.nl') ([IntKind.u8]) (x_2.1.1) (x.cap))], 5⟩, ⟨[(.row true ([IntKind.u8]) ([]) 0)], 5⟩]))
       (.chk (sym.textAt Go.Proofs.Try.prog (14 : Go.FuncId) (4 : Nat) = sym.textAt Go.Proofs.Try.prog (14 : Go.FuncId) (4 : Nat))
       (.chk (A2 = A2 ∧ [IntKind.u8] = [IntKind.u8] ∧ Y = Y ∧ m = m ∧ cap2 = cap2)
       (.chk (x.nl' = x.nl' ∧ (1 : Nat) = (1 : Nat) ∧ (0 : Nat) = (0 : Nat) ∧ (0 : Nat) + n = (0 : Nat) + n ∧ x.cap = x.cap)
       (.chk (true = true ∧
  [IntKind.u8].length = (1 : Nat) ∧ (0 : Nat) = (0 : Nat) ∧ (0 : Nat) = (0 : Nat) ∧ (0 : Nat) = (0 : Nat))
       (.chk (IntKind.i64 = IntKind.i64 ∧ (↑m : Int) = (↑m : Int))
       (.chk (IntKind.i64 = IntKind.i64 ∧ (0 : Int) = (↑(0 : Nat) : Int))
       (.chk (x.nl' = x.nl' ∧ [IntKind.u8] = [IntKind.u8] ∧ x_2.1.1 = x_2.1.1 ∧ x.cap = x.cap)
       (.chk (true = true ∧ [IntKind.u8] = [IntKind.u8] ∧ ([] : List Int) = [] ∧ (0 : Nat) = (0 : Nat))
       (.chk (ueInv A X n cap A2 Y m cap2
  { R := x_2.1.1, nl := x.nl', r := (0 : Nat) + n, d := x.cap, S := [], sn := (0 : Nat), snl := true,
    sd := (0 : Nat) }
  { j := (0 : Nat) })
       (.all fun x_3 : Bool =>
        (.br (x_3)
         (.all fun x_4 : sym.Got ueY
  (uePost A X n cap A2 Y m cap2
    { R := x_2.1.1, nl := x.nl', r := (0 : Nat) + n, d := x.cap, S := [], sn := (0 : Nat), snl := true,
      sd := (0 : Nat) }) =>
          (.leaf ((.tuple [(.one (.gs 1 (x.nl') 1 0 ((0 : Nat) + n) (x.cap))), (.one (.int true .i64 (0)))]), [⟨[.dead], 5⟩, ⟨[(.row (x.nl') ([IntKind.u8]) (x_2.1.1) (x.cap))], 5⟩, ⟨[.dead], 5⟩])))
         (.all fun x_4 : sym.Got ueZ
  (ueBack A X n cap A2 Y m cap2
    { R := x_2.1.1, nl := x.nl', r := (0 : Nat) + n, d := x.cap, S := [], sn := (0 : Nat), snl := true,
      sd := (0 : Nat) }) =>
          (.leaf ((.tuple [(.one .nos), (.one (.int true .i64 (5)))]), [⟨[.dead], 5⟩, ⟨[.dead], 5⟩, ⟨[.dead], 5⟩]))))))))))))))))))))
   (.all fun x_2 : sym.Got umZ
  (umBack A X n cap A2 Y m cap2 { nl := x.nl', r := (0 : Nat) + n, d := x.cap }) =>
    (.leaf ((.tuple [(.one .nos), (.one (.int false .i64 (x_2.1.1)))]), [⟨[.dead], 5⟩, ⟨[.dead], 5⟩])))))))))))))))) := by kernel_rfl
def runpackC : RCtr := ⟨14, [some [.u8], some [.u8]], fun | [.row [.u8] n xs, .row [.u8] m ys] => some (.chk (n ≤ 16000 ∧ m ≤ 1000000 ∧ Bs xs ∧ Bs ys) (.br (decide ((unp xs ys).1 = 0)) (.all fun g : RowR n => .leaf [.row g.nl 5 [.u8] (unp xs ys).2 n g.cap, .av (.one (.int false .i64 0))]) (.leaf [.row true 5 [.u8] [] 0 0, .av (.one (.int false .i64 (unp xs ys).1))]))) | _ => none⟩
theorem runpackC_ok : runpackC.Ok Try.prog := by
  refine rctr_ok base2 ⟨_, Try.func14, rfl⟩ (ctr := fun w => noCtr) (fun w => ctrs_none _ w) (pre := fun w => preOf w tab6) (fun w => preOf_ok tab6_ok w) (n := 20) fun w cas args t h ha K hK => ?_
  unfold runpackC at h
  simp only at h
  split at h
  · cases h
    obtain ⟨y0, y1, rfl, q0, q1⟩ := all2_2 ha
    obtain ⟨A, c, rfl, hX, hc⟩ := argRow q0
    obtain ⟨A2, c2, rfl, hY, hc2⟩ := argRow q1
    rename_i n X m Y
    obtain ⟨⟨big, big2, hb1, hb⟩, hK⟩ := hK
    refine ⟨lpOf Try.prog [umLp A X n c A2 Y m c2, ucLp A X n c A2 Y m c2, ueLp A X n c A2 Y m c2], lps_ok fun l hl => ?_, ?_⟩
    · simp only [List.mem_cons, List.not_mem_nil, or_false] at hl
      rcases hl with rfl | rfl | rfl
      · exact umLp_ok w A X n c A2 Y m c2 hX hY hc hc2 hb
      · exact ucLp_ok w A X n c A2 Y m c2 hX hY hc hc2 hb
      · exact ueLp_ok w A X n c A2 Y m c2 hX hY hc hc2 hb
    have hn : X.length = n := by simpa using hX.1
    have hm : Y.length = m := by simpa using hY.1
    have bad : ∀ (e : Int) (lit : Bool) (h' : List Blk), e ≠ 0 → unp X Y = (e, []) → ∃ rs ys, K rs ∧ AV.tuple [.one .nos, .one (.int lit .i64 e)] = packA ys ∧ All2 (OutIs [.v (.one (.xr A [.u8] X n c)), .v (.one (.xr A2 [.u8] Y m c2))] h') rs ys := by
      intro e lit h' he hl
      exact ⟨_, [_, _], hK.2 (by simp [hl, he]), rfl, .cons .nil (.cons (.av rfl fun _ => by rw [hl]; rfl) .nil)⟩
    rw [show runpackC.f = 14 from rfl, runpack_tree]
    have ub : ∀ e : Int, e ≠ 0 → lay false 0 X Y = (e, []) → unp X Y = (e, []) := fun e h1 h2 => by
      unfold unp
      rw [h2, if_neg h1]
    rw [Nat.zero_add]
    simp only [T.holds, List.length_singleton, List.nil_append, Nat.mul_one, true_and, and_true, and_self]
    refine ⟨⟨⟨hX, hc⟩, by omega⟩, fun g => ⟨rfl, rfl, rfl, ⟨rfl, hn, ⟨g.le, g.max⟩, fun e => ((rowR g).nil e).1, Nat.zero_le _, Nat.zero_le _, Nat.le_refl _, ⟨big, big2⟩, by show lay (0 % 2 == 1) 0 X (Y.drop 0) = _; rfl⟩, fun b => ⟨fun _ x => ⟨fun hlt => ?_, fun hge => ?_⟩, fun _ z => bad _ _ _ z.so.ne (ub _ z.so.ne z.so.eq)⟩⟩⟩
    · have hlt := of_decide_eq_true hlt
      exact bad 3 _ _ (by decide) (ub 3 (by decide) (by rw [x.so.eq, if_neg (by omega)]))
    · have hi : x.it.i = m := by
        have h1 := of_decide_eq_false hge
        have h2 := x.so.l2
        omega
      have he : lay false 0 X Y = (0, x.it.R) := by rw [x.so.eq, if_pos hi]
      have hR : x.it.R.length = n := x.so.rl
      have hcut : cutL x.it.R 0 (0 + n) 1 = x.it.R := by rw [cut1, List.drop_zero, List.take_of_length_le (by omega)]
      have u1 : pack X x.it.R = Y → unp X Y = (0, x.it.R) := fun e => by
        unfold unp
        rw [he, if_pos rfl, if_pos e]
      have u2 : pack X x.it.R ≠ Y → unp X Y = (5, []) := fun e => by
        unfold unp
        rw [he, if_pos rfl, if_neg e]
      rw [hcut]
      refine ⟨⟨⟨hX, hc⟩, by omega, g.le⟩, big, fun _ g2 => ⟨fun hne => bad 5 _ _ (by decide) (u2 ?_), fun hq => ⟨rfl, ⟨Nat.zero_le _, rfl, ?_, fun e => (g2.nil e).1, big2, fun i hi => absurd hi (Nat.not_lt_zero _)⟩, fun b => ⟨fun _ z => ?_, fun _ z => bad 5 _ _ (by decide) (u2 z.so.ne)⟩⟩⟩, fun h => by simp at h⟩
      · rintro e
        rw [e, hm] at hne
        simp at hne
      · have : ((pack X x.it.R).length : Int) = m := by simpa using hq
        show (pack X x.it.R).length = m
        omega
      · have e := u1 z.so.eq
        have hK := hK.1 (by simp [e]) (rowR g)
        rw [e] at hK
        exact ⟨_, [_, _], hK, rfl, .cons (.row (r := 1) rfl (rowR g).nil) (.cons (.av rfl fun _ => rfl) .nil)⟩
  · cases h
end Go.Proofs.Ytcfnfihemejjkaa
