/-
  A text is read: none, or orders of one value. Texts have at most 1000 bytes.
-/
import Derived.Test.YtmbahohmiecfiaaR13
namespace Go.Proofs.Ytmbahohmiecfiaa
open Go.RowKit sym
set_option linter.unusedVariables false
set_option linter.unusedSimpArgs false
set_option maxRecDepth 100000
/-- What a text's orders are: none, or orders of one value. -/
structure PrR (tx : ByteArray) where
  nl : Bool
  zs : List Int
  k : Nat
  cap : Nat
  x : Int
  y : Int
  hl : zs.length = k * 2
  hc : k ≤ cap ∧ cap ≤ maxLen
  nil : nl = true → k = 0 ∧ cap = 0
  big : k ≤ 5000
  i6 : ∀ j, J6 (zs.getD j 0)
  ok : k = 0 ∨ One zs
def ParseC : FCtr := ⟨28, fun args h => match args, h with
  | [.v (.one (.val (.string tx)))], [] => some (.chk (tx.size ≤ 1000) (.all fun r : PrR tx => .leaf (.tuple [.one (.gs 1 r.nl 2 0 r.k r.cap), .one (.int false .i64 r.x), .one (.int false .i64 r.y)], [rdR r.nl r.zs r.cap])))
  | _, _ => none⟩
def parsedC : FCtr := ⟨15, fun args h => match args, h with
  | [.v (.one (.val (.string tx)))], [] => some (.chk (tx.size ≤ 1000) (.all fun r : PrR tx => .leaf (.v (.one (.gs 1 r.nl 2 0 r.k r.cap)), [rdR r.nl r.zs r.cap])))
  | _, _ => none⟩
theorem parse_tree (w : World) (L : Nat → Option Obj) (O : Nat → Bool) (tx : ByteArray) :
    callT Try.prog w (flatT Try.prog) (noCtr) (fpreOf [spaceC, levelC 300]) (noLoop) 20 28 [.v (.one (.val (.string tx)))] [⟨[.keep L O], 0⟩] =
(.br (decide ((↑tx.size : Int) > (300 : Int)))
 (.leaf ((.tuple [(.one .nos), (.one (.int true .i64 (0))), (.one (.int true .i64 (8)))]), [⟨[(.keep (L) (O))], 0⟩]))
 (.chk ((True ∧ RdOk tx (0 : Int) true [] (0 : Nat) (0 : Nat) (0 : Int)) ∧
  (0 : Int) = (0 : Int) ∧
    (↑(0 : Nat) : Int) + (2 : Int) * ((↑tx.size : Int) - (0 : Int)) ≤ (4000 : Int) ∧
      (0 : Int) ≤ (0 : Int) ∧
        (0 : Int) ≤ (10 : Int) ∧ ((20 : Int) - (0 : Int)) * (14 : Int) + ((12 : Int) - (0 : Int)) < (↑(300 : Nat) : Int))
 (.all fun x : Nx tx (0 : Int) [] (0 : Nat) =>
  (.br (x.e == (0 : Int))
   (.chk ((x.nl = x.nl ∧ x.cap = x.cap) ∧ RdOk tx x.a' x.nl x.zs x.k x.cap (0 : Int))
   (.all fun x_1 : { x_2 // x.a' ≤ x_2 ∧ x_2 ≤ (↑tx.size : Int) } =>
    (.br (decide (x_1.val < (↑tx.size : Int)))
     (.leaf ((.tuple [(.one .nos), (.one (.int false .i64 (x_1.val))), (.one (.int true .i64 (11)))]), [⟨[(.keep (L) (O))], 0⟩, ⟨[(.val (Go.Value.string tx)), (.int false .i64 (x_1.val)), (.gs 3 (x.nl) 2 0 (x.k) (x.cap)), (.int false .i64 ((0 : Int))), (.int true .i64 (11))], 72⟩, ⟨[.dead], 60⟩, ⟨[(.row (x.nl) ([IntKind.i64, IntKind.i64]) (x.zs) (x.cap))], 60⟩]))
     (.br (x.e != (0 : Int))
      (.leaf ((.tuple [(.one .nos), (.one (.int false .i64 (x_1.val))), (.one (.int false .i64 (x.e)))]), [⟨[(.keep (L) (O))], 0⟩, ⟨[(.val (Go.Value.string tx)), (.int false .i64 (x_1.val)), (.gs 3 (x.nl) 2 0 (x.k) (x.cap)), (.int false .i64 ((0 : Int))), (.int false .i64 (x.e))], 72⟩, ⟨[.dead], 60⟩, ⟨[(.row (x.nl) ([IntKind.i64, IntKind.i64]) (x.zs) (x.cap))], 60⟩]))
      (.leaf ((.tuple [(.one (.gs 3 (x.nl) 2 0 (x.k) (x.cap))), (.one (.int true .i64 (0))), (.one (.int true .i64 (0)))]), [⟨[(.keep (L) (O))], 0⟩, ⟨[(.val (Go.Value.string tx)), (.int false .i64 (x_1.val)), (.gs 3 (x.nl) 2 0 (x.k) (x.cap)), (.int false .i64 ((0 : Int))), (.int false .i64 (x.e))], 72⟩, ⟨[.dead], 60⟩, ⟨[(.row (x.nl) ([IntKind.i64, IntKind.i64]) (x.zs) (x.cap))], 60⟩]))))))
   (.br (x.e != (0 : Int))
    (.leaf ((.tuple [(.one .nos), (.one (.int false .i64 (x.a'))), (.one (.int false .i64 (x.e)))]), [⟨[(.keep (L) (O))], 0⟩, ⟨[(.val (Go.Value.string tx)), (.int false .i64 (x.a')), (.gs 3 (x.nl) 2 0 (x.k) (x.cap)), (.int false .i64 ((0 : Int))), (.int false .i64 (x.e))], 72⟩, ⟨[.dead], 60⟩, ⟨[(.row (x.nl) ([IntKind.i64, IntKind.i64]) (x.zs) (x.cap))], 60⟩]))
    (.leaf ((.tuple [(.one (.gs 3 (x.nl) 2 0 (x.k) (x.cap))), (.one (.int true .i64 (0))), (.one (.int true .i64 (0)))]), [⟨[(.keep (L) (O))], 0⟩, ⟨[(.val (Go.Value.string tx)), (.int false .i64 (x.a')), (.gs 3 (x.nl) 2 0 (x.k) (x.cap)), (.int false .i64 ((0 : Int))), (.int false .i64 (x.e))], 72⟩, ⟨[.dead], 60⟩, ⟨[(.row (x.nl) ([IntKind.i64, IntKind.i64]) (x.zs) (x.cap))], 60⟩]))))))) := by kernel_rfl
theorem parsed_tree (w : World) (L : Nat → Option Obj) (O : Nat → Bool) (tx : ByteArray) :
    callT Try.prog w (flatT Try.prog) (noCtr) (fpreOf [ParseC]) (noLoop) 20 15 [.v (.one (.val (.string tx)))] [⟨[.keep L O], 0⟩] =
(.chk (tx.size ≤ (1000 : Nat))
(.all fun x : PrR tx =>
 (.leaf ((.v (.one (.gs 1 (x.nl) 2 0 (x.k) (x.cap)))), [⟨[(.keep (L) (O))], 0⟩, ⟨[(.row (x.nl) ([IntKind.i64, IntKind.i64]) (x.zs) (x.cap))], 60⟩])))) := by kernel_rfl
def prNil (tx : ByteArray) (x y : Int) : PrR tx := ⟨true, [], 0, 0, x, y, rfl, ⟨Nat.le_refl _, by decide⟩, fun _ => ⟨rfl, rfl⟩, by decide, fun j => ⟨by simp, by simp⟩, .inl rfl⟩
def prSome {tx : ByteArray} (r : Nx tx 0 [] 0) (h : r.e = 0) (hs : tx.size ≤ 1000) : PrR tx := ⟨r.nl, r.zs, r.k, r.cap, 0, 0, r.hl, r.hc, r.nil, by have := r.le; have := r.ha; omega, r.i6, .inr (by
  obtain ⟨ys, h1, h2⟩ := r.ok h
  rw [h2]
  exact h1)⟩
theorem fpre4_ok (w : World) : PreOk Try.prog w (fpreOf [spaceC, levelC 300]) := fpreOf_ok fun c hc => by
  simp only [List.mem_cons, List.not_mem_nil, or_false] at hc
  rcases hc with rfl | rfl
  · exact spaceC_ok w
  · exact (P_ok w 300).1
theorem ParseC_ok (w0 : World) : ParseC.Ok Try.prog w0 := by
  refine ⟨fun args h t h0 L O => ?_⟩
  unfold ParseC at h0
  simp only at h0
  split at h0
  · rename_i tx
    cases h0
    refine CallOne.asks fun hs => ?_
    refine one_ok base2 (ctrs_none _ _) (fpre4_ok w0) (n := 20) fun K hK => ⟨noLoop, loops_none _ _, ?_⟩
    replace hK := T.of_chk hK
    show T.holds (callT Try.prog w0 (flatT Try.prog) (noCtr) (fpreOf [spaceC, levelC 300]) (noLoop) 20 28 [.v (.one (.val (.string tx)))] [⟨[.keep L O], 0⟩]) _
    rw [parse_tree]
    have r0 : RdOk tx 0 true [] 0 0 0 := ⟨⟨by decide, by omega⟩, hs, ⟨by decide, by decide⟩, rfl, ⟨Nat.le_refl _, by decide⟩, fun _ => ⟨rfl, rfl⟩, by show (0 : Int) + _ ≤ _; omega, fun j => ⟨by simp, by simp⟩⟩
    refine ⟨fun _ => ⟨_, _, T.of_all hK (prNil tx 0 8), as_end [none] (by repeat' (first | exact trivial | exact rfl | (refine And.intro ?_ ?_))) (by kernel_rfl) (fun h => by cases h)⟩, fun h3 => ⟨⟨⟨trivial, r0⟩, rfl, by have := of_decide_eq_false h3; omega, by decide, by decide, by decide⟩, fun x => ?_⟩⟩
    have x1 := x.ha
    have x2 := x.le
    have okx : RdOk tx x.a' x.nl x.zs x.k x.cap 0 := ⟨x1, hs, ⟨by decide, by decide⟩, x.hl, x.hc, x.nil, by omega, x.i6⟩
    refine ⟨fun he => ⟨⟨⟨rfl, rfl⟩, okx⟩, fun y => ⟨fun _ => ⟨_, _, T.of_all hK (prNil tx y.1 11), as_end [none] (by repeat' (first | exact trivial | exact rfl | (refine And.intro ?_ ?_))) (by kernel_rfl) (fun h => by cases h)⟩, fun _ => ⟨fun _ => ⟨_, _, T.of_all hK (prNil tx y.1 x.e), as_end [none] (by repeat' (first | exact trivial | exact rfl | (refine And.intro ?_ ?_))) (by kernel_rfl) (fun h => by cases h)⟩, fun _ => ⟨_, _, T.of_all hK (prSome x (by simpa using he) hs), as_end [some 3] (by repeat' (first | exact trivial | exact rfl | (refine And.intro ?_ ?_))) (by kernel_rfl) (fun h => by cases h)⟩⟩⟩⟩, fun _ => ⟨fun _ => ⟨_, _, T.of_all hK (prNil tx x.a' x.e), as_end [none] (by repeat' (first | exact trivial | exact rfl | (refine And.intro ?_ ?_))) (by kernel_rfl) (fun h => by cases h)⟩, fun he => ⟨_, _, T.of_all hK (prSome x (by simpa using he) hs), as_end [some 3] (by repeat' (first | exact trivial | exact rfl | (refine And.intro ?_ ?_))) (by kernel_rfl) (fun h => by cases h)⟩⟩⟩
  · cases h0
theorem fpre5_ok (w : World) : PreOk Try.prog w (fpreOf [ParseC]) := fpreOf_ok fun c hc => by
  simp only [List.mem_cons, List.not_mem_nil, or_false] at hc
  subst hc
  exact ParseC_ok w
theorem parsedC_ok (w0 : World) : parsedC.Ok Try.prog w0 := by
  refine ⟨fun args h t h0 L O => ?_⟩
  unfold parsedC at h0
  simp only at h0
  split at h0
  · rename_i tx
    cases h0
    refine CallOne.asks fun hs => ?_
    refine one_ok base2 (ctrs_none _ _) (fpre5_ok w0) (n := 20) fun K hK => ⟨noLoop, loops_none _ _, ?_⟩
    replace hK := T.of_chk hK
    show T.holds (callT Try.prog w0 (flatT Try.prog) (noCtr) (fpreOf [ParseC]) (noLoop) 20 15 [.v (.one (.val (.string tx)))] [⟨[.keep L O], 0⟩]) _
    rw [parsed_tree]
    exact ⟨hs, fun x => ⟨_, _, T.of_all hK x, as_end [some 1] (by repeat' (first | exact trivial | exact rfl | (refine And.intro ?_ ?_))) (by kernel_rfl) (fun h => by cases h)⟩⟩
  · cases h0
end Go.Proofs.Ytmbahohmiecfiaa
