/-
  A clock as one value: cycles, a write and a hold of it; and contracts that give their answer a name. Bytes are below 256, days 0 to 511, a second's cycles 0 to 1048576; no other condition.
-/
import Derived.Test.YtpmgaoigelplgaaA3
import Derived.Test.YtpmgaoigelplgaaSymA
namespace Go.Proofs.Ytpmgaoigelplgaa
open Go.RowKit sym
set_option linter.unusedVariables false
set_option linter.unusedSimpArgs false
set_option maxRecDepth 100000
structure Cv where
  s : Int
  m : Int
  h : Int
  d : Int
  u : Int
  t : Bool
  c : Bool
  a0 : Int
  a1 : Int
  a2 : Int
  a3 : Int
  a4 : Int
namespace Cv
def hd (v : Cv) : Ck.Hd := ⟨v.s, v.m, v.h, v.d, v.c⟩
theorem it_is (v : Cv) : (Cv.mk v.s v.m v.h v.d v.u v.t v.c v.a0 v.a1 v.a2 v.a3 v.a4) = v := rfl
def tick (v : Cv) (n : Int) : Cv := ⟨(Ck.tkH v.t v.u n v.hd).s, (Ck.tkH v.t v.u n v.hd).m, (Ck.tkH v.t v.u n v.hd).h, (Ck.tkH v.t v.u n v.hd).d, Ck.tkU v.t v.u n, v.t, (Ck.tkH v.t v.u n v.hd).cy, v.a0, v.a1, v.a2, v.a3, v.a4⟩
def write (v : Cv) (p x : Int) : Cv := ⟨Ck.wS p x v.s, Ck.wM p x v.m, Ck.wH p x v.h, Ck.wD p x v.d, Ck.wU p v.u, Ck.wT p x v.t, Ck.wC p x v.c, v.a0, v.a1, v.a2, v.a3, v.a4⟩
def hold (v : Cv) : Cv := ⟨v.s, v.m, v.h, v.d, v.u, v.t, v.c, v.s, v.m, v.h, v.d % 256, Ck.top v.d v.t v.c⟩
theorem tick_hd (v : Cv) (n : Int) : (v.tick n).hd = Ck.tkH v.t v.u n v.hd := rfl
end Cv
def mkCv (s m h d u : Int) (t c : Bool) (a0 a1 a2 a3 a4 : Int) : Cv := ⟨s, m, h, d, u, t, c, a0, a1, a2, a3, a4⟩
theorem mk_it (v : Cv) : mkCv v.s v.m v.h v.d v.u v.t v.c v.a0 v.a1 v.a2 v.a3 v.a4 = v := rfl
def tickFC : Ctr := ⟨10, fun | [.v (.agg [.int _ .u8 s, .int _ .u8 m, .int _ .u8 h, .int _ .i64 d, .int _ .i64 u, .bool _ t, .bool _ c, .int _ .u8 a0, .int _ .u8 a1, .int _ .u8 a2, .int _ .u8 a3, .int _ .u8 a4]), .v (.one (.int _ .i64 n))] => some (.chk (Ck.Ok ⟨s, m, h, d, c⟩ ∧ 0 ≤ u ∧ u ≤ 1048576) (.all fun y : Got Cv (fun y => y = (mkCv s m h d u t c a0 a1 a2 a3 a4).tick n) => .leaf (.v (.agg [.int false .u8 y.it.s, .int false .u8 y.it.m, .int false .u8 y.it.h, .int false .i64 y.it.d, .int false .i64 y.it.u, .bool false y.it.t, .bool false y.it.c, .int false .u8 y.it.a0, .int false .u8 y.it.a1, .int false .u8 y.it.a2, .int false .u8 y.it.a3, .int false .u8 y.it.a4])))) | _ => none⟩
theorem tickFC_ok (w0 : World) : tickFC.ok Try.prog w0 := by
  refine ⟨⟨_, Try.func10, rfl⟩, fun args t ht => ?_⟩
  unfold tickFC at ht
  simp only at ht
  split at ht
  · cases ht
    refine ⟨rfl, fun K hK => ⟨_, hK.2 ⟨_, rfl⟩, rfl, fun w _ => ?_⟩⟩
    obtain ⟨hr, _⟩ := hK
    exact tick_any w _ _ _ _ _ _ _ _ _ _ _ _ _ hr.1 hr.2
  · cases ht
def writeFC : Ctr := ⟨15, fun | [.v (.agg [.int _ .u8 s, .int _ .u8 m, .int _ .u8 h, .int _ .i64 d, .int _ .i64 u, .bool _ t, .bool _ c, .int _ .u8 a0, .int _ .u8 a1, .int _ .u8 a2, .int _ .u8 a3, .int _ .u8 a4]), .v (.one (.int _ .i64 p)), .v (.one (.int _ .u8 x))] => some (.chk (Ck.B s ∧ Ck.B m ∧ Ck.B h ∧ 0 ≤ d ∧ d < 512 ∧ Ck.B x) (.all fun y : Got Cv (fun y => y = (mkCv s m h d u t c a0 a1 a2 a3 a4).write p x) => .leaf (.v (.agg [.int false .u8 y.it.s, .int false .u8 y.it.m, .int false .u8 y.it.h, .int false .i64 y.it.d, .int false .i64 y.it.u, .bool false y.it.t, .bool false y.it.c, .int false .u8 y.it.a0, .int false .u8 y.it.a1, .int false .u8 y.it.a2, .int false .u8 y.it.a3, .int false .u8 y.it.a4])))) | _ => none⟩
theorem writeFC_ok (w0 : World) : writeFC.ok Try.prog w0 := by
  refine ⟨⟨_, Try.func15, rfl⟩, fun args t ht => ?_⟩
  unfold writeFC at ht
  simp only at ht
  split at ht
  · cases ht
    refine ⟨rfl, fun K hK => ⟨_, hK.2 ⟨_, rfl⟩, rfl, fun w _ => ?_⟩⟩
    obtain ⟨hr, _⟩ := hK
    exact write_any w _ _ _ _ _ _ _ _ _ _ _ _ _ _ hr.1 hr.2.1 hr.2.2.1 ⟨hr.2.2.2.1, hr.2.2.2.2.1⟩ hr.2.2.2.2.2
  · cases ht
def holdFC : Ctr := ⟨16, fun | [.v (.agg [.int _ .u8 s, .int _ .u8 m, .int _ .u8 h, .int _ .i64 d, .int _ .i64 u, .bool _ t, .bool _ c, .int _ .u8 a0, .int _ .u8 a1, .int _ .u8 a2, .int _ .u8 a3, .int _ .u8 a4])] => some (.chk (0 ≤ d ∧ d < 512) (.all fun y : Got Cv (fun y => y = (mkCv s m h d u t c a0 a1 a2 a3 a4).hold) => .leaf (.v (.agg [.int false .u8 y.it.s, .int false .u8 y.it.m, .int false .u8 y.it.h, .int false .i64 y.it.d, .int false .i64 y.it.u, .bool false y.it.t, .bool false y.it.c, .int false .u8 y.it.a0, .int false .u8 y.it.a1, .int false .u8 y.it.a2, .int false .u8 y.it.a3, .int false .u8 y.it.a4])))) | _ => none⟩
theorem holdFC_ok (w0 : World) : holdFC.ok Try.prog w0 := by
  refine ⟨⟨_, Try.func16, rfl⟩, fun args t ht => ?_⟩
  unfold holdFC at ht
  simp only at ht
  split at ht
  · cases ht
    refine ⟨rfl, fun K hK => ⟨_, hK.2 ⟨_, rfl⟩, rfl, fun w _ => ?_⟩⟩
    obtain ⟨hr, _⟩ := hK
    exact hold_any w _ _ _ _ _ _ _ _ _ _ _ _ hr
  · cases ht
def tableF : List Ctr := [awC, readC, writeFC, holdFC, tickFC, doC]
theorem tableF_ok (w0 : World) : Ctrs Try.prog w0 (ctrOf tableF) := ctrs_of fun c hc => by
  simp only [tableF, List.mem_cons, List.not_mem_nil, or_false] at hc
  rcases hc with rfl | rfl | rfl | rfl | rfl | rfl
  · exact awC_ok w0
  · exact readC_ok w0
  · exact writeFC_ok w0
  · exact holdFC_ok w0
  · exact tickFC_ok w0
  · exact doC_ok w0
end Go.Proofs.Ytpmgaoigelplgaa
