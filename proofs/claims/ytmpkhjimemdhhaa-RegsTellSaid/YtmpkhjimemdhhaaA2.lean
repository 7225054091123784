/-
  The contracts of the program's registers and of the document's, as the walk by computing takes them. Bytes are below 256, words below 65536; no other condition.
-/
import Derived.Test.YtmpkhjimemdhhaaA1
import Derived.Test.YtmpkhjimemdhhaaSymE
namespace Go.Proofs.Ytmpkhjimemdhhaa
open Go.RowKit sym
set_option linter.unusedVariables false
set_option maxRecDepth 100000
theorem base2 : Base Try.prog (flatT Try.prog) := ⟨base.mixed, base.names, flat_ok _⟩
def RB (a f b c d e h l sp pc : Int) : Prop := Rg.B a ∧ Rg.B f ∧ Rg.B b ∧ Rg.B c ∧ Rg.B d ∧ Rg.B e ∧ Rg.B h ∧ Rg.B l ∧ Rg.W sp ∧ Rg.W pc
def isC : Ctr := ⟨10, fun | [.v (.agg [.int _ .u8 a, .int _ .u8 f, .int _ .u8 b, .int _ .u8 c, .int _ .u8 d, .int _ .u8 e, .int _ .u8 h, .int _ .u8 l, .int _ .u16 sp, .int _ .u16 pc]), .v (.one (.int ln .i64 n))] => some (.chk (RB a f b c d e h l sp pc) (.leaf (.v (.one (.bool false (Rg.isB f n)))))) | _ => none⟩
theorem isC_ok (w0 : World) : isC.ok Try.prog w0 := by
  refine ⟨⟨_, Try.func10, rfl⟩, fun args t ht => ?_⟩
  unfold isC at ht
  simp only at ht
  split at ht
  · cases ht
    refine ⟨rfl, fun K hK => ⟨_, hK.2, rfl, fun w _ => ?_⟩⟩
    obtain ⟨⟨h1, h2, h3, h4, h5, h6, h7, h8, h9, h10⟩, _⟩ := hK
    exact is_any w _ _ _ _ _ _ _ _ _ _ _ h1 h2 h3 h4 h5 h6 h7 h8 h9 h10
  · cases ht
def risC : Ctr := ⟨21, fun | [.v (.agg [.int _ .u8 a, .int _ .u8 f, .int _ .u8 b, .int _ .u8 c, .int _ .u8 d, .int _ .u8 e, .int _ .u8 h, .int _ .u8 l, .int _ .u16 sp, .int _ .u16 pc]), .v (.one (.int ln .i64 n))] => some (.chk (RB a f b c d e h l sp pc) (.leaf (.v (.one (.bool false (Rg.isB f n)))))) | _ => none⟩
theorem risC_ok (w0 : World) : risC.ok Try.prog w0 := by
  refine ⟨⟨_, Try.func21, rfl⟩, fun args t ht => ?_⟩
  unfold risC at ht
  simp only at ht
  split at ht
  · cases ht
    refine ⟨rfl, fun K hK => ⟨_, hK.2, rfl, fun w _ => ?_⟩⟩
    obtain ⟨⟨h1, h2, h3, h4, h5, h6, h7, h8, h9, h10⟩, _⟩ := hK
    exact ris_any w _ _ _ _ _ _ _ _ _ _ _ h1 h2 h3 h4 h5 h6 h7 h8 h9 h10
  · cases ht
def getC : Ctr := ⟨12, fun | [.v (.agg [.int _ .u8 a, .int _ .u8 f, .int _ .u8 b, .int _ .u8 c, .int _ .u8 d, .int _ .u8 e, .int _ .u8 h, .int _ .u8 l, .int _ .u16 sp, .int _ .u16 pc]), .v (.one (.int ln .i64 n))] => some (.chk (RB a f b c d e h l sp pc) (.leaf (.tuple [.one (.int false .u8 (Rg.gv n a b c d e h l)), .one (.int ln .i64 (Rg.ge n))]))) | _ => none⟩
theorem getC_ok (w0 : World) : getC.ok Try.prog w0 := by
  refine ⟨⟨_, Try.func12, rfl⟩, fun args t ht => ?_⟩
  unfold getC at ht
  simp only at ht
  split at ht
  · cases ht
    refine ⟨rfl, fun K hK => ⟨_, hK.2, rfl, fun w _ => ?_⟩⟩
    obtain ⟨⟨h1, h2, h3, h4, h5, h6, h7, h8, h9, h10⟩, _⟩ := hK
    exact get_any w _ _ _ _ _ _ _ _ _ _ _ h1 h2 h3 h4 h5 h6 h7 h8 h9 h10
  · cases ht
def rgetC : Ctr := ⟨18, fun | [.v (.agg [.int _ .u8 a, .int _ .u8 f, .int _ .u8 b, .int _ .u8 c, .int _ .u8 d, .int _ .u8 e, .int _ .u8 h, .int _ .u8 l, .int _ .u16 sp, .int _ .u16 pc]), .v (.one (.int ln .i64 n))] => some (.chk (RB a f b c d e h l sp pc) (.leaf (.tuple [.one (.int false .u8 (Rg.gv n a b c d e h l)), .one (.int ln .i64 (Rg.ge n))]))) | _ => none⟩
theorem rgetC_ok (w0 : World) : rgetC.ok Try.prog w0 := by
  refine ⟨⟨_, Try.func18, rfl⟩, fun args t ht => ?_⟩
  unfold rgetC at ht
  simp only at ht
  split at ht
  · cases ht
    refine ⟨rfl, fun K hK => ⟨_, hK.2, rfl, fun w _ => ?_⟩⟩
    obtain ⟨⟨h1, h2, h3, h4, h5, h6, h7, h8, h9, h10⟩, _⟩ := hK
    exact rget_any w _ _ _ _ _ _ _ _ _ _ _ h1 h2 h3 h4 h5 h6 h7 h8 h9 h10
  · cases ht
def setC : Ctr := ⟨11, fun | [.v (.agg [.int _ .u8 a, .int _ .u8 f, .int _ .u8 b, .int _ .u8 c, .int _ .u8 d, .int _ .u8 e, .int _ .u8 h, .int _ .u8 l, .int _ .u16 sp, .int _ .u16 pc]), .v (.one (.int ln .i64 n)), .v (.one (.int _ .u8 x))] => some (.chk (RB a f b c d e h l sp pc) (.leaf (.tuple [.agg [.int false .u8 (Rg.sv 7 n x a), .int false .u8 (Rg.sv 9 n x f), .int false .u8 (Rg.sv 0 n x b), .int false .u8 (Rg.sv 1 n x c), .int false .u8 (Rg.sv 2 n x d), .int false .u8 (Rg.sv 3 n x e), .int false .u8 (Rg.sv 4 n x h), .int false .u8 (Rg.sv 5 n x l), .int false .u16 (Rg.sv 9 n x sp), .int false .u16 (Rg.sv 9 n x pc)], .one (.int ln .i64 (Rg.ge n))]))) | _ => none⟩
theorem setC_ok (w0 : World) : setC.ok Try.prog w0 := by
  refine ⟨⟨_, Try.func11, rfl⟩, fun args t ht => ?_⟩
  unfold setC at ht
  simp only at ht
  split at ht
  · cases ht
    refine ⟨rfl, fun K hK => ⟨_, hK.2, rfl, fun w _ => ?_⟩⟩
    obtain ⟨⟨h1, h2, h3, h4, h5, h6, h7, h8, h9, h10⟩, _⟩ := hK
    exact set_any w _ _ _ _ _ _ _ _ _ _ _ _ h1 h2 h3 h4 h5 h6 h7 h8 h9 h10
  · cases ht
def rsetC : Ctr := ⟨22, fun | [.v (.agg [.int _ .u8 a, .int _ .u8 f, .int _ .u8 b, .int _ .u8 c, .int _ .u8 d, .int _ .u8 e, .int _ .u8 h, .int _ .u8 l, .int _ .u16 sp, .int _ .u16 pc]), .v (.one (.int ln .i64 n)), .v (.one (.int _ .u8 x))] => some (.chk (RB a f b c d e h l sp pc) (.leaf (.tuple [.agg [.int false .u8 (Rg.sv 7 n x a), .int false .u8 (Rg.sv 9 n x f), .int false .u8 (Rg.sv 0 n x b), .int false .u8 (Rg.sv 1 n x c), .int false .u8 (Rg.sv 2 n x d), .int false .u8 (Rg.sv 3 n x e), .int false .u8 (Rg.sv 4 n x h), .int false .u8 (Rg.sv 5 n x l), .int false .u16 (Rg.sv 9 n x sp), .int false .u16 (Rg.sv 9 n x pc)], .one (.int ln .i64 (Rg.ge n))]))) | _ => none⟩
theorem rsetC_ok (w0 : World) : rsetC.ok Try.prog w0 := by
  refine ⟨⟨_, Try.func22, rfl⟩, fun args t ht => ?_⟩
  unfold rsetC at ht
  simp only at ht
  split at ht
  · cases ht
    refine ⟨rfl, fun K hK => ⟨_, hK.2, rfl, fun w _ => ?_⟩⟩
    obtain ⟨⟨h1, h2, h3, h4, h5, h6, h7, h8, h9, h10⟩, _⟩ := hK
    exact rset_any w _ _ _ _ _ _ _ _ _ _ _ _ h1 h2 h3 h4 h5 h6 h7 h8 h9 h10
  · cases ht
def pairC : Ctr := ⟨19, fun | [.v (.agg [.int _ .u8 a, .int _ .u8 f, .int _ .u8 b, .int _ .u8 c, .int _ .u8 d, .int _ .u8 e, .int _ .u8 h, .int _ .u8 l, .int _ .u16 sp, .int _ .u16 pc]), .v (.one (.int ln .i64 n))] => some (.chk (RB a f b c d e h l sp pc) (.leaf (.tuple [.one (.int false .u16 (Rg.pv n a f b c d e h l sp)), .one (.int ln .i64 (Rg.pe n))]))) | _ => none⟩
theorem pairC_ok (w0 : World) : pairC.ok Try.prog w0 := by
  refine ⟨⟨_, Try.func19, rfl⟩, fun args t ht => ?_⟩
  unfold pairC at ht
  simp only at ht
  split at ht
  · cases ht
    refine ⟨rfl, fun K hK => ⟨_, hK.2, rfl, fun w _ => ?_⟩⟩
    obtain ⟨⟨h1, h2, h3, h4, h5, h6, h7, h8, h9, h10⟩, _⟩ := hK
    exact pair_any w _ _ _ _ _ _ _ _ _ _ _ h1 h2 h3 h4 h5 h6 h7 h8 h9 h10
  · cases ht
def rpairC : Ctr := ⟨20, fun | [.v (.agg [.int _ .u8 a, .int _ .u8 f, .int _ .u8 b, .int _ .u8 c, .int _ .u8 d, .int _ .u8 e, .int _ .u8 h, .int _ .u8 l, .int _ .u16 sp, .int _ .u16 pc]), .v (.one (.int ln .i64 n))] => some (.chk (RB a f b c d e h l sp pc) (.leaf (.tuple [.one (.int false .u16 (Rg.pv n a f b c d e h l sp)), .one (.int ln .i64 (Rg.pe n))]))) | _ => none⟩
theorem rpairC_ok (w0 : World) : rpairC.ok Try.prog w0 := by
  refine ⟨⟨_, Try.func20, rfl⟩, fun args t ht => ?_⟩
  unfold rpairC at ht
  simp only at ht
  split at ht
  · cases ht
    refine ⟨rfl, fun K hK => ⟨_, hK.2, rfl, fun w _ => ?_⟩⟩
    obtain ⟨⟨h1, h2, h3, h4, h5, h6, h7, h8, h9, h10⟩, _⟩ := hK
    exact rpair_any w _ _ _ _ _ _ _ _ _ _ _ h1 h2 h3 h4 h5 h6 h7 h8 h9 h10
  · cases ht
def setpC : Ctr := ⟨23, fun | [.v (.agg [.int _ .u8 a, .int _ .u8 f, .int _ .u8 b, .int _ .u8 c, .int _ .u8 d, .int _ .u8 e, .int _ .u8 h, .int _ .u8 l, .int _ .u16 sp, .int _ .u16 pc]), .v (.one (.int ln .i64 n)), .v (.one (.int _ .u16 x))] => some (.chk (RB a f b c d e h l sp pc ∧ Rg.W x) (.leaf (.tuple [.agg [.int false .u8 (Rg.tv 4 n (x / 256) a), .int false .u8 (Rg.tv 4 n (Rg.up (x % 256)) f), .int false .u8 (Rg.tv 0 n (x / 256) b), .int false .u8 (Rg.tv 0 n (x % 256) c), .int false .u8 (Rg.tv 1 n (x / 256) d), .int false .u8 (Rg.tv 1 n (x % 256) e), .int false .u8 (Rg.tv 2 n (x / 256) h), .int false .u8 (Rg.tv 2 n (x % 256) l), .int false .u16 (Rg.tv 3 n x sp), .int false .u16 (Rg.tv 9 n x pc)], .one (.int ln .i64 (Rg.pe n))]))) | _ => none⟩
theorem setpC_ok (w0 : World) : setpC.ok Try.prog w0 := by
  refine ⟨⟨_, Try.func23, rfl⟩, fun args t ht => ?_⟩
  unfold setpC at ht
  simp only at ht
  split at ht
  · cases ht
    refine ⟨rfl, fun K hK => ⟨_, hK.2, rfl, fun w _ => ?_⟩⟩
    obtain ⟨⟨⟨h1, h2, h3, h4, h5, h6, h7, h8, h9, h10⟩, hx⟩, _⟩ := hK
    exact setp_any w _ _ _ _ _ _ _ _ _ _ _ _ h1 h2 h3 h4 h5 h6 h7 h8 h9 h10 hx
  · cases ht
def rsetpC : Ctr := ⟨24, fun | [.v (.agg [.int _ .u8 a, .int _ .u8 f, .int _ .u8 b, .int _ .u8 c, .int _ .u8 d, .int _ .u8 e, .int _ .u8 h, .int _ .u8 l, .int _ .u16 sp, .int _ .u16 pc]), .v (.one (.int ln .i64 n)), .v (.one (.int _ .u16 x))] => some (.chk (RB a f b c d e h l sp pc ∧ Rg.W x) (.leaf (.tuple [.agg [.int false .u8 (Rg.tv 4 n (x / 256) a), .int false .u8 (Rg.tv 4 n (Rg.up (x % 256)) f), .int false .u8 (Rg.tv 0 n (x / 256) b), .int false .u8 (Rg.tv 0 n (x % 256) c), .int false .u8 (Rg.tv 1 n (x / 256) d), .int false .u8 (Rg.tv 1 n (x % 256) e), .int false .u8 (Rg.tv 2 n (x / 256) h), .int false .u8 (Rg.tv 2 n (x % 256) l), .int false .u16 (Rg.tv 3 n x sp), .int false .u16 (Rg.tv 9 n x pc)], .one (.int ln .i64 (Rg.pe n))]))) | _ => none⟩
theorem rsetpC_ok (w0 : World) : rsetpC.ok Try.prog w0 := by
  refine ⟨⟨_, Try.func24, rfl⟩, fun args t ht => ?_⟩
  unfold rsetpC at ht
  simp only at ht
  split at ht
  · cases ht
    refine ⟨rfl, fun K hK => ⟨_, hK.2, rfl, fun w _ => ?_⟩⟩
    obtain ⟨⟨⟨h1, h2, h3, h4, h5, h6, h7, h8, h9, h10⟩, hx⟩, _⟩ := hK
    exact rsetp_any w _ _ _ _ _ _ _ _ _ _ _ _ h1 h2 h3 h4 h5 h6 h7 h8 h9 h10 hx
  · cases ht
theorem awake_tree (w : World) : callV Try.prog w (fun _ => false) noCtr noLoop 20 9 [] =
(.leaf (.v (.one (.bool true true)))) := by kernel_rfl
def awakeC : Ctr := ⟨9, fun | [] => some (.leaf (.v (.one (.bool true true)))) | _ => none⟩
theorem awakeC_ok (w0 : World) : awakeC.ok Try.prog w0 := by
  refine ⟨⟨_, Try.func9, rfl⟩, fun args t ht => ?_⟩
  unfold awakeC at ht
  simp only at ht
  split at ht
  · cases ht
    exact ⟨rfl, fun K hK => ⟨_, hK, rfl, fun w _ => val_eq base (ctrs_none _ _) (loops_none _ _) (awake_tree w) rfl ⟨rfl, rfl⟩⟩⟩
  · cases ht
def table : List Ctr := [isC, risC, getC, rgetC, setC, rsetC, pairC, rpairC, setpC, rsetpC, awakeC]
theorem table_ok (w0 : World) : Ctrs Try.prog w0 (ctrOf table) := ctrs_of fun c hc => by
  simp only [table, List.mem_cons, List.not_mem_nil, or_false] at hc
  rcases hc with rfl | rfl | rfl | rfl | rfl | rfl | rfl | rfl | rfl | rfl | rfl
  · exact isC_ok w0
  · exact risC_ok w0
  · exact getC_ok w0
  · exact rgetC_ok w0
  · exact setC_ok w0
  · exact rsetC_ok w0
  · exact pairC_ok w0
  · exact rpairC_ok w0
  · exact setpC_ok w0
  · exact rsetpC_ok w0
  · exact awakeC_ok w0
end Go.Proofs.Ytmpkhjimemdhhaa
