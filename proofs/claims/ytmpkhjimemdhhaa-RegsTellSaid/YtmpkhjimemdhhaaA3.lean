/-
  Walks of the statements of the registers, by computing: whatever the input, true. Bytes are below 256, words below 65536; no other condition.
-/
import Derived.Test.YtmpkhjimemdhhaaA2
namespace Go.Proofs.Ytmpkhjimemdhhaa
open Go.RowKit sym
set_option linter.unusedVariables false
set_option linter.unusedSimpArgs false
set_option maxRecDepth 100000
theorem RB_mk {a f b c d e h l sp pc : Int} (h1 : Rg.B a) (h2 : Rg.B f) (h3 : Rg.B b) (h4 : Rg.B c) (h5 : Rg.B d) (h6 : Rg.B e) (h7 : Rg.B h) (h8 : Rg.B l) (h9 : Rg.W sp) (h10 : Rg.W pc) : RB a f b c d e h l sp pc := ⟨h1, h2, h3, h4, h5, h6, h7, h8, h9, h10⟩
theorem sv_B {k n x y : Int} (hx : Rg.B x) (hy : Rg.B y) : Rg.B (Rg.sv k n x y) := by
  unfold Rg.sv; repeat' split
  · exact hx
  · exact hy
  · exact ⟨by omega, by omega⟩
theorem sv_W {n x y : Int} (hx : Rg.B x) (hy : Rg.W y) : Rg.W (Rg.sv 9 n x y) := by
  unfold Rg.sv; repeat' split
  · exact ⟨hx.1, by have := hx.2; omega⟩
  · exact hy
  · exact ⟨by omega, by omega⟩
theorem tv_B {k n x y : Int} (hx : Rg.B x) (hy : Rg.B y) : Rg.B (Rg.tv k n x y) := by
  unfold Rg.tv; repeat' split
  · exact hx
  · exact hy
  · exact ⟨by omega, by omega⟩
theorem tv_W {k n x y : Int} (hx : Rg.W x) (hy : Rg.W y) : Rg.W (Rg.tv k n x y) := by
  unfold Rg.tv; repeat' split
  · exact hx
  · exact hy
  · exact ⟨by omega, by omega⟩
theorem sv_RB {a f b c d e h l sp pc n x : Int} (hr : RB a f b c d e h l sp pc) (hx : Rg.B x) : RB (Rg.sv 7 n x a) (Rg.sv 9 n x f) (Rg.sv 0 n x b) (Rg.sv 1 n x c) (Rg.sv 2 n x d) (Rg.sv 3 n x e) (Rg.sv 4 n x h) (Rg.sv 5 n x l) (Rg.sv 9 n x sp) (Rg.sv 9 n x pc) := by
  obtain ⟨h1, h2, h3, h4, h5, h6, h7, h8, h9, h10⟩ := hr
  exact ⟨sv_B hx h1, sv_B hx h2, sv_B hx h3, sv_B hx h4, sv_B hx h5, sv_B hx h6, sv_B hx h7, sv_B hx h8, sv_W hx h9, sv_W hx h10⟩
theorem hi_B {x : Int} (h : Rg.W x) : Rg.B (x / 256) := ⟨by have := h.1; omega, by have := h.2; omega⟩
theorem lo_B {x : Int} (h : Rg.W x) : Rg.B (x % 256) := ⟨by have := h.1; omega, by have := h.2; omega⟩
theorem tv_RB {a f b c d e h l sp pc n x : Int} (hr : RB a f b c d e h l sp pc) (hx : Rg.W x) : RB (Rg.tv 4 n (x / 256) a) (Rg.tv 4 n (Rg.up (x % 256)) f) (Rg.tv 0 n (x / 256) b) (Rg.tv 0 n (x % 256) c) (Rg.tv 1 n (x / 256) d) (Rg.tv 1 n (x % 256) e) (Rg.tv 2 n (x / 256) h) (Rg.tv 2 n (x % 256) l) (Rg.tv 3 n x sp) (Rg.tv 9 n x pc) := by
  obtain ⟨h1, h2, h3, h4, h5, h6, h7, h8, h9, h10⟩ := hr
  exact ⟨tv_B (hi_B hx) h1, tv_B (Rg.up_B (lo_B hx)) h2, tv_B (hi_B hx) h3, tv_B (lo_B hx) h4, tv_B (hi_B hx) h5, tv_B (lo_B hx) h6, tv_B (hi_B hx) h7, tv_B (lo_B hx) h8, tv_W hx h9, tv_W hx h10⟩
theorem conds_tree (w : World) (f odd : Int) :
    callV Try.prog w (flatT Try.prog) (ctrOf table) noLoop 20 3 [.v (.one (.int false .u8 f)), .v (.one (.int false .i64 odd))] =
(.chk (RB (0 : Int) f (0 : Int) (0 : Int) (0 : Int) (0 : Int) (0 : Int) (0 : Int) (0 : Int)
  (0 : Int))
(.chk (RB (0 : Int) f (0 : Int) (0 : Int) (0 : Int) (0 : Int) (0 : Int) (0 : Int) (0 : Int)
  (0 : Int))
(.br (!Rg.isB f (0 : Int) == Rg.isB f (1 : Int))
 (.chk (RB (0 : Int) f (0 : Int) (0 : Int) (0 : Int) (0 : Int) (0 : Int) (0 : Int) (0 : Int)
  (0 : Int))
 (.chk (RB (0 : Int) f (0 : Int) (0 : Int) (0 : Int) (0 : Int) (0 : Int) (0 : Int) (0 : Int)
  (0 : Int))
 (.br (!Rg.isB f (2 : Int) == Rg.isB f (3 : Int))
  (.chk (RB (0 : Int) f (0 : Int) (0 : Int) (0 : Int) (0 : Int) (0 : Int) (0 : Int) (0 : Int)
  (0 : Int))
  (.br (Rg.isB f (1 : Int) == (bits BinOp.and IntKind.u8 f (128 : Int) != (0 : Int)))
   (.chk (RB (0 : Int) f (0 : Int) (0 : Int) (0 : Int) (0 : Int) (0 : Int) (0 : Int) (0 : Int)
  (0 : Int))
   (.br (Rg.isB f (3 : Int) == (bits BinOp.and IntKind.u8 f (16 : Int) != (0 : Int)))
    (.chk (RB (0 : Int) f (0 : Int) (0 : Int) (0 : Int) (0 : Int) (0 : Int) (0 : Int) (0 : Int)
  (0 : Int))
    (.br (Rg.isB f (4 : Int))
     (.br (decide (odd ≥ (0 : Int)))
      (.br (decide (odd ≤ (4 : Int)))
       (.leaf (.v (.one (.bool true true))))
       (.chk (RB (0 : Int) f (0 : Int) (0 : Int) (0 : Int) (0 : Int) (0 : Int) (0 : Int) (0 : Int)
  (0 : Int))
       (.leaf (.v (.one (.bool false (!Rg.isB f odd)))))))
      (.chk (RB (0 : Int) f (0 : Int) (0 : Int) (0 : Int) (0 : Int) (0 : Int) (0 : Int) (0 : Int)
  (0 : Int))
      (.leaf (.v (.one (.bool false (!Rg.isB f odd)))))))
     (.leaf (.v (.one (.bool true false))))))
    (.leaf (.v (.one (.bool true false))))))
   (.leaf (.v (.one (.bool true false))))))
  (.leaf (.v (.one (.bool true false)))))))
 (.leaf (.v (.one (.bool true false))))))) := by kernel_rfl
theorem keep_tree (w : World) (a f b c d e h l sp pc n k x : Int) :
    callV Try.prog w (flatT Try.prog) (ctrOf table) noLoop 20 4 [.v (.agg [.int false .u8 a, .int false .u8 f, .int false .u8 b, .int false .u8 c, .int false .u8 d, .int false .u8 e, .int false .u8 h, .int false .u8 l, .int false .u16 sp, .int false .u16 pc]), .v (.one (.int false .u8 n)), .v (.one (.int false .u8 k)), .v (.one (.int false .u8 x))] =
(.chk (RB a f b c d e h l sp pc)
(.br (IntKind.i64.wrap (n.tmod (8 : Int)) == (6 : Int))
 (.br (Rg.ge (IntKind.i64.wrap (n.tmod (8 : Int))) == (1 : Int))
  (.leaf (.v (.one (.bool false (Rg.sv (7 : Int) (IntKind.i64.wrap (n.tmod (8 : Int))) x a == (0 : Int) &&
  (Rg.sv (9 : Int) (IntKind.i64.wrap (n.tmod (8 : Int))) x f == (0 : Int) &&
    (Rg.sv (0 : Int) (IntKind.i64.wrap (n.tmod (8 : Int))) x b == (0 : Int) &&
      (Rg.sv (1 : Int) (IntKind.i64.wrap (n.tmod (8 : Int))) x c == (0 : Int) &&
        (Rg.sv (2 : Int) (IntKind.i64.wrap (n.tmod (8 : Int))) x d == (0 : Int) &&
          (Rg.sv (3 : Int) (IntKind.i64.wrap (n.tmod (8 : Int))) x e == (0 : Int) &&
            (Rg.sv (4 : Int) (IntKind.i64.wrap (n.tmod (8 : Int))) x h == (0 : Int) &&
              (Rg.sv (5 : Int) (IntKind.i64.wrap (n.tmod (8 : Int))) x l == (0 : Int) &&
                (Rg.sv (9 : Int) (IntKind.i64.wrap (n.tmod (8 : Int))) x sp ==
                    (0 : Int) &&
                  (Rg.sv (9 : Int) (IntKind.i64.wrap (n.tmod (8 : Int))) x pc ==
                      (0 : Int) &&
                    true))))))))))))))
  (.leaf (.v (.one (.bool true false)))))
 (.chk (RB (Rg.sv (7 : Int) (IntKind.i64.wrap (n.tmod (8 : Int))) x a)
  (Rg.sv (9 : Int) (IntKind.i64.wrap (n.tmod (8 : Int))) x f)
  (Rg.sv (0 : Int) (IntKind.i64.wrap (n.tmod (8 : Int))) x b)
  (Rg.sv (1 : Int) (IntKind.i64.wrap (n.tmod (8 : Int))) x c)
  (Rg.sv (2 : Int) (IntKind.i64.wrap (n.tmod (8 : Int))) x d)
  (Rg.sv (3 : Int) (IntKind.i64.wrap (n.tmod (8 : Int))) x e)
  (Rg.sv (4 : Int) (IntKind.i64.wrap (n.tmod (8 : Int))) x h)
  (Rg.sv (5 : Int) (IntKind.i64.wrap (n.tmod (8 : Int))) x l)
  (Rg.sv (9 : Int) (IntKind.i64.wrap (n.tmod (8 : Int))) x sp)
  (Rg.sv (9 : Int) (IntKind.i64.wrap (n.tmod (8 : Int))) x pc))
 (.chk (RB (Rg.sv (7 : Int) (IntKind.i64.wrap (n.tmod (8 : Int))) x a)
  (Rg.sv (9 : Int) (IntKind.i64.wrap (n.tmod (8 : Int))) x f)
  (Rg.sv (0 : Int) (IntKind.i64.wrap (n.tmod (8 : Int))) x b)
  (Rg.sv (1 : Int) (IntKind.i64.wrap (n.tmod (8 : Int))) x c)
  (Rg.sv (2 : Int) (IntKind.i64.wrap (n.tmod (8 : Int))) x d)
  (Rg.sv (3 : Int) (IntKind.i64.wrap (n.tmod (8 : Int))) x e)
  (Rg.sv (4 : Int) (IntKind.i64.wrap (n.tmod (8 : Int))) x h)
  (Rg.sv (5 : Int) (IntKind.i64.wrap (n.tmod (8 : Int))) x l)
  (Rg.sv (9 : Int) (IntKind.i64.wrap (n.tmod (8 : Int))) x sp)
  (Rg.sv (9 : Int) (IntKind.i64.wrap (n.tmod (8 : Int))) x pc))
 (.chk (RB a f b c d e h l sp pc)
 (.br (Rg.ge (IntKind.i64.wrap (n.tmod (8 : Int))) == (0 : Int))
  (.br (Rg.ge (IntKind.i64.wrap (n.tmod (8 : Int))) == (0 : Int))
   (.br (Rg.gv (IntKind.i64.wrap (n.tmod (8 : Int)))
    (Rg.sv (7 : Int) (IntKind.i64.wrap (n.tmod (8 : Int))) x a)
    (Rg.sv (0 : Int) (IntKind.i64.wrap (n.tmod (8 : Int))) x b)
    (Rg.sv (1 : Int) (IntKind.i64.wrap (n.tmod (8 : Int))) x c)
    (Rg.sv (2 : Int) (IntKind.i64.wrap (n.tmod (8 : Int))) x d)
    (Rg.sv (3 : Int) (IntKind.i64.wrap (n.tmod (8 : Int))) x e)
    (Rg.sv (4 : Int) (IntKind.i64.wrap (n.tmod (8 : Int))) x h)
    (Rg.sv (5 : Int) (IntKind.i64.wrap (n.tmod (8 : Int))) x l) ==
  x)
    (.br (Rg.ge (IntKind.i64.wrap (k.tmod (8 : Int))) ==
  Rg.ge (IntKind.i64.wrap (k.tmod (8 : Int))))
     (.br (IntKind.i64.wrap (n.tmod (8 : Int)) == IntKind.i64.wrap (k.tmod (8 : Int)))
      (.br (Rg.sv (9 : Int) (IntKind.i64.wrap (n.tmod (8 : Int))) x f == f)
       (.br (Rg.sv (9 : Int) (IntKind.i64.wrap (n.tmod (8 : Int))) x sp == sp)
        (.br (Rg.sv (9 : Int) (IntKind.i64.wrap (n.tmod (8 : Int))) x pc == pc)
         (.leaf (.v (.one (.bool false (a == a &&
  (f == f &&
    (b == b && (c == c && (d == d && (e == e && (h == h && (l == l && (sp == sp && (pc == pc && true))))))))))))))
         (.leaf (.v (.one (.bool true false)))))
        (.leaf (.v (.one (.bool true false)))))
       (.leaf (.v (.one (.bool true false)))))
      (.br (Rg.gv (IntKind.i64.wrap (k.tmod (8 : Int)))
    (Rg.sv (7 : Int) (IntKind.i64.wrap (n.tmod (8 : Int))) x a)
    (Rg.sv (0 : Int) (IntKind.i64.wrap (n.tmod (8 : Int))) x b)
    (Rg.sv (1 : Int) (IntKind.i64.wrap (n.tmod (8 : Int))) x c)
    (Rg.sv (2 : Int) (IntKind.i64.wrap (n.tmod (8 : Int))) x d)
    (Rg.sv (3 : Int) (IntKind.i64.wrap (n.tmod (8 : Int))) x e)
    (Rg.sv (4 : Int) (IntKind.i64.wrap (n.tmod (8 : Int))) x h)
    (Rg.sv (5 : Int) (IntKind.i64.wrap (n.tmod (8 : Int))) x l) ==
  Rg.gv (IntKind.i64.wrap (k.tmod (8 : Int))) a b c d e h l)
       (.br (Rg.sv (9 : Int) (IntKind.i64.wrap (n.tmod (8 : Int))) x f == f)
        (.br (Rg.sv (9 : Int) (IntKind.i64.wrap (n.tmod (8 : Int))) x sp == sp)
         (.br (Rg.sv (9 : Int) (IntKind.i64.wrap (n.tmod (8 : Int))) x pc == pc)
          (.leaf (.v (.one (.bool false (a == a &&
  (f == f &&
    (b == b && (c == c && (d == d && (e == e && (h == h && (l == l && (sp == sp && (pc == pc && true))))))))))))))
          (.leaf (.v (.one (.bool true false)))))
         (.leaf (.v (.one (.bool true false)))))
        (.leaf (.v (.one (.bool true false)))))
       (.leaf (.v (.one (.bool true false))))))
     (.leaf (.v (.one (.bool true false)))))
    (.leaf (.v (.one (.bool true false)))))
   (.leaf (.v (.one (.bool true false)))))
  (.leaf (.v (.one (.bool true false)))))))))) := by kernel_rfl
theorem tell_tree (w : World) (a f b c d e h l sp pc n x y : Int) :
    callV Try.prog w (flatT Try.prog) (ctrOf table) noLoop 20 7 [.v (.agg [.int false .u8 a, .int false .u8 f, .int false .u8 b, .int false .u8 c, .int false .u8 d, .int false .u8 e, .int false .u8 h, .int false .u8 l, .int false .u16 sp, .int false .u16 pc]), .v (.one (.int false .i64 n)), .v (.one (.int false .u8 x)), .v (.one (.int false .u16 y))] =
(.chk (RB a f b c d e h l sp pc)
(.chk (RB a f b c d e h l sp pc)
(.chk (RB a f b c d e h l sp pc)
(.chk (RB a f b c d e h l sp pc)
(.br (Rg.gv n a b c d e h l != Rg.gv n a b c d e h l)
 (.leaf (.v (.one (.bool true false))))
 (.br (Rg.ge n != Rg.ge n)
  (.leaf (.v (.one (.bool true false))))
  (.br (Rg.pv n a f b c d e h l sp != Rg.pv n a f b c d e h l sp)
   (.leaf (.v (.one (.bool true false))))
   (.br (Rg.pe n != Rg.pe n)
    (.leaf (.v (.one (.bool true false))))
    (.chk (RB a f b c d e h l sp pc)
    (.chk (RB a f b c d e h l sp pc)
    (.br (!Rg.isB f n == Rg.isB f n)
     (.leaf (.v (.one (.bool true false))))
     (.chk (RB a f b c d e h l sp pc)
     (.chk (RB a f b c d e h l sp pc)
     (.chk (RB a f b c d e h l sp pc ∧ Rg.W y)
     (.chk (RB a f b c d e h l sp pc ∧ Rg.W y)
     (.br (Rg.sv (7 : Int) n x a == Rg.sv (7 : Int) n x a &&
  (Rg.sv (9 : Int) n x f == Rg.sv (9 : Int) n x f &&
    (Rg.sv (0 : Int) n x b == Rg.sv (0 : Int) n x b &&
      (Rg.sv (1 : Int) n x c == Rg.sv (1 : Int) n x c &&
        (Rg.sv (2 : Int) n x d == Rg.sv (2 : Int) n x d &&
          (Rg.sv (3 : Int) n x e == Rg.sv (3 : Int) n x e &&
            (Rg.sv (4 : Int) n x h == Rg.sv (4 : Int) n x h &&
              (Rg.sv (5 : Int) n x l == Rg.sv (5 : Int) n x l &&
                (Rg.sv (9 : Int) n x sp ==
                    Rg.sv (9 : Int) n x sp &&
                  (Rg.sv (9 : Int) n x pc ==
                      Rg.sv (9 : Int) n x pc &&
                    true))))))))))
      (.br (Rg.ge n == Rg.ge n)
       (.br (Rg.tv (4 : Int) n (y / (256 : Int)) a ==
    Rg.tv (4 : Int) n (y / (256 : Int)) a &&
  (Rg.tv (4 : Int) n (Rg.up (y % (256 : Int))) f ==
      Rg.tv (4 : Int) n (Rg.up (y % (256 : Int))) f &&
    (Rg.tv (0 : Int) n (y / (256 : Int)) b ==
        Rg.tv (0 : Int) n (y / (256 : Int)) b &&
      (Rg.tv (0 : Int) n (y % (256 : Int)) c ==
          Rg.tv (0 : Int) n (y % (256 : Int)) c &&
        (Rg.tv (1 : Int) n (y / (256 : Int)) d ==
            Rg.tv (1 : Int) n (y / (256 : Int)) d &&
          (Rg.tv (1 : Int) n (y % (256 : Int)) e ==
              Rg.tv (1 : Int) n (y % (256 : Int)) e &&
            (Rg.tv (2 : Int) n (y / (256 : Int)) h ==
                Rg.tv (2 : Int) n (y / (256 : Int)) h &&
              (Rg.tv (2 : Int) n (y % (256 : Int)) l ==
                  Rg.tv (2 : Int) n (y % (256 : Int)) l &&
                (Rg.tv (3 : Int) n y sp ==
                    Rg.tv (3 : Int) n y sp &&
                  (Rg.tv (9 : Int) n y pc ==
                      Rg.tv (9 : Int) n y pc &&
                    true))))))))))
        (.leaf (.v (.one (.bool false (Rg.pe n == Rg.pe n)))))
        (.leaf (.v (.one (.bool true false)))))
       (.leaf (.v (.one (.bool true false)))))
      (.leaf (.v (.one (.bool true false)))))))))))))))))))) := by kernel_rfl
theorem pairs_tree (w : World) (a f b c d e h l sp pc n k x : Int) :
    callV Try.prog w (flatT Try.prog) (ctrOf table) noLoop 20 8 [.v (.agg [.int false .u8 a, .int false .u8 f, .int false .u8 b, .int false .u8 c, .int false .u8 d, .int false .u8 e, .int false .u8 h, .int false .u8 l, .int false .u16 sp, .int false .u16 pc]), .v (.one (.int false .u8 n)), .v (.one (.int false .u8 k)), .v (.one (.int false .u16 x))] =
(.chk (RB a f b c d e h l sp pc ∧ Rg.W x)
(.chk (RB
  (Rg.tv (4 : Int) (IntKind.i64.wrap (n.tmod (5 : Int))) (x / (256 : Int)) a)
  (Rg.tv (4 : Int) (IntKind.i64.wrap (n.tmod (5 : Int)))
    (Rg.up (x % (256 : Int))) f)
  (Rg.tv (0 : Int) (IntKind.i64.wrap (n.tmod (5 : Int))) (x / (256 : Int)) b)
  (Rg.tv (0 : Int) (IntKind.i64.wrap (n.tmod (5 : Int))) (x % (256 : Int)) c)
  (Rg.tv (1 : Int) (IntKind.i64.wrap (n.tmod (5 : Int))) (x / (256 : Int)) d)
  (Rg.tv (1 : Int) (IntKind.i64.wrap (n.tmod (5 : Int))) (x % (256 : Int)) e)
  (Rg.tv (2 : Int) (IntKind.i64.wrap (n.tmod (5 : Int))) (x / (256 : Int)) h)
  (Rg.tv (2 : Int) (IntKind.i64.wrap (n.tmod (5 : Int))) (x % (256 : Int)) l)
  (Rg.tv (3 : Int) (IntKind.i64.wrap (n.tmod (5 : Int))) x sp)
  (Rg.tv (9 : Int) (IntKind.i64.wrap (n.tmod (5 : Int))) x pc))
(.chk (RB
  (Rg.tv (4 : Int) (IntKind.i64.wrap (n.tmod (5 : Int))) (x / (256 : Int)) a)
  (Rg.tv (4 : Int) (IntKind.i64.wrap (n.tmod (5 : Int)))
    (Rg.up (x % (256 : Int))) f)
  (Rg.tv (0 : Int) (IntKind.i64.wrap (n.tmod (5 : Int))) (x / (256 : Int)) b)
  (Rg.tv (0 : Int) (IntKind.i64.wrap (n.tmod (5 : Int))) (x % (256 : Int)) c)
  (Rg.tv (1 : Int) (IntKind.i64.wrap (n.tmod (5 : Int))) (x / (256 : Int)) d)
  (Rg.tv (1 : Int) (IntKind.i64.wrap (n.tmod (5 : Int))) (x % (256 : Int)) e)
  (Rg.tv (2 : Int) (IntKind.i64.wrap (n.tmod (5 : Int))) (x / (256 : Int)) h)
  (Rg.tv (2 : Int) (IntKind.i64.wrap (n.tmod (5 : Int))) (x % (256 : Int)) l)
  (Rg.tv (3 : Int) (IntKind.i64.wrap (n.tmod (5 : Int))) x sp)
  (Rg.tv (9 : Int) (IntKind.i64.wrap (n.tmod (5 : Int))) x pc))
(.chk (RB a f b c d e h l sp pc)
(.br (IntKind.i64.wrap (n.tmod (5 : Int)) == (4 : Int))
 (.br (Rg.pe (IntKind.i64.wrap (n.tmod (5 : Int))) != (0 : Int))
  (.leaf (.v (.one (.bool true false))))
  (.br (Rg.pe (IntKind.i64.wrap (n.tmod (5 : Int))) != (0 : Int))
   (.leaf (.v (.one (.bool true false))))
   (.br (Rg.pv (IntKind.i64.wrap (n.tmod (5 : Int)))
    (Rg.tv (4 : Int) (IntKind.i64.wrap (n.tmod (5 : Int))) (x / (256 : Int)) a)
    (Rg.tv (4 : Int) (IntKind.i64.wrap (n.tmod (5 : Int)))
      (Rg.up (x % (256 : Int))) f)
    (Rg.tv (0 : Int) (IntKind.i64.wrap (n.tmod (5 : Int))) (x / (256 : Int)) b)
    (Rg.tv (0 : Int) (IntKind.i64.wrap (n.tmod (5 : Int))) (x % (256 : Int)) c)
    (Rg.tv (1 : Int) (IntKind.i64.wrap (n.tmod (5 : Int))) (x / (256 : Int)) d)
    (Rg.tv (1 : Int) (IntKind.i64.wrap (n.tmod (5 : Int))) (x % (256 : Int)) e)
    (Rg.tv (2 : Int) (IntKind.i64.wrap (n.tmod (5 : Int))) (x / (256 : Int)) h)
    (Rg.tv (2 : Int) (IntKind.i64.wrap (n.tmod (5 : Int))) (x % (256 : Int)) l)
    (Rg.tv (3 : Int) (IntKind.i64.wrap (n.tmod (5 : Int))) x sp) !=
  bits BinOp.andNot IntKind.u16 x (15 : Int))
    (.leaf (.v (.one (.bool true false))))
    (.br (IntKind.i64.wrap (n.tmod (5 : Int)) != IntKind.i64.wrap (k.tmod (5 : Int)))
     (.br (Rg.pv (IntKind.i64.wrap (k.tmod (5 : Int)))
    (Rg.tv (4 : Int) (IntKind.i64.wrap (n.tmod (5 : Int))) (x / (256 : Int)) a)
    (Rg.tv (4 : Int) (IntKind.i64.wrap (n.tmod (5 : Int)))
      (Rg.up (x % (256 : Int))) f)
    (Rg.tv (0 : Int) (IntKind.i64.wrap (n.tmod (5 : Int))) (x / (256 : Int)) b)
    (Rg.tv (0 : Int) (IntKind.i64.wrap (n.tmod (5 : Int))) (x % (256 : Int)) c)
    (Rg.tv (1 : Int) (IntKind.i64.wrap (n.tmod (5 : Int))) (x / (256 : Int)) d)
    (Rg.tv (1 : Int) (IntKind.i64.wrap (n.tmod (5 : Int))) (x % (256 : Int)) e)
    (Rg.tv (2 : Int) (IntKind.i64.wrap (n.tmod (5 : Int))) (x / (256 : Int)) h)
    (Rg.tv (2 : Int) (IntKind.i64.wrap (n.tmod (5 : Int))) (x % (256 : Int)) l)
    (Rg.tv (3 : Int) (IntKind.i64.wrap (n.tmod (5 : Int))) x sp) !=
  Rg.pv (IntKind.i64.wrap (k.tmod (5 : Int))) a f b c d e h l sp)
      (.leaf (.v (.one (.bool true false))))
      (.br (Rg.tv (9 : Int) (IntKind.i64.wrap (n.tmod (5 : Int))) x pc != pc)
       (.leaf (.v (.one (.bool true false))))
       (.br (decide (IntKind.i64.wrap (n.tmod (5 : Int)) < (3 : Int)))
        (.chk (RB
  (Rg.tv (4 : Int) (IntKind.i64.wrap (n.tmod (5 : Int))) (x / (256 : Int)) a)
  (Rg.tv (4 : Int) (IntKind.i64.wrap (n.tmod (5 : Int)))
    (Rg.up (x % (256 : Int))) f)
  (Rg.tv (0 : Int) (IntKind.i64.wrap (n.tmod (5 : Int))) (x / (256 : Int)) b)
  (Rg.tv (0 : Int) (IntKind.i64.wrap (n.tmod (5 : Int))) (x % (256 : Int)) c)
  (Rg.tv (1 : Int) (IntKind.i64.wrap (n.tmod (5 : Int))) (x / (256 : Int)) d)
  (Rg.tv (1 : Int) (IntKind.i64.wrap (n.tmod (5 : Int))) (x % (256 : Int)) e)
  (Rg.tv (2 : Int) (IntKind.i64.wrap (n.tmod (5 : Int))) (x / (256 : Int)) h)
  (Rg.tv (2 : Int) (IntKind.i64.wrap (n.tmod (5 : Int))) (x % (256 : Int)) l)
  (Rg.tv (3 : Int) (IntKind.i64.wrap (n.tmod (5 : Int))) x sp)
  (Rg.tv (9 : Int) (IntKind.i64.wrap (n.tmod (5 : Int))) x pc))
        (.chk (RB
  (Rg.tv (4 : Int) (IntKind.i64.wrap (n.tmod (5 : Int))) (x / (256 : Int)) a)
  (Rg.tv (4 : Int) (IntKind.i64.wrap (n.tmod (5 : Int)))
    (Rg.up (x % (256 : Int))) f)
  (Rg.tv (0 : Int) (IntKind.i64.wrap (n.tmod (5 : Int))) (x / (256 : Int)) b)
  (Rg.tv (0 : Int) (IntKind.i64.wrap (n.tmod (5 : Int))) (x % (256 : Int)) c)
  (Rg.tv (1 : Int) (IntKind.i64.wrap (n.tmod (5 : Int))) (x / (256 : Int)) d)
  (Rg.tv (1 : Int) (IntKind.i64.wrap (n.tmod (5 : Int))) (x % (256 : Int)) e)
  (Rg.tv (2 : Int) (IntKind.i64.wrap (n.tmod (5 : Int))) (x / (256 : Int)) h)
  (Rg.tv (2 : Int) (IntKind.i64.wrap (n.tmod (5 : Int))) (x % (256 : Int)) l)
  (Rg.tv (3 : Int) (IntKind.i64.wrap (n.tmod (5 : Int))) x sp)
  (Rg.tv (9 : Int) (IntKind.i64.wrap (n.tmod (5 : Int))) x pc))
        (.leaf (.v (.one (.bool false (bits BinOp.or IntKind.u16
    (IntKind.u16.wrap
      (IntKind.u16.wrap
          (Rg.gv (IntKind.i64.wrap ((2 : Int) * IntKind.i64.wrap (n.tmod (5 : Int))))
            (Rg.tv (4 : Int) (IntKind.i64.wrap (n.tmod (5 : Int))) (x / (256 : Int)) a)
            (Rg.tv (0 : Int) (IntKind.i64.wrap (n.tmod (5 : Int))) (x / (256 : Int)) b)
            (Rg.tv (0 : Int) (IntKind.i64.wrap (n.tmod (5 : Int))) (x % (256 : Int)) c)
            (Rg.tv (1 : Int) (IntKind.i64.wrap (n.tmod (5 : Int))) (x / (256 : Int)) d)
            (Rg.tv (1 : Int) (IntKind.i64.wrap (n.tmod (5 : Int))) (x % (256 : Int)) e)
            (Rg.tv (2 : Int) (IntKind.i64.wrap (n.tmod (5 : Int))) (x / (256 : Int)) h)
            (Rg.tv (2 : Int) (IntKind.i64.wrap (n.tmod (5 : Int))) (x % (256 : Int)) l)) *
        (2 : Int) ^ (8 : Nat)))
    (IntKind.u16.wrap
      (Rg.gv
        (IntKind.i64.wrap (IntKind.i64.wrap ((2 : Int) * IntKind.i64.wrap (n.tmod (5 : Int))) + (1 : Int)))
        (Rg.tv (4 : Int) (IntKind.i64.wrap (n.tmod (5 : Int))) (x / (256 : Int)) a)
        (Rg.tv (0 : Int) (IntKind.i64.wrap (n.tmod (5 : Int))) (x / (256 : Int)) b)
        (Rg.tv (0 : Int) (IntKind.i64.wrap (n.tmod (5 : Int))) (x % (256 : Int)) c)
        (Rg.tv (1 : Int) (IntKind.i64.wrap (n.tmod (5 : Int))) (x / (256 : Int)) d)
        (Rg.tv (1 : Int) (IntKind.i64.wrap (n.tmod (5 : Int))) (x % (256 : Int)) e)
        (Rg.tv (2 : Int) (IntKind.i64.wrap (n.tmod (5 : Int))) (x / (256 : Int)) h)
        (Rg.tv (2 : Int) (IntKind.i64.wrap (n.tmod (5 : Int))) (x % (256 : Int)) l))) ==
  x)))))))
        (.br (IntKind.i64.wrap (n.tmod (5 : Int)) == (3 : Int))
         (.br (Rg.tv (3 : Int) (IntKind.i64.wrap (n.tmod (5 : Int))) x sp == x)
          (.leaf (.v (.one (.bool true true))))
          (.br (IntKind.i64.wrap (n.tmod (5 : Int)) == (4 : Int))
           (.br (Rg.tv (4 : Int) (IntKind.i64.wrap (n.tmod (5 : Int))) (x / (256 : Int)) a ==
  IntKind.u8.wrap (x.fdiv ((2 : Int) ^ (8 : Nat))))
            (.leaf (.v (.one (.bool false (Rg.tv (4 : Int) (IntKind.i64.wrap (n.tmod (5 : Int)))
    (Rg.up (x % (256 : Int))) f ==
  bits BinOp.andNot IntKind.u8 (IntKind.u8.wrap x) (15 : Int))))))
            (.leaf (.v (.one (.bool true false)))))
           (.leaf (.v (.one (.bool true false))))))
         (.br (IntKind.i64.wrap (n.tmod (5 : Int)) == (4 : Int))
          (.br (Rg.tv (4 : Int) (IntKind.i64.wrap (n.tmod (5 : Int))) (x / (256 : Int)) a ==
  IntKind.u8.wrap (x.fdiv ((2 : Int) ^ (8 : Nat))))
           (.leaf (.v (.one (.bool false (Rg.tv (4 : Int) (IntKind.i64.wrap (n.tmod (5 : Int)))
    (Rg.up (x % (256 : Int))) f ==
  bits BinOp.andNot IntKind.u8 (IntKind.u8.wrap x) (15 : Int))))))
           (.leaf (.v (.one (.bool true false)))))
          (.leaf (.v (.one (.bool true false)))))))))
     (.br (Rg.tv (9 : Int) (IntKind.i64.wrap (n.tmod (5 : Int))) x pc != pc)
      (.leaf (.v (.one (.bool true false))))
      (.br (decide (IntKind.i64.wrap (n.tmod (5 : Int)) < (3 : Int)))
       (.chk (RB
  (Rg.tv (4 : Int) (IntKind.i64.wrap (n.tmod (5 : Int))) (x / (256 : Int)) a)
  (Rg.tv (4 : Int) (IntKind.i64.wrap (n.tmod (5 : Int)))
    (Rg.up (x % (256 : Int))) f)
  (Rg.tv (0 : Int) (IntKind.i64.wrap (n.tmod (5 : Int))) (x / (256 : Int)) b)
  (Rg.tv (0 : Int) (IntKind.i64.wrap (n.tmod (5 : Int))) (x % (256 : Int)) c)
  (Rg.tv (1 : Int) (IntKind.i64.wrap (n.tmod (5 : Int))) (x / (256 : Int)) d)
  (Rg.tv (1 : Int) (IntKind.i64.wrap (n.tmod (5 : Int))) (x % (256 : Int)) e)
  (Rg.tv (2 : Int) (IntKind.i64.wrap (n.tmod (5 : Int))) (x / (256 : Int)) h)
  (Rg.tv (2 : Int) (IntKind.i64.wrap (n.tmod (5 : Int))) (x % (256 : Int)) l)
  (Rg.tv (3 : Int) (IntKind.i64.wrap (n.tmod (5 : Int))) x sp)
  (Rg.tv (9 : Int) (IntKind.i64.wrap (n.tmod (5 : Int))) x pc))
       (.chk (RB
  (Rg.tv (4 : Int) (IntKind.i64.wrap (n.tmod (5 : Int))) (x / (256 : Int)) a)
  (Rg.tv (4 : Int) (IntKind.i64.wrap (n.tmod (5 : Int)))
    (Rg.up (x % (256 : Int))) f)
  (Rg.tv (0 : Int) (IntKind.i64.wrap (n.tmod (5 : Int))) (x / (256 : Int)) b)
  (Rg.tv (0 : Int) (IntKind.i64.wrap (n.tmod (5 : Int))) (x % (256 : Int)) c)
  (Rg.tv (1 : Int) (IntKind.i64.wrap (n.tmod (5 : Int))) (x / (256 : Int)) d)
  (Rg.tv (1 : Int) (IntKind.i64.wrap (n.tmod (5 : Int))) (x % (256 : Int)) e)
  (Rg.tv (2 : Int) (IntKind.i64.wrap (n.tmod (5 : Int))) (x / (256 : Int)) h)
  (Rg.tv (2 : Int) (IntKind.i64.wrap (n.tmod (5 : Int))) (x % (256 : Int)) l)
  (Rg.tv (3 : Int) (IntKind.i64.wrap (n.tmod (5 : Int))) x sp)
  (Rg.tv (9 : Int) (IntKind.i64.wrap (n.tmod (5 : Int))) x pc))
       (.leaf (.v (.one (.bool false (bits BinOp.or IntKind.u16
    (IntKind.u16.wrap
      (IntKind.u16.wrap
          (Rg.gv (IntKind.i64.wrap ((2 : Int) * IntKind.i64.wrap (n.tmod (5 : Int))))
            (Rg.tv (4 : Int) (IntKind.i64.wrap (n.tmod (5 : Int))) (x / (256 : Int)) a)
            (Rg.tv (0 : Int) (IntKind.i64.wrap (n.tmod (5 : Int))) (x / (256 : Int)) b)
            (Rg.tv (0 : Int) (IntKind.i64.wrap (n.tmod (5 : Int))) (x % (256 : Int)) c)
            (Rg.tv (1 : Int) (IntKind.i64.wrap (n.tmod (5 : Int))) (x / (256 : Int)) d)
            (Rg.tv (1 : Int) (IntKind.i64.wrap (n.tmod (5 : Int))) (x % (256 : Int)) e)
            (Rg.tv (2 : Int) (IntKind.i64.wrap (n.tmod (5 : Int))) (x / (256 : Int)) h)
            (Rg.tv (2 : Int) (IntKind.i64.wrap (n.tmod (5 : Int))) (x % (256 : Int)) l)) *
        (2 : Int) ^ (8 : Nat)))
    (IntKind.u16.wrap
      (Rg.gv
        (IntKind.i64.wrap (IntKind.i64.wrap ((2 : Int) * IntKind.i64.wrap (n.tmod (5 : Int))) + (1 : Int)))
        (Rg.tv (4 : Int) (IntKind.i64.wrap (n.tmod (5 : Int))) (x / (256 : Int)) a)
        (Rg.tv (0 : Int) (IntKind.i64.wrap (n.tmod (5 : Int))) (x / (256 : Int)) b)
        (Rg.tv (0 : Int) (IntKind.i64.wrap (n.tmod (5 : Int))) (x % (256 : Int)) c)
        (Rg.tv (1 : Int) (IntKind.i64.wrap (n.tmod (5 : Int))) (x / (256 : Int)) d)
        (Rg.tv (1 : Int) (IntKind.i64.wrap (n.tmod (5 : Int))) (x % (256 : Int)) e)
        (Rg.tv (2 : Int) (IntKind.i64.wrap (n.tmod (5 : Int))) (x / (256 : Int)) h)
        (Rg.tv (2 : Int) (IntKind.i64.wrap (n.tmod (5 : Int))) (x % (256 : Int)) l))) ==
  x)))))))
       (.br (IntKind.i64.wrap (n.tmod (5 : Int)) == (3 : Int))
        (.br (Rg.tv (3 : Int) (IntKind.i64.wrap (n.tmod (5 : Int))) x sp == x)
         (.leaf (.v (.one (.bool true true))))
         (.br (IntKind.i64.wrap (n.tmod (5 : Int)) == (4 : Int))
          (.br (Rg.tv (4 : Int) (IntKind.i64.wrap (n.tmod (5 : Int))) (x / (256 : Int)) a ==
  IntKind.u8.wrap (x.fdiv ((2 : Int) ^ (8 : Nat))))
           (.leaf (.v (.one (.bool false (Rg.tv (4 : Int) (IntKind.i64.wrap (n.tmod (5 : Int)))
    (Rg.up (x % (256 : Int))) f ==
  bits BinOp.andNot IntKind.u8 (IntKind.u8.wrap x) (15 : Int))))))
           (.leaf (.v (.one (.bool true false)))))
          (.leaf (.v (.one (.bool true false))))))
        (.br (IntKind.i64.wrap (n.tmod (5 : Int)) == (4 : Int))
         (.br (Rg.tv (4 : Int) (IntKind.i64.wrap (n.tmod (5 : Int))) (x / (256 : Int)) a ==
  IntKind.u8.wrap (x.fdiv ((2 : Int) ^ (8 : Nat))))
          (.leaf (.v (.one (.bool false (Rg.tv (4 : Int) (IntKind.i64.wrap (n.tmod (5 : Int)))
    (Rg.up (x % (256 : Int))) f ==
  bits BinOp.andNot IntKind.u8 (IntKind.u8.wrap x) (15 : Int))))))
          (.leaf (.v (.one (.bool true false)))))
         (.leaf (.v (.one (.bool true false))))))))))))
 (.br (Rg.pe (IntKind.i64.wrap (n.tmod (5 : Int))) != (0 : Int))
  (.leaf (.v (.one (.bool true false))))
  (.br (Rg.pe (IntKind.i64.wrap (n.tmod (5 : Int))) != (0 : Int))
   (.leaf (.v (.one (.bool true false))))
   (.br (Rg.pv (IntKind.i64.wrap (n.tmod (5 : Int)))
    (Rg.tv (4 : Int) (IntKind.i64.wrap (n.tmod (5 : Int))) (x / (256 : Int)) a)
    (Rg.tv (4 : Int) (IntKind.i64.wrap (n.tmod (5 : Int)))
      (Rg.up (x % (256 : Int))) f)
    (Rg.tv (0 : Int) (IntKind.i64.wrap (n.tmod (5 : Int))) (x / (256 : Int)) b)
    (Rg.tv (0 : Int) (IntKind.i64.wrap (n.tmod (5 : Int))) (x % (256 : Int)) c)
    (Rg.tv (1 : Int) (IntKind.i64.wrap (n.tmod (5 : Int))) (x / (256 : Int)) d)
    (Rg.tv (1 : Int) (IntKind.i64.wrap (n.tmod (5 : Int))) (x % (256 : Int)) e)
    (Rg.tv (2 : Int) (IntKind.i64.wrap (n.tmod (5 : Int))) (x / (256 : Int)) h)
    (Rg.tv (2 : Int) (IntKind.i64.wrap (n.tmod (5 : Int))) (x % (256 : Int)) l)
    (Rg.tv (3 : Int) (IntKind.i64.wrap (n.tmod (5 : Int))) x sp) !=
  x)
    (.leaf (.v (.one (.bool true false))))
    (.br (IntKind.i64.wrap (n.tmod (5 : Int)) != IntKind.i64.wrap (k.tmod (5 : Int)))
     (.br (Rg.pv (IntKind.i64.wrap (k.tmod (5 : Int)))
    (Rg.tv (4 : Int) (IntKind.i64.wrap (n.tmod (5 : Int))) (x / (256 : Int)) a)
    (Rg.tv (4 : Int) (IntKind.i64.wrap (n.tmod (5 : Int)))
      (Rg.up (x % (256 : Int))) f)
    (Rg.tv (0 : Int) (IntKind.i64.wrap (n.tmod (5 : Int))) (x / (256 : Int)) b)
    (Rg.tv (0 : Int) (IntKind.i64.wrap (n.tmod (5 : Int))) (x % (256 : Int)) c)
    (Rg.tv (1 : Int) (IntKind.i64.wrap (n.tmod (5 : Int))) (x / (256 : Int)) d)
    (Rg.tv (1 : Int) (IntKind.i64.wrap (n.tmod (5 : Int))) (x % (256 : Int)) e)
    (Rg.tv (2 : Int) (IntKind.i64.wrap (n.tmod (5 : Int))) (x / (256 : Int)) h)
    (Rg.tv (2 : Int) (IntKind.i64.wrap (n.tmod (5 : Int))) (x % (256 : Int)) l)
    (Rg.tv (3 : Int) (IntKind.i64.wrap (n.tmod (5 : Int))) x sp) !=
  Rg.pv (IntKind.i64.wrap (k.tmod (5 : Int))) a f b c d e h l sp)
      (.leaf (.v (.one (.bool true false))))
      (.br (Rg.tv (9 : Int) (IntKind.i64.wrap (n.tmod (5 : Int))) x pc != pc)
       (.leaf (.v (.one (.bool true false))))
       (.br (decide (IntKind.i64.wrap (n.tmod (5 : Int)) < (3 : Int)))
        (.chk (RB
  (Rg.tv (4 : Int) (IntKind.i64.wrap (n.tmod (5 : Int))) (x / (256 : Int)) a)
  (Rg.tv (4 : Int) (IntKind.i64.wrap (n.tmod (5 : Int)))
    (Rg.up (x % (256 : Int))) f)
  (Rg.tv (0 : Int) (IntKind.i64.wrap (n.tmod (5 : Int))) (x / (256 : Int)) b)
  (Rg.tv (0 : Int) (IntKind.i64.wrap (n.tmod (5 : Int))) (x % (256 : Int)) c)
  (Rg.tv (1 : Int) (IntKind.i64.wrap (n.tmod (5 : Int))) (x / (256 : Int)) d)
  (Rg.tv (1 : Int) (IntKind.i64.wrap (n.tmod (5 : Int))) (x % (256 : Int)) e)
  (Rg.tv (2 : Int) (IntKind.i64.wrap (n.tmod (5 : Int))) (x / (256 : Int)) h)
  (Rg.tv (2 : Int) (IntKind.i64.wrap (n.tmod (5 : Int))) (x % (256 : Int)) l)
  (Rg.tv (3 : Int) (IntKind.i64.wrap (n.tmod (5 : Int))) x sp)
  (Rg.tv (9 : Int) (IntKind.i64.wrap (n.tmod (5 : Int))) x pc))
        (.chk (RB
  (Rg.tv (4 : Int) (IntKind.i64.wrap (n.tmod (5 : Int))) (x / (256 : Int)) a)
  (Rg.tv (4 : Int) (IntKind.i64.wrap (n.tmod (5 : Int)))
    (Rg.up (x % (256 : Int))) f)
  (Rg.tv (0 : Int) (IntKind.i64.wrap (n.tmod (5 : Int))) (x / (256 : Int)) b)
  (Rg.tv (0 : Int) (IntKind.i64.wrap (n.tmod (5 : Int))) (x % (256 : Int)) c)
  (Rg.tv (1 : Int) (IntKind.i64.wrap (n.tmod (5 : Int))) (x / (256 : Int)) d)
  (Rg.tv (1 : Int) (IntKind.i64.wrap (n.tmod (5 : Int))) (x % (256 : Int)) e)
  (Rg.tv (2 : Int) (IntKind.i64.wrap (n.tmod (5 : Int))) (x / (256 : Int)) h)
  (Rg.tv (2 : Int) (IntKind.i64.wrap (n.tmod (5 : Int))) (x % (256 : Int)) l)
  (Rg.tv (3 : Int) (IntKind.i64.wrap (n.tmod (5 : Int))) x sp)
  (Rg.tv (9 : Int) (IntKind.i64.wrap (n.tmod (5 : Int))) x pc))
        (.leaf (.v (.one (.bool false (bits BinOp.or IntKind.u16
    (IntKind.u16.wrap
      (IntKind.u16.wrap
          (Rg.gv (IntKind.i64.wrap ((2 : Int) * IntKind.i64.wrap (n.tmod (5 : Int))))
            (Rg.tv (4 : Int) (IntKind.i64.wrap (n.tmod (5 : Int))) (x / (256 : Int)) a)
            (Rg.tv (0 : Int) (IntKind.i64.wrap (n.tmod (5 : Int))) (x / (256 : Int)) b)
            (Rg.tv (0 : Int) (IntKind.i64.wrap (n.tmod (5 : Int))) (x % (256 : Int)) c)
            (Rg.tv (1 : Int) (IntKind.i64.wrap (n.tmod (5 : Int))) (x / (256 : Int)) d)
            (Rg.tv (1 : Int) (IntKind.i64.wrap (n.tmod (5 : Int))) (x % (256 : Int)) e)
            (Rg.tv (2 : Int) (IntKind.i64.wrap (n.tmod (5 : Int))) (x / (256 : Int)) h)
            (Rg.tv (2 : Int) (IntKind.i64.wrap (n.tmod (5 : Int))) (x % (256 : Int)) l)) *
        (2 : Int) ^ (8 : Nat)))
    (IntKind.u16.wrap
      (Rg.gv
        (IntKind.i64.wrap (IntKind.i64.wrap ((2 : Int) * IntKind.i64.wrap (n.tmod (5 : Int))) + (1 : Int)))
        (Rg.tv (4 : Int) (IntKind.i64.wrap (n.tmod (5 : Int))) (x / (256 : Int)) a)
        (Rg.tv (0 : Int) (IntKind.i64.wrap (n.tmod (5 : Int))) (x / (256 : Int)) b)
        (Rg.tv (0 : Int) (IntKind.i64.wrap (n.tmod (5 : Int))) (x % (256 : Int)) c)
        (Rg.tv (1 : Int) (IntKind.i64.wrap (n.tmod (5 : Int))) (x / (256 : Int)) d)
        (Rg.tv (1 : Int) (IntKind.i64.wrap (n.tmod (5 : Int))) (x % (256 : Int)) e)
        (Rg.tv (2 : Int) (IntKind.i64.wrap (n.tmod (5 : Int))) (x / (256 : Int)) h)
        (Rg.tv (2 : Int) (IntKind.i64.wrap (n.tmod (5 : Int))) (x % (256 : Int)) l))) ==
  x)))))))
        (.br (IntKind.i64.wrap (n.tmod (5 : Int)) == (3 : Int))
         (.br (Rg.tv (3 : Int) (IntKind.i64.wrap (n.tmod (5 : Int))) x sp == x)
          (.leaf (.v (.one (.bool true true))))
          (.br (IntKind.i64.wrap (n.tmod (5 : Int)) == (4 : Int))
           (.br (Rg.tv (4 : Int) (IntKind.i64.wrap (n.tmod (5 : Int))) (x / (256 : Int)) a ==
  IntKind.u8.wrap (x.fdiv ((2 : Int) ^ (8 : Nat))))
            (.leaf (.v (.one (.bool false (Rg.tv (4 : Int) (IntKind.i64.wrap (n.tmod (5 : Int)))
    (Rg.up (x % (256 : Int))) f ==
  bits BinOp.andNot IntKind.u8 (IntKind.u8.wrap x) (15 : Int))))))
            (.leaf (.v (.one (.bool true false)))))
           (.leaf (.v (.one (.bool true false))))))
         (.br (IntKind.i64.wrap (n.tmod (5 : Int)) == (4 : Int))
          (.br (Rg.tv (4 : Int) (IntKind.i64.wrap (n.tmod (5 : Int))) (x / (256 : Int)) a ==
  IntKind.u8.wrap (x.fdiv ((2 : Int) ^ (8 : Nat))))
           (.leaf (.v (.one (.bool false (Rg.tv (4 : Int) (IntKind.i64.wrap (n.tmod (5 : Int)))
    (Rg.up (x % (256 : Int))) f ==
  bits BinOp.andNot IntKind.u8 (IntKind.u8.wrap x) (15 : Int))))))
           (.leaf (.v (.one (.bool true false)))))
          (.leaf (.v (.one (.bool true false)))))))))
     (.br (Rg.tv (9 : Int) (IntKind.i64.wrap (n.tmod (5 : Int))) x pc != pc)
      (.leaf (.v (.one (.bool true false))))
      (.br (decide (IntKind.i64.wrap (n.tmod (5 : Int)) < (3 : Int)))
       (.chk (RB
  (Rg.tv (4 : Int) (IntKind.i64.wrap (n.tmod (5 : Int))) (x / (256 : Int)) a)
  (Rg.tv (4 : Int) (IntKind.i64.wrap (n.tmod (5 : Int)))
    (Rg.up (x % (256 : Int))) f)
  (Rg.tv (0 : Int) (IntKind.i64.wrap (n.tmod (5 : Int))) (x / (256 : Int)) b)
  (Rg.tv (0 : Int) (IntKind.i64.wrap (n.tmod (5 : Int))) (x % (256 : Int)) c)
  (Rg.tv (1 : Int) (IntKind.i64.wrap (n.tmod (5 : Int))) (x / (256 : Int)) d)
  (Rg.tv (1 : Int) (IntKind.i64.wrap (n.tmod (5 : Int))) (x % (256 : Int)) e)
  (Rg.tv (2 : Int) (IntKind.i64.wrap (n.tmod (5 : Int))) (x / (256 : Int)) h)
  (Rg.tv (2 : Int) (IntKind.i64.wrap (n.tmod (5 : Int))) (x % (256 : Int)) l)
  (Rg.tv (3 : Int) (IntKind.i64.wrap (n.tmod (5 : Int))) x sp)
  (Rg.tv (9 : Int) (IntKind.i64.wrap (n.tmod (5 : Int))) x pc))
       (.chk (RB
  (Rg.tv (4 : Int) (IntKind.i64.wrap (n.tmod (5 : Int))) (x / (256 : Int)) a)
  (Rg.tv (4 : Int) (IntKind.i64.wrap (n.tmod (5 : Int)))
    (Rg.up (x % (256 : Int))) f)
  (Rg.tv (0 : Int) (IntKind.i64.wrap (n.tmod (5 : Int))) (x / (256 : Int)) b)
  (Rg.tv (0 : Int) (IntKind.i64.wrap (n.tmod (5 : Int))) (x % (256 : Int)) c)
  (Rg.tv (1 : Int) (IntKind.i64.wrap (n.tmod (5 : Int))) (x / (256 : Int)) d)
  (Rg.tv (1 : Int) (IntKind.i64.wrap (n.tmod (5 : Int))) (x % (256 : Int)) e)
  (Rg.tv (2 : Int) (IntKind.i64.wrap (n.tmod (5 : Int))) (x / (256 : Int)) h)
  (Rg.tv (2 : Int) (IntKind.i64.wrap (n.tmod (5 : Int))) (x % (256 : Int)) l)
  (Rg.tv (3 : Int) (IntKind.i64.wrap (n.tmod (5 : Int))) x sp)
  (Rg.tv (9 : Int) (IntKind.i64.wrap (n.tmod (5 : Int))) x pc))
       (.leaf (.v (.one (.bool false (bits BinOp.or IntKind.u16
    (IntKind.u16.wrap
      (IntKind.u16.wrap
          (Rg.gv (IntKind.i64.wrap ((2 : Int) * IntKind.i64.wrap (n.tmod (5 : Int))))
            (Rg.tv (4 : Int) (IntKind.i64.wrap (n.tmod (5 : Int))) (x / (256 : Int)) a)
            (Rg.tv (0 : Int) (IntKind.i64.wrap (n.tmod (5 : Int))) (x / (256 : Int)) b)
            (Rg.tv (0 : Int) (IntKind.i64.wrap (n.tmod (5 : Int))) (x % (256 : Int)) c)
            (Rg.tv (1 : Int) (IntKind.i64.wrap (n.tmod (5 : Int))) (x / (256 : Int)) d)
            (Rg.tv (1 : Int) (IntKind.i64.wrap (n.tmod (5 : Int))) (x % (256 : Int)) e)
            (Rg.tv (2 : Int) (IntKind.i64.wrap (n.tmod (5 : Int))) (x / (256 : Int)) h)
            (Rg.tv (2 : Int) (IntKind.i64.wrap (n.tmod (5 : Int))) (x % (256 : Int)) l)) *
        (2 : Int) ^ (8 : Nat)))
    (IntKind.u16.wrap
      (Rg.gv
        (IntKind.i64.wrap (IntKind.i64.wrap ((2 : Int) * IntKind.i64.wrap (n.tmod (5 : Int))) + (1 : Int)))
        (Rg.tv (4 : Int) (IntKind.i64.wrap (n.tmod (5 : Int))) (x / (256 : Int)) a)
        (Rg.tv (0 : Int) (IntKind.i64.wrap (n.tmod (5 : Int))) (x / (256 : Int)) b)
        (Rg.tv (0 : Int) (IntKind.i64.wrap (n.tmod (5 : Int))) (x % (256 : Int)) c)
        (Rg.tv (1 : Int) (IntKind.i64.wrap (n.tmod (5 : Int))) (x / (256 : Int)) d)
        (Rg.tv (1 : Int) (IntKind.i64.wrap (n.tmod (5 : Int))) (x % (256 : Int)) e)
        (Rg.tv (2 : Int) (IntKind.i64.wrap (n.tmod (5 : Int))) (x / (256 : Int)) h)
        (Rg.tv (2 : Int) (IntKind.i64.wrap (n.tmod (5 : Int))) (x % (256 : Int)) l))) ==
  x)))))))
       (.br (IntKind.i64.wrap (n.tmod (5 : Int)) == (3 : Int))
        (.br (Rg.tv (3 : Int) (IntKind.i64.wrap (n.tmod (5 : Int))) x sp == x)
         (.leaf (.v (.one (.bool true true))))
         (.br (IntKind.i64.wrap (n.tmod (5 : Int)) == (4 : Int))
          (.br (Rg.tv (4 : Int) (IntKind.i64.wrap (n.tmod (5 : Int))) (x / (256 : Int)) a ==
  IntKind.u8.wrap (x.fdiv ((2 : Int) ^ (8 : Nat))))
           (.leaf (.v (.one (.bool false (Rg.tv (4 : Int) (IntKind.i64.wrap (n.tmod (5 : Int)))
    (Rg.up (x % (256 : Int))) f ==
  bits BinOp.andNot IntKind.u8 (IntKind.u8.wrap x) (15 : Int))))))
           (.leaf (.v (.one (.bool true false)))))
          (.leaf (.v (.one (.bool true false))))))
        (.br (IntKind.i64.wrap (n.tmod (5 : Int)) == (4 : Int))
         (.br (Rg.tv (4 : Int) (IntKind.i64.wrap (n.tmod (5 : Int))) (x / (256 : Int)) a ==
  IntKind.u8.wrap (x.fdiv ((2 : Int) ^ (8 : Nat))))
          (.leaf (.v (.one (.bool false (Rg.tv (4 : Int) (IntKind.i64.wrap (n.tmod (5 : Int)))
    (Rg.up (x % (256 : Int))) f ==
  bits BinOp.andNot IntKind.u8 (IntKind.u8.wrap x) (15 : Int))))))
          (.leaf (.v (.one (.bool true false)))))
         (.leaf (.v (.one (.bool true false))))))))))))))))) := by kernel_rfl

set_option maxHeartbeats 1000000 in
theorem conds_walk (w : World) (f odd : Int) (bf : Rg.B f) : Calls Try.prog 3 #[.int .u8 f, .int .i64 odd] w fun e w' => e = .returned (.bool true) ∧ Below w.heap.size w w' := by
  have z : Rg.B 0 := ⟨by omega, by omega⟩
  have z2 : Rg.W 0 := ⟨by omega, by omega⟩
  have hr : RB 0 f 0 0 0 0 0 0 0 0 := ⟨z, bf, z, z, z, z, z, z, z2, z2⟩
  refine val_eq base2 (table_ok w) (loops_none _ _) (conds_tree w f odd) rfl ?_
  have e0 : Rg.isB f 0 = decide (f < 128) := rfl
  have e1 : Rg.isB f 1 = decide (128 ≤ f) := rfl
  have e2 : Rg.isB f 2 = decide (f / 16 % 2 = 0) := rfl
  have e3 : Rg.isB f 3 = decide (f / 16 % 2 = 1) := rfl
  have e4 : Rg.isB f 4 = true := rfl
  have eo : (odd < 0 ∨ 4 < odd) → Rg.isB f odd = false := fun h => by
    unfold Rg.isB
    rw [if_neg (by omega), if_neg (by omega), if_neg (by omega), if_neg (by omega)]
    simp; omega
  simp only [T.holds, Rg.b128 bf, Rg.b16 bf, e0, e1, e2, e3, e4]
  repeat' (first | refine And.intro ?_ ?_ | intro _)
  all_goals first
    | exact hr
    | rfl
    | (simp_all [AV.γ, V.γ, Sc.γ]; done)
    | (simp_all [AV.γ, V.γ, Sc.γ]; omega)

set_option maxHeartbeats 4000000 in
theorem tell_walk (w : World) (a f b c d e h l sp pc n x y : Int) (hr : RB a f b c d e h l sp pc) (bx : Rg.B x) (by' : Rg.W y) : Calls Try.prog 7 #[.agg #[.int .u8 a, .int .u8 f, .int .u8 b, .int .u8 c, .int .u8 d, .int .u8 e, .int .u8 h, .int .u8 l, .int .u16 sp, .int .u16 pc], .int .i64 n, .int .u8 x, .int .u16 y] w fun e w' => e = .returned (.bool true) ∧ Below w.heap.size w w' := by
  refine val_eq base2 (table_ok w) (loops_none _ _) (tell_tree w a f b c d e h l sp pc n x y) rfl ?_
  simp [T.holds, AV.γ, V.γ, Sc.γ, hr, AV.own]
  exact ⟨by', rfl⟩

set_option maxHeartbeats 8000000 in
theorem keep_walk (w : World) (a f b c d e h l sp pc n k x : Int) (hr : RB a f b c d e h l sp pc) (bn : Rg.B n) (bk : Rg.B k) (bx : Rg.B x) : Calls Try.prog 4 #[.agg #[.int .u8 a, .int .u8 f, .int .u8 b, .int .u8 c, .int .u8 d, .int .u8 e, .int .u8 h, .int .u8 l, .int .u16 sp, .int .u16 pc], .int .u8 n, .int .u8 k, .int .u8 x] w fun e w' => e = .returned (.bool true) ∧ Below w.heap.size w w' := by
  refine val_eq base2 (table_ok w) (loops_none _ _) (keep_tree w a f b c d e h l sp pc n k x) rfl ?_
  simp (disch := omega) only [T.holds, Int.tdiv_eq_ediv_of_nonneg, Int.tmod_eq_emod_of_nonneg, Rg.wu8, Rg.wu16, Rg.wi64, beq_iff_eq, decide_eq_true_eq, decide_eq_false_iff_not, beq_eq_false_iff_ne, Bool.not_eq_true', Bool.not_eq_false', ne_eq, Int.fdiv_eq_ediv_of_nonneg, bne_self_eq_false, beq_self_eq_true, Bool.not_true, Bool.and_true, Bool.true_and, Bool.false_eq_true, false_implies, true_implies, and_true, true_and, not_true_eq_false]
  have hi : 0 ≤ n % 8 ∧ n % 8 < 8 := by omega
  have hj : 0 ≤ k % 8 ∧ k % 8 < 8 := by omega
  generalize n % 8 = i at *
  generalize k % 8 = j at *
  have ci : i = 0 ∨ i = 1 ∨ i = 2 ∨ i = 3 ∨ i = 4 ∨ i = 5 ∨ i = 6 ∨ i = 7 := by omega
  have cj : j = 0 ∨ j = 1 ∨ j = 2 ∨ j = 3 ∨ j = 4 ∨ j = 5 ∨ j = 6 ∨ j = 7 := by omega
  have hs := sv_RB (n := i) hr bx
  clear hi hj
  rcases ci with rfl | rfl | rfl | rfl | rfl | rfl | rfl | rfl <;> rcases cj with rfl | rfl | rfl | rfl | rfl | rfl | rfl | rfl
  all_goals
    simp_all [AV.γ, V.γ, Sc.γ, AV.own, Rg.sv, Rg.ge, Rg.gv]
  all_goals (try rfl)
end Go.Proofs.Ytmpkhjimemdhhaa
