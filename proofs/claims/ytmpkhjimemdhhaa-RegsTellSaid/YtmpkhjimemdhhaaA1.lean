/-
  Walks of the program's registers and of the document's, by computing: each comes to the plain functions of Plain. Bytes are below 256, words below 65536; no other condition.
-/
import Derived.Test.YtmpkhjimemdhhaaSym9
import Derived.Test.YtmpkhjimemdhhaaPlain
namespace Go.Proofs.Ytmpkhjimemdhhaa
open Go.RowKit sym
set_option linter.unusedVariables false
set_option linter.unusedSimpArgs false
set_option maxRecDepth 100000
theorem base : Base Try.prog (fun _ => false) := ⟨by kernel_rfl, names_of (by kernel_rfl), fun _ h => by (cases h)⟩
theorem is_tree (w : World) (a f b c d e h l sp pc n : Int) :
    callV Try.prog w (fun _ => false) noCtr noLoop 20 10 [.v (.agg [.int false .u8 a, .int false .u8 f, .int false .u8 b, .int false .u8 c, .int false .u8 d, .int false .u8 e, .int false .u8 h, .int false .u8 l, .int false .u16 sp, .int false .u16 pc]), .v (.one (.int false .i64 n))] =
(.br (n == (0 : Int))
 (.leaf (.v (.one (.bool false ((Go.bits Go.BinOp.and Go.IntKind.u8 f (128 : Int) != (0 : Int)) == (n == (1 : Int)))))))
 (.br (n == (1 : Int))
  (.leaf (.v (.one (.bool false ((Go.bits Go.BinOp.and Go.IntKind.u8 f (128 : Int) != (0 : Int)) == (n == (1 : Int)))))))
  (.br (n == (2 : Int))
   (.leaf (.v (.one (.bool false ((Go.bits Go.BinOp.and Go.IntKind.u8 f (16 : Int) != (0 : Int)) == (n == (3 : Int)))))))
   (.br (n == (3 : Int))
    (.leaf (.v (.one (.bool false ((Go.bits Go.BinOp.and Go.IntKind.u8 f (16 : Int) != (0 : Int)) == (n == (3 : Int)))))))
    (.leaf (.v (.one (.bool false (n == (4 : Int)))))))))) := by kernel_rfl
theorem get_tree (w : World) (a f b c d e h l sp pc n : Int) :
    callV Try.prog w (fun _ => false) noCtr noLoop 20 12 [.v (.agg [.int false .u8 a, .int false .u8 f, .int false .u8 b, .int false .u8 c, .int false .u8 d, .int false .u8 e, .int false .u8 h, .int false .u8 l, .int false .u16 sp, .int false .u16 pc]), .v (.one (.int false .i64 n))] =
(.br (Decidable.decide (n < (0 : Int)))
 (.leaf (.tuple [(.one (.int true .u8 (0))), (.one (.int true .i64 (1)))]))
 (.br (Decidable.decide (n ≥ (8 : Int)))
  (.leaf (.tuple [(.one (.int true .u8 (0))), (.one (.int true .i64 (1)))]))
  (.chk ((0 : Int) ≤ n ∧ n < ↑(8 : Nat))
  (.br (n == ↑(0 : Nat))
   (.leaf (.tuple [(.one (.int false .u8 (b))), (.one (.int true .i64 (0)))]))
   (.br (n == ↑(1 : Nat))
    (.leaf (.tuple [(.one (.int false .u8 (c))), (.one (.int true .i64 (0)))]))
    (.br (n == ↑(2 : Nat))
     (.leaf (.tuple [(.one (.int false .u8 (d))), (.one (.int true .i64 (0)))]))
     (.br (n == ↑(3 : Nat))
      (.leaf (.tuple [(.one (.int false .u8 (e))), (.one (.int true .i64 (0)))]))
      (.br (n == ↑(4 : Nat))
       (.leaf (.tuple [(.one (.int false .u8 (h))), (.one (.int true .i64 (0)))]))
       (.br (n == ↑(5 : Nat))
        (.leaf (.tuple [(.one (.int false .u8 (l))), (.one (.int true .i64 (0)))]))
        (.br (n == ↑(6 : Nat))
         (.leaf (.tuple [(.one (.int true .u8 (0))), (.one (.int true .i64 (1)))]))
         (.leaf (.tuple [(.one (.int false .u8 (a))), (.one (.int true .i64 (0)))])))))))))))) := by kernel_rfl
theorem set_tree (w : World) (a f b c d e h l sp pc n x : Int) :
    callV Try.prog w (fun _ => false) noCtr noLoop 20 11 [.v (.agg [.int false .u8 a, .int false .u8 f, .int false .u8 b, .int false .u8 c, .int false .u8 d, .int false .u8 e, .int false .u8 h, .int false .u8 l, .int false .u16 sp, .int false .u16 pc]), .v (.one (.int false .i64 n)), .v (.one (.int false .u8 x))] =
(.br (Decidable.decide (n < (0 : Int)))
 (.leaf (.tuple [(.agg [(.int true .u8 (0)), (.int true .u8 (0)), (.int true .u8 (0)), (.int true .u8 (0)), (.int true .u8 (0)), (.int true .u8 (0)), (.int true .u8 (0)), (.int true .u8 (0)), (.int true .u16 (0)), (.int true .u16 (0))]), (.one (.int true .i64 (1)))]))
 (.br (Decidable.decide (n ≥ (8 : Int)))
  (.leaf (.tuple [(.agg [(.int true .u8 (0)), (.int true .u8 (0)), (.int true .u8 (0)), (.int true .u8 (0)), (.int true .u8 (0)), (.int true .u8 (0)), (.int true .u8 (0)), (.int true .u8 (0)), (.int true .u16 (0)), (.int true .u16 (0))]), (.one (.int true .i64 (1)))]))
  (.chk ((0 : Int) ≤ n ∧ n < ↑(8 : Nat))
  (.br (n == ↑(0 : Nat))
   (.leaf (.tuple [(.agg [(.int false .u8 (a)), (.int false .u8 (f)), (.int false .u8 (x)), (.int false .u8 (c)), (.int false .u8 (d)), (.int false .u8 (e)), (.int false .u8 (h)), (.int false .u8 (l)), (.int false .u16 (sp)), (.int false .u16 (pc))]), (.one (.int true .i64 (0)))]))
   (.br (n == ↑(1 : Nat))
    (.leaf (.tuple [(.agg [(.int false .u8 (a)), (.int false .u8 (f)), (.int false .u8 (b)), (.int false .u8 (x)), (.int false .u8 (d)), (.int false .u8 (e)), (.int false .u8 (h)), (.int false .u8 (l)), (.int false .u16 (sp)), (.int false .u16 (pc))]), (.one (.int true .i64 (0)))]))
    (.br (n == ↑(2 : Nat))
     (.leaf (.tuple [(.agg [(.int false .u8 (a)), (.int false .u8 (f)), (.int false .u8 (b)), (.int false .u8 (c)), (.int false .u8 (x)), (.int false .u8 (e)), (.int false .u8 (h)), (.int false .u8 (l)), (.int false .u16 (sp)), (.int false .u16 (pc))]), (.one (.int true .i64 (0)))]))
     (.br (n == ↑(3 : Nat))
      (.leaf (.tuple [(.agg [(.int false .u8 (a)), (.int false .u8 (f)), (.int false .u8 (b)), (.int false .u8 (c)), (.int false .u8 (d)), (.int false .u8 (x)), (.int false .u8 (h)), (.int false .u8 (l)), (.int false .u16 (sp)), (.int false .u16 (pc))]), (.one (.int true .i64 (0)))]))
      (.br (n == ↑(4 : Nat))
       (.leaf (.tuple [(.agg [(.int false .u8 (a)), (.int false .u8 (f)), (.int false .u8 (b)), (.int false .u8 (c)), (.int false .u8 (d)), (.int false .u8 (e)), (.int false .u8 (x)), (.int false .u8 (l)), (.int false .u16 (sp)), (.int false .u16 (pc))]), (.one (.int true .i64 (0)))]))
       (.br (n == ↑(5 : Nat))
        (.leaf (.tuple [(.agg [(.int false .u8 (a)), (.int false .u8 (f)), (.int false .u8 (b)), (.int false .u8 (c)), (.int false .u8 (d)), (.int false .u8 (e)), (.int false .u8 (h)), (.int false .u8 (x)), (.int false .u16 (sp)), (.int false .u16 (pc))]), (.one (.int true .i64 (0)))]))
        (.br (n == ↑(6 : Nat))
         (.leaf (.tuple [(.agg [(.int true .u8 (0)), (.int true .u8 (0)), (.int true .u8 (0)), (.int true .u8 (0)), (.int true .u8 (0)), (.int true .u8 (0)), (.int true .u8 (0)), (.int true .u8 (0)), (.int true .u16 (0)), (.int true .u16 (0))]), (.one (.int true .i64 (1)))]))
         (.leaf (.tuple [(.agg [(.int false .u8 (x)), (.int false .u8 (f)), (.int false .u8 (b)), (.int false .u8 (c)), (.int false .u8 (d)), (.int false .u8 (e)), (.int false .u8 (h)), (.int false .u8 (l)), (.int false .u16 (sp)), (.int false .u16 (pc))]), (.one (.int true .i64 (0)))])))))))))))) := by kernel_rfl
theorem pair0_tree (w : World) (a f b c d e h l sp pc : Int) :
    callV Try.prog w (fun _ => false) noCtr noLoop 20 19 [.v (.agg [.int false .u8 a, .int false .u8 f, .int false .u8 b, .int false .u8 c, .int false .u8 d, .int false .u8 e, .int false .u8 h, .int false .u8 l, .int false .u16 sp, .int false .u16 pc]), .v (.one (.int true .i64 0))] =
(.leaf (.tuple [(.one (.int false .u16 (Go.bits Go.BinOp.or Go.IntKind.u16 (Go.IntKind.u16.wrap (Go.IntKind.u16.wrap b * (2 : Int) ^ (8 : Nat)))
  (Go.IntKind.u16.wrap c)))), (.one (.int true .i64 (0)))])) := by kernel_rfl
theorem setp0_tree (w : World) (a f b c d e h l sp pc x : Int) :
    callV Try.prog w (fun _ => false) noCtr noLoop 20 23 [.v (.agg [.int false .u8 a, .int false .u8 f, .int false .u8 b, .int false .u8 c, .int false .u8 d, .int false .u8 e, .int false .u8 h, .int false .u8 l, .int false .u16 sp, .int false .u16 pc]), .v (.one (.int true .i64 0)), .v (.one (.int false .u16 x))] =
(.leaf (.tuple [(.agg [(.int false .u8 (a)), (.int false .u8 (f)), (.int false .u8 (Go.IntKind.u8.wrap (x.fdiv ((2 : Int) ^ (8 : Nat))))), (.int false .u8 (Go.IntKind.u8.wrap x)), (.int false .u8 (d)), (.int false .u8 (e)), (.int false .u8 (h)), (.int false .u8 (l)), (.int false .u16 (sp)), (.int false .u16 (pc))]), (.one (.int true .i64 (0)))])) := by kernel_rfl
theorem pair1_tree (w : World) (a f b c d e h l sp pc : Int) :
    callV Try.prog w (fun _ => false) noCtr noLoop 20 19 [.v (.agg [.int false .u8 a, .int false .u8 f, .int false .u8 b, .int false .u8 c, .int false .u8 d, .int false .u8 e, .int false .u8 h, .int false .u8 l, .int false .u16 sp, .int false .u16 pc]), .v (.one (.int true .i64 1))] =
(.leaf (.tuple [(.one (.int false .u16 (Go.bits Go.BinOp.or Go.IntKind.u16 (Go.IntKind.u16.wrap (Go.IntKind.u16.wrap d * (2 : Int) ^ (8 : Nat)))
  (Go.IntKind.u16.wrap e)))), (.one (.int true .i64 (0)))])) := by kernel_rfl
theorem setp1_tree (w : World) (a f b c d e h l sp pc x : Int) :
    callV Try.prog w (fun _ => false) noCtr noLoop 20 23 [.v (.agg [.int false .u8 a, .int false .u8 f, .int false .u8 b, .int false .u8 c, .int false .u8 d, .int false .u8 e, .int false .u8 h, .int false .u8 l, .int false .u16 sp, .int false .u16 pc]), .v (.one (.int true .i64 1)), .v (.one (.int false .u16 x))] =
(.leaf (.tuple [(.agg [(.int false .u8 (a)), (.int false .u8 (f)), (.int false .u8 (b)), (.int false .u8 (c)), (.int false .u8 (Go.IntKind.u8.wrap (x.fdiv ((2 : Int) ^ (8 : Nat))))), (.int false .u8 (Go.IntKind.u8.wrap x)), (.int false .u8 (h)), (.int false .u8 (l)), (.int false .u16 (sp)), (.int false .u16 (pc))]), (.one (.int true .i64 (0)))])) := by kernel_rfl
theorem pair2_tree (w : World) (a f b c d e h l sp pc : Int) :
    callV Try.prog w (fun _ => false) noCtr noLoop 20 19 [.v (.agg [.int false .u8 a, .int false .u8 f, .int false .u8 b, .int false .u8 c, .int false .u8 d, .int false .u8 e, .int false .u8 h, .int false .u8 l, .int false .u16 sp, .int false .u16 pc]), .v (.one (.int true .i64 2))] =
(.leaf (.tuple [(.one (.int false .u16 (Go.bits Go.BinOp.or Go.IntKind.u16 (Go.IntKind.u16.wrap (Go.IntKind.u16.wrap h * (2 : Int) ^ (8 : Nat)))
  (Go.IntKind.u16.wrap l)))), (.one (.int true .i64 (0)))])) := by kernel_rfl
theorem setp2_tree (w : World) (a f b c d e h l sp pc x : Int) :
    callV Try.prog w (fun _ => false) noCtr noLoop 20 23 [.v (.agg [.int false .u8 a, .int false .u8 f, .int false .u8 b, .int false .u8 c, .int false .u8 d, .int false .u8 e, .int false .u8 h, .int false .u8 l, .int false .u16 sp, .int false .u16 pc]), .v (.one (.int true .i64 2)), .v (.one (.int false .u16 x))] =
(.leaf (.tuple [(.agg [(.int false .u8 (a)), (.int false .u8 (f)), (.int false .u8 (b)), (.int false .u8 (c)), (.int false .u8 (d)), (.int false .u8 (e)), (.int false .u8 (Go.IntKind.u8.wrap (x.fdiv ((2 : Int) ^ (8 : Nat))))), (.int false .u8 (Go.IntKind.u8.wrap x)), (.int false .u16 (sp)), (.int false .u16 (pc))]), (.one (.int true .i64 (0)))])) := by kernel_rfl
theorem pair3_tree (w : World) (a f b c d e h l sp pc : Int) :
    callV Try.prog w (fun _ => false) noCtr noLoop 20 19 [.v (.agg [.int false .u8 a, .int false .u8 f, .int false .u8 b, .int false .u8 c, .int false .u8 d, .int false .u8 e, .int false .u8 h, .int false .u8 l, .int false .u16 sp, .int false .u16 pc]), .v (.one (.int true .i64 3))] =
(.leaf (.tuple [(.one (.int false .u16 (sp))), (.one (.int true .i64 (0)))])) := by kernel_rfl
theorem setp3_tree (w : World) (a f b c d e h l sp pc x : Int) :
    callV Try.prog w (fun _ => false) noCtr noLoop 20 23 [.v (.agg [.int false .u8 a, .int false .u8 f, .int false .u8 b, .int false .u8 c, .int false .u8 d, .int false .u8 e, .int false .u8 h, .int false .u8 l, .int false .u16 sp, .int false .u16 pc]), .v (.one (.int true .i64 3)), .v (.one (.int false .u16 x))] =
(.leaf (.tuple [(.agg [(.int false .u8 (a)), (.int false .u8 (f)), (.int false .u8 (b)), (.int false .u8 (c)), (.int false .u8 (d)), (.int false .u8 (e)), (.int false .u8 (h)), (.int false .u8 (l)), (.int false .u16 (x)), (.int false .u16 (pc))]), (.one (.int true .i64 (0)))])) := by kernel_rfl
theorem pair4_tree (w : World) (a f b c d e h l sp pc : Int) :
    callV Try.prog w (fun _ => false) noCtr noLoop 20 19 [.v (.agg [.int false .u8 a, .int false .u8 f, .int false .u8 b, .int false .u8 c, .int false .u8 d, .int false .u8 e, .int false .u8 h, .int false .u8 l, .int false .u16 sp, .int false .u16 pc]), .v (.one (.int true .i64 4))] =
(.leaf (.tuple [(.one (.int false .u16 (Go.bits Go.BinOp.or Go.IntKind.u16 (Go.IntKind.u16.wrap (Go.IntKind.u16.wrap a * (2 : Int) ^ (8 : Nat)))
  (Go.IntKind.u16.wrap (Go.bits Go.BinOp.and Go.IntKind.u8 f (240 : Int)))))), (.one (.int true .i64 (0)))])) := by kernel_rfl
theorem setp4_tree (w : World) (a f b c d e h l sp pc x : Int) :
    callV Try.prog w (fun _ => false) noCtr noLoop 20 23 [.v (.agg [.int false .u8 a, .int false .u8 f, .int false .u8 b, .int false .u8 c, .int false .u8 d, .int false .u8 e, .int false .u8 h, .int false .u8 l, .int false .u16 sp, .int false .u16 pc]), .v (.one (.int true .i64 4)), .v (.one (.int false .u16 x))] =
(.leaf (.tuple [(.agg [(.int false .u8 (Go.IntKind.u8.wrap ((Go.bits Go.BinOp.andNot Go.IntKind.u16 x (15 : Int)).fdiv ((2 : Int) ^ (8 : Nat))))), (.int false .u8 (Go.IntKind.u8.wrap (Go.bits Go.BinOp.andNot Go.IntKind.u16 x (15 : Int)))), (.int false .u8 (b)), (.int false .u8 (c)), (.int false .u8 (d)), (.int false .u8 (e)), (.int false .u8 (h)), (.int false .u8 (l)), (.int false .u16 (sp)), (.int false .u16 (pc))]), (.one (.int true .i64 (0)))])) := by kernel_rfl
theorem pairn_tree (w : World) (a f b c d e h l sp pc n : Int) :
    callV Try.prog w (fun _ => false) noCtr noLoop 20 19 [.v (.agg [.int false .u8 a, .int false .u8 f, .int false .u8 b, .int false .u8 c, .int false .u8 d, .int false .u8 e, .int false .u8 h, .int false .u8 l, .int false .u16 sp, .int false .u16 pc]), .v (.one (.int false .i64 n))] =
(.br (Decidable.decide (n < (0 : Int)))
(.leaf (.tuple [(.one (.int true .u16 (0))), (.one (.int true .i64 (1)))]))
((callV Try.prog w (fun _ => false) noCtr noLoop 20 19 [.v (.agg [.int false .u8 a, .int false .u8 f, .int false .u8 b, .int false .u8 c, .int false .u8 d, .int false .u8 e, .int false .u8 h, .int false .u8 l, .int false .u16 sp, .int false .u16 pc]), .v (.one (.int false .i64 n))]).els)) := by kernel_rfl
theorem pairm_tree (w : World) (a f b c d e h l sp pc n : Int) :
    callV Try.prog w (fun _ => false) noCtr noLoop 20 19 [.v (.agg [.int false .u8 a, .int false .u8 f, .int false .u8 b, .int false .u8 c, .int false .u8 d, .int false .u8 e, .int false .u8 h, .int false .u8 l, .int false .u16 sp, .int false .u16 pc]), .v (.one (.int false .i64 n))] =
(.br (Decidable.decide (n < (0 : Int)))
((callV Try.prog w (fun _ => false) noCtr noLoop 20 19 [.v (.agg [.int false .u8 a, .int false .u8 f, .int false .u8 b, .int false .u8 c, .int false .u8 d, .int false .u8 e, .int false .u8 h, .int false .u8 l, .int false .u16 sp, .int false .u16 pc]), .v (.one (.int false .i64 n))]).thn)
(.br (Decidable.decide (n > (4 : Int)))
(.leaf (.tuple [(.one (.int true .u16 (0))), (.one (.int true .i64 (1)))]))
((callV Try.prog w (fun _ => false) noCtr noLoop 20 19 [.v (.agg [.int false .u8 a, .int false .u8 f, .int false .u8 b, .int false .u8 c, .int false .u8 d, .int false .u8 e, .int false .u8 h, .int false .u8 l, .int false .u16 sp, .int false .u16 pc]), .v (.one (.int false .i64 n))]).els.els))) := by kernel_rfl
theorem setpn_tree (w : World) (a f b c d e h l sp pc n x : Int) :
    callV Try.prog w (fun _ => false) noCtr noLoop 20 23 [.v (.agg [.int false .u8 a, .int false .u8 f, .int false .u8 b, .int false .u8 c, .int false .u8 d, .int false .u8 e, .int false .u8 h, .int false .u8 l, .int false .u16 sp, .int false .u16 pc]), .v (.one (.int false .i64 n)), .v (.one (.int false .u16 x))] =
(.br (Decidable.decide (n < (0 : Int)))
(.leaf (.tuple [(.agg [(.int true .u8 (0)), (.int true .u8 (0)), (.int true .u8 (0)), (.int true .u8 (0)), (.int true .u8 (0)), (.int true .u8 (0)), (.int true .u8 (0)), (.int true .u8 (0)), (.int true .u16 (0)), (.int true .u16 (0))]), (.one (.int true .i64 (1)))]))
((callV Try.prog w (fun _ => false) noCtr noLoop 20 23 [.v (.agg [.int false .u8 a, .int false .u8 f, .int false .u8 b, .int false .u8 c, .int false .u8 d, .int false .u8 e, .int false .u8 h, .int false .u8 l, .int false .u16 sp, .int false .u16 pc]), .v (.one (.int false .i64 n)), .v (.one (.int false .u16 x))]).els)) := by kernel_rfl
theorem setpm_tree (w : World) (a f b c d e h l sp pc n x : Int) :
    callV Try.prog w (fun _ => false) noCtr noLoop 20 23 [.v (.agg [.int false .u8 a, .int false .u8 f, .int false .u8 b, .int false .u8 c, .int false .u8 d, .int false .u8 e, .int false .u8 h, .int false .u8 l, .int false .u16 sp, .int false .u16 pc]), .v (.one (.int false .i64 n)), .v (.one (.int false .u16 x))] =
(.br (Decidable.decide (n < (0 : Int)))
((callV Try.prog w (fun _ => false) noCtr noLoop 20 23 [.v (.agg [.int false .u8 a, .int false .u8 f, .int false .u8 b, .int false .u8 c, .int false .u8 d, .int false .u8 e, .int false .u8 h, .int false .u8 l, .int false .u16 sp, .int false .u16 pc]), .v (.one (.int false .i64 n)), .v (.one (.int false .u16 x))]).thn)
(.br (Decidable.decide (n > (4 : Int)))
(.leaf (.tuple [(.agg [(.int true .u8 (0)), (.int true .u8 (0)), (.int true .u8 (0)), (.int true .u8 (0)), (.int true .u8 (0)), (.int true .u8 (0)), (.int true .u8 (0)), (.int true .u8 (0)), (.int true .u16 (0)), (.int true .u16 (0))]), (.one (.int true .i64 (1)))]))
((callV Try.prog w (fun _ => false) noCtr noLoop 20 23 [.v (.agg [.int false .u8 a, .int false .u8 f, .int false .u8 b, .int false .u8 c, .int false .u8 d, .int false .u8 e, .int false .u8 h, .int false .u8 l, .int false .u16 sp, .int false .u16 pc]), .v (.one (.int false .i64 n)), .v (.one (.int false .u16 x))]).els.els))) := by kernel_rfl
theorem rget_tree (w : World) (a f b c d e h l sp pc n : Int) :
    callV Try.prog w (fun _ => false) noCtr noLoop 20 18 [.v (.agg [.int false .u8 a, .int false .u8 f, .int false .u8 b, .int false .u8 c, .int false .u8 d, .int false .u8 e, .int false .u8 h, .int false .u8 l, .int false .u16 sp, .int false .u16 pc]), .v (.one (.int false .i64 n))] =
(.br (n == (0 : Int))
 (.leaf (.tuple [(.one (.int false .u8 (b))), (.one (.int true .i64 (0)))]))
 (.br (n == (1 : Int))
  (.leaf (.tuple [(.one (.int false .u8 (c))), (.one (.int true .i64 (0)))]))
  (.br (n == (2 : Int))
   (.leaf (.tuple [(.one (.int false .u8 (d))), (.one (.int true .i64 (0)))]))
   (.br (n == (3 : Int))
    (.leaf (.tuple [(.one (.int false .u8 (e))), (.one (.int true .i64 (0)))]))
    (.br (n == (4 : Int))
     (.leaf (.tuple [(.one (.int false .u8 (h))), (.one (.int true .i64 (0)))]))
     (.br (n == (5 : Int))
      (.leaf (.tuple [(.one (.int false .u8 (l))), (.one (.int true .i64 (0)))]))
      (.br (n == (7 : Int))
       (.leaf (.tuple [(.one (.int false .u8 (a))), (.one (.int true .i64 (0)))]))
       (.leaf (.tuple [(.one (.int true .u8 (0))), (.one (.int true .i64 (1)))]))))))))) := by kernel_rfl
theorem ris_tree (w : World) (a f b c d e h l sp pc n : Int) :
    callV Try.prog w (fun _ => false) noCtr noLoop 20 21 [.v (.agg [.int false .u8 a, .int false .u8 f, .int false .u8 b, .int false .u8 c, .int false .u8 d, .int false .u8 e, .int false .u8 h, .int false .u8 l, .int false .u16 sp, .int false .u16 pc]), .v (.one (.int false .i64 n))] =
(.br (n == (0 : Int))
 (.br (!Go.IntKind.u8.wrap (f.tdiv (128 : Int)) == (1 : Int))
  (.leaf (.v (.one (.bool true true))))
  (.br (n == (1 : Int))
   (.br (Go.IntKind.u8.wrap (f.tdiv (128 : Int)) == (1 : Int))
    (.leaf (.v (.one (.bool true true))))
    (.br (n == (2 : Int))
     (.br (!(Go.IntKind.u8.wrap (f.tdiv (16 : Int))).tmod (2 : Int) == (1 : Int))
      (.leaf (.v (.one (.bool true true))))
      (.br (n == (3 : Int))
       (.br ((Go.IntKind.u8.wrap (f.tdiv (16 : Int))).tmod (2 : Int) == (1 : Int))
        (.leaf (.v (.one (.bool true true))))
        (.leaf (.v (.one (.bool false (n == (4 : Int)))))))
       (.leaf (.v (.one (.bool false (n == (4 : Int))))))))
     (.br (n == (3 : Int))
      (.br ((Go.IntKind.u8.wrap (f.tdiv (16 : Int))).tmod (2 : Int) == (1 : Int))
       (.leaf (.v (.one (.bool true true))))
       (.leaf (.v (.one (.bool false (n == (4 : Int)))))))
      (.leaf (.v (.one (.bool false (n == (4 : Int)))))))))
   (.br (n == (2 : Int))
    (.br (!(Go.IntKind.u8.wrap (f.tdiv (16 : Int))).tmod (2 : Int) == (1 : Int))
     (.leaf (.v (.one (.bool true true))))
     (.br (n == (3 : Int))
      (.br ((Go.IntKind.u8.wrap (f.tdiv (16 : Int))).tmod (2 : Int) == (1 : Int))
       (.leaf (.v (.one (.bool true true))))
       (.leaf (.v (.one (.bool false (n == (4 : Int)))))))
      (.leaf (.v (.one (.bool false (n == (4 : Int))))))))
    (.br (n == (3 : Int))
     (.br ((Go.IntKind.u8.wrap (f.tdiv (16 : Int))).tmod (2 : Int) == (1 : Int))
      (.leaf (.v (.one (.bool true true))))
      (.leaf (.v (.one (.bool false (n == (4 : Int)))))))
     (.leaf (.v (.one (.bool false (n == (4 : Int))))))))))
 (.br (n == (1 : Int))
  (.br (Go.IntKind.u8.wrap (f.tdiv (128 : Int)) == (1 : Int))
   (.leaf (.v (.one (.bool true true))))
   (.br (n == (2 : Int))
    (.br (!(Go.IntKind.u8.wrap (f.tdiv (16 : Int))).tmod (2 : Int) == (1 : Int))
     (.leaf (.v (.one (.bool true true))))
     (.br (n == (3 : Int))
      (.br ((Go.IntKind.u8.wrap (f.tdiv (16 : Int))).tmod (2 : Int) == (1 : Int))
       (.leaf (.v (.one (.bool true true))))
       (.leaf (.v (.one (.bool false (n == (4 : Int)))))))
      (.leaf (.v (.one (.bool false (n == (4 : Int))))))))
    (.br (n == (3 : Int))
     (.br ((Go.IntKind.u8.wrap (f.tdiv (16 : Int))).tmod (2 : Int) == (1 : Int))
      (.leaf (.v (.one (.bool true true))))
      (.leaf (.v (.one (.bool false (n == (4 : Int)))))))
     (.leaf (.v (.one (.bool false (n == (4 : Int)))))))))
  (.br (n == (2 : Int))
   (.br (!(Go.IntKind.u8.wrap (f.tdiv (16 : Int))).tmod (2 : Int) == (1 : Int))
    (.leaf (.v (.one (.bool true true))))
    (.br (n == (3 : Int))
     (.br ((Go.IntKind.u8.wrap (f.tdiv (16 : Int))).tmod (2 : Int) == (1 : Int))
      (.leaf (.v (.one (.bool true true))))
      (.leaf (.v (.one (.bool false (n == (4 : Int)))))))
     (.leaf (.v (.one (.bool false (n == (4 : Int))))))))
   (.br (n == (3 : Int))
    (.br ((Go.IntKind.u8.wrap (f.tdiv (16 : Int))).tmod (2 : Int) == (1 : Int))
     (.leaf (.v (.one (.bool true true))))
     (.leaf (.v (.one (.bool false (n == (4 : Int)))))))
    (.leaf (.v (.one (.bool false (n == (4 : Int)))))))))) := by kernel_rfl
theorem rpair_tree (w : World) (a f b c d e h l sp pc n : Int) :
    callV Try.prog w (fun _ => false) noCtr noLoop 20 20 [.v (.agg [.int false .u8 a, .int false .u8 f, .int false .u8 b, .int false .u8 c, .int false .u8 d, .int false .u8 e, .int false .u8 h, .int false .u8 l, .int false .u16 sp, .int false .u16 pc]), .v (.one (.int false .i64 n))] =
(.br (n == (0 : Int))
 (.leaf (.tuple [(.one (.int false .u16 (Go.IntKind.u16.wrap
  (Go.IntKind.i64.wrap (Go.IntKind.i64.wrap (Go.IntKind.i64.wrap b * (256 : Int)) + Go.IntKind.i64.wrap c))))), (.one (.int true .i64 (0)))]))
 (.br (n == (1 : Int))
  (.leaf (.tuple [(.one (.int false .u16 (Go.IntKind.u16.wrap
  (Go.IntKind.i64.wrap (Go.IntKind.i64.wrap (Go.IntKind.i64.wrap d * (256 : Int)) + Go.IntKind.i64.wrap e))))), (.one (.int true .i64 (0)))]))
  (.br (n == (2 : Int))
   (.leaf (.tuple [(.one (.int false .u16 (Go.IntKind.u16.wrap
  (Go.IntKind.i64.wrap (Go.IntKind.i64.wrap (Go.IntKind.i64.wrap h * (256 : Int)) + Go.IntKind.i64.wrap l))))), (.one (.int true .i64 (0)))]))
   (.br (n == (3 : Int))
    (.leaf (.tuple [(.one (.int false .u16 (sp))), (.one (.int true .i64 (0)))]))
    (.br (n == (4 : Int))
     (.leaf (.tuple [(.one (.int false .u16 (Go.IntKind.u16.wrap
  (Go.IntKind.i64.wrap
    (Go.IntKind.i64.wrap (Go.IntKind.i64.wrap a * (256 : Int)) +
      Go.IntKind.i64.wrap (Go.IntKind.u8.wrap (Go.IntKind.u8.wrap (f.tdiv (16 : Int)) * (16 : Int)))))))), (.one (.int true .i64 (0)))]))
     (.leaf (.tuple [(.one (.int true .u16 (0))), (.one (.int true .i64 (1)))]))))))) := by kernel_rfl
theorem rset_tree (w : World) (a f b c d e h l sp pc n x : Int) :
    callV Try.prog w (fun _ => false) noCtr noLoop 20 22 [.v (.agg [.int false .u8 a, .int false .u8 f, .int false .u8 b, .int false .u8 c, .int false .u8 d, .int false .u8 e, .int false .u8 h, .int false .u8 l, .int false .u16 sp, .int false .u16 pc]), .v (.one (.int false .i64 n)), .v (.one (.int false .u8 x))] =
(.br (n == (0 : Int))
 (.leaf (.tuple [(.agg [(.int false .u8 (a)), (.int false .u8 (f)), (.int false .u8 (x)), (.int false .u8 (c)), (.int false .u8 (d)), (.int false .u8 (e)), (.int false .u8 (h)), (.int false .u8 (l)), (.int false .u16 (sp)), (.int false .u16 (pc))]), (.one (.int true .i64 (0)))]))
 (.br (n == (1 : Int))
  (.leaf (.tuple [(.agg [(.int false .u8 (a)), (.int false .u8 (f)), (.int false .u8 (b)), (.int false .u8 (x)), (.int false .u8 (d)), (.int false .u8 (e)), (.int false .u8 (h)), (.int false .u8 (l)), (.int false .u16 (sp)), (.int false .u16 (pc))]), (.one (.int true .i64 (0)))]))
  (.br (n == (2 : Int))
   (.leaf (.tuple [(.agg [(.int false .u8 (a)), (.int false .u8 (f)), (.int false .u8 (b)), (.int false .u8 (c)), (.int false .u8 (x)), (.int false .u8 (e)), (.int false .u8 (h)), (.int false .u8 (l)), (.int false .u16 (sp)), (.int false .u16 (pc))]), (.one (.int true .i64 (0)))]))
   (.br (n == (3 : Int))
    (.leaf (.tuple [(.agg [(.int false .u8 (a)), (.int false .u8 (f)), (.int false .u8 (b)), (.int false .u8 (c)), (.int false .u8 (d)), (.int false .u8 (x)), (.int false .u8 (h)), (.int false .u8 (l)), (.int false .u16 (sp)), (.int false .u16 (pc))]), (.one (.int true .i64 (0)))]))
    (.br (n == (4 : Int))
     (.leaf (.tuple [(.agg [(.int false .u8 (a)), (.int false .u8 (f)), (.int false .u8 (b)), (.int false .u8 (c)), (.int false .u8 (d)), (.int false .u8 (e)), (.int false .u8 (x)), (.int false .u8 (l)), (.int false .u16 (sp)), (.int false .u16 (pc))]), (.one (.int true .i64 (0)))]))
     (.br (n == (5 : Int))
      (.leaf (.tuple [(.agg [(.int false .u8 (a)), (.int false .u8 (f)), (.int false .u8 (b)), (.int false .u8 (c)), (.int false .u8 (d)), (.int false .u8 (e)), (.int false .u8 (h)), (.int false .u8 (x)), (.int false .u16 (sp)), (.int false .u16 (pc))]), (.one (.int true .i64 (0)))]))
      (.br (n == (7 : Int))
       (.leaf (.tuple [(.agg [(.int false .u8 (x)), (.int false .u8 (f)), (.int false .u8 (b)), (.int false .u8 (c)), (.int false .u8 (d)), (.int false .u8 (e)), (.int false .u8 (h)), (.int false .u8 (l)), (.int false .u16 (sp)), (.int false .u16 (pc))]), (.one (.int true .i64 (0)))]))
       (.leaf (.tuple [(.agg [(.int true .u8 (0)), (.int true .u8 (0)), (.int true .u8 (0)), (.int true .u8 (0)), (.int true .u8 (0)), (.int true .u8 (0)), (.int true .u8 (0)), (.int true .u8 (0)), (.int true .u16 (0)), (.int true .u16 (0))]), (.one (.int true .i64 (1)))]))))))))) := by kernel_rfl
theorem rsetp_tree (w : World) (a f b c d e h l sp pc n x : Int) :
    callV Try.prog w (fun _ => false) noCtr noLoop 20 24 [.v (.agg [.int false .u8 a, .int false .u8 f, .int false .u8 b, .int false .u8 c, .int false .u8 d, .int false .u8 e, .int false .u8 h, .int false .u8 l, .int false .u16 sp, .int false .u16 pc]), .v (.one (.int false .i64 n)), .v (.one (.int false .u16 x))] =
(.br (n == (0 : Int))
 (.leaf (.tuple [(.agg [(.int false .u8 (a)), (.int false .u8 (f)), (.int false .u8 (Go.IntKind.u8.wrap (Go.IntKind.u16.wrap (x.tdiv (256 : Int))))), (.int false .u8 (Go.IntKind.u8.wrap (x.tmod (256 : Int)))), (.int false .u8 (d)), (.int false .u8 (e)), (.int false .u8 (h)), (.int false .u8 (l)), (.int false .u16 (sp)), (.int false .u16 (pc))]), (.one (.int true .i64 (0)))]))
 (.br (n == (1 : Int))
  (.leaf (.tuple [(.agg [(.int false .u8 (a)), (.int false .u8 (f)), (.int false .u8 (b)), (.int false .u8 (c)), (.int false .u8 (Go.IntKind.u8.wrap (Go.IntKind.u16.wrap (x.tdiv (256 : Int))))), (.int false .u8 (Go.IntKind.u8.wrap (x.tmod (256 : Int)))), (.int false .u8 (h)), (.int false .u8 (l)), (.int false .u16 (sp)), (.int false .u16 (pc))]), (.one (.int true .i64 (0)))]))
  (.br (n == (2 : Int))
   (.leaf (.tuple [(.agg [(.int false .u8 (a)), (.int false .u8 (f)), (.int false .u8 (b)), (.int false .u8 (c)), (.int false .u8 (d)), (.int false .u8 (e)), (.int false .u8 (Go.IntKind.u8.wrap (Go.IntKind.u16.wrap (x.tdiv (256 : Int))))), (.int false .u8 (Go.IntKind.u8.wrap (x.tmod (256 : Int)))), (.int false .u16 (sp)), (.int false .u16 (pc))]), (.one (.int true .i64 (0)))]))
   (.br (n == (3 : Int))
    (.leaf (.tuple [(.agg [(.int false .u8 (a)), (.int false .u8 (f)), (.int false .u8 (b)), (.int false .u8 (c)), (.int false .u8 (d)), (.int false .u8 (e)), (.int false .u8 (h)), (.int false .u8 (l)), (.int false .u16 (x)), (.int false .u16 (pc))]), (.one (.int true .i64 (0)))]))
    (.br (n == (4 : Int))
     (.leaf (.tuple [(.agg [(.int false .u8 (Go.IntKind.u8.wrap (Go.IntKind.u16.wrap (x.tdiv (256 : Int))))), (.int false .u8 (Go.IntKind.u8.wrap (Go.IntKind.u8.wrap ((Go.IntKind.u8.wrap (x.tmod (256 : Int))).tdiv (16 : Int)) * (16 : Int)))), (.int false .u8 (b)), (.int false .u8 (c)), (.int false .u8 (d)), (.int false .u8 (e)), (.int false .u8 (h)), (.int false .u8 (l)), (.int false .u16 (sp)), (.int false .u16 (pc))]), (.one (.int true .i64 (0)))]))
     (.leaf (.tuple [(.agg [(.int true .u8 (0)), (.int true .u8 (0)), (.int true .u8 (0)), (.int true .u8 (0)), (.int true .u8 (0)), (.int true .u8 (0)), (.int true .u8 (0)), (.int true .u8 (0)), (.int true .u16 (0)), (.int true .u16 (0))]), (.one (.int true .i64 (1)))]))))))) := by kernel_rfl
set_option maxHeartbeats 1000000 in
theorem is_any (w : World) (a f b c d e h l sp pc n : Int) (ba : Rg.B a) (bf : Rg.B f) (bb : Rg.B b) (bc : Rg.B c) (bd : Rg.B d) (be : Rg.B e) (bh : Rg.B h) (bl : Rg.B l) (bsp : Rg.W sp) (bpc : Rg.W pc) :
    Calls Try.prog 10 #[.agg #[.int .u8 a, .int .u8 f, .int .u8 b, .int .u8 c, .int .u8 d, .int .u8 e, .int .u8 h, .int .u8 l, .int .u16 sp, .int .u16 pc], .int .i64 n] w fun e' w' => e' = .returned (.bool (Rg.isB f n)) ∧ Below w.heap.size w w' := by
  refine val_eq base (ctrs_none _ _) (loops_none _ _) (is_tree w a f b c d e h l sp pc n) rfl ?_
  simp (disch := omega) only [T.holds, Int.tdiv_eq_ediv_of_nonneg, Int.tmod_eq_emod_of_nonneg, Rg.wu8, Rg.wu16, Rg.wi64, Rg.b128 bf, Rg.b16 bf, Rg.b240 bf, beq_iff_eq, decide_eq_true_eq, decide_eq_false_iff_not, beq_eq_false_iff_ne, Bool.not_eq_true', Bool.not_eq_false', ne_eq, Int.fdiv_eq_ediv_of_nonneg]
  repeat' (first | refine And.intro ?_ ?_ | intro _)
  all_goals (try subst_vars)
  all_goals first
    | rfl
    | omega
    | (simp [AV.γ, V.γ, Sc.γ, Rg.isB, Rg.b128 bf, Rg.b16 bf]; done)
    | (simp [AV.γ, V.γ, Sc.γ, Rg.isB, Rg.b128 bf, Rg.b16 bf]; omega)
    | (simp only [AV.γ, V.γ, Sc.γ, List.map, Rg.isB, Rg.b128 bf, Rg.b16 bf]; (repeat' split) <;> first | rfl | omega | (simp_all; done) | (congr 1; rw [Bool.eq_iff_iff]; simp; done) | (congr 1; rw [Bool.eq_iff_iff]; simp; omega) | (simp_all; omega))
set_option maxHeartbeats 1000000 in
theorem get_any (w : World) (a f b c d e h l sp pc n : Int) (ba : Rg.B a) (bf : Rg.B f) (bb : Rg.B b) (bc : Rg.B c) (bd : Rg.B d) (be : Rg.B e) (bh : Rg.B h) (bl : Rg.B l) (bsp : Rg.W sp) (bpc : Rg.W pc) :
    Calls Try.prog 12 #[.agg #[.int .u8 a, .int .u8 f, .int .u8 b, .int .u8 c, .int .u8 d, .int .u8 e, .int .u8 h, .int .u8 l, .int .u16 sp, .int .u16 pc], .int .i64 n] w fun e' w' => e' = .returned (.tuple #[.int .u8 (Rg.gv n a b c d e h l), .int .i64 (Rg.ge n)]) ∧ Below w.heap.size w w' := by
  refine val_eq base (ctrs_none _ _) (loops_none _ _) (get_tree w a f b c d e h l sp pc n) rfl ?_
  simp (disch := omega) only [T.holds, Int.tdiv_eq_ediv_of_nonneg, Int.tmod_eq_emod_of_nonneg, Rg.wu8, Rg.wu16, Rg.wi64, Rg.b128 bf, Rg.b16 bf, Rg.b240 bf, beq_iff_eq, decide_eq_true_eq, decide_eq_false_iff_not, beq_eq_false_iff_ne, Bool.not_eq_true', Bool.not_eq_false', ne_eq, Int.fdiv_eq_ediv_of_nonneg]
  repeat' (first | refine And.intro ?_ ?_ | intro _)
  all_goals (try subst_vars)
  all_goals first
    | rfl
    | omega
    | (simp [AV.γ, V.γ, Sc.γ, Rg.gv, Rg.ge]; done)
    | (simp [AV.γ, V.γ, Sc.γ, Rg.gv, Rg.ge]; omega)
    | (simp only [AV.γ, V.γ, Sc.γ, List.map, Rg.gv, Rg.ge]; (repeat' split) <;> first | rfl | omega | (simp_all; done) | (congr 1; rw [Bool.eq_iff_iff]; simp; done) | (congr 1; rw [Bool.eq_iff_iff]; simp; omega) | (simp_all; omega))
set_option maxHeartbeats 1000000 in
theorem rget_any (w : World) (a f b c d e h l sp pc n : Int) (ba : Rg.B a) (bf : Rg.B f) (bb : Rg.B b) (bc : Rg.B c) (bd : Rg.B d) (be : Rg.B e) (bh : Rg.B h) (bl : Rg.B l) (bsp : Rg.W sp) (bpc : Rg.W pc) :
    Calls Try.prog 18 #[.agg #[.int .u8 a, .int .u8 f, .int .u8 b, .int .u8 c, .int .u8 d, .int .u8 e, .int .u8 h, .int .u8 l, .int .u16 sp, .int .u16 pc], .int .i64 n] w fun e' w' => e' = .returned (.tuple #[.int .u8 (Rg.gv n a b c d e h l), .int .i64 (Rg.ge n)]) ∧ Below w.heap.size w w' := by
  refine val_eq base (ctrs_none _ _) (loops_none _ _) (rget_tree w a f b c d e h l sp pc n) rfl ?_
  simp (disch := omega) only [T.holds, Int.tdiv_eq_ediv_of_nonneg, Int.tmod_eq_emod_of_nonneg, Rg.wu8, Rg.wu16, Rg.wi64, Rg.b128 bf, Rg.b16 bf, Rg.b240 bf, beq_iff_eq, decide_eq_true_eq, decide_eq_false_iff_not, beq_eq_false_iff_ne, Bool.not_eq_true', Bool.not_eq_false', ne_eq, Int.fdiv_eq_ediv_of_nonneg]
  repeat' (first | refine And.intro ?_ ?_ | intro _)
  all_goals (try subst_vars)
  all_goals first
    | rfl
    | omega
    | (simp [AV.γ, V.γ, Sc.γ, Rg.gv, Rg.ge]; done)
    | (simp [AV.γ, V.γ, Sc.γ, Rg.gv, Rg.ge]; omega)
    | (simp only [AV.γ, V.γ, Sc.γ, List.map, Rg.gv, Rg.ge]; (repeat' split) <;> first | rfl | omega | (simp_all; done) | (congr 1; rw [Bool.eq_iff_iff]; simp; done) | (congr 1; rw [Bool.eq_iff_iff]; simp; omega) | (simp_all; omega))
set_option maxHeartbeats 1000000 in
theorem set_any (w : World) (a f b c d e h l sp pc n x : Int) (ba : Rg.B a) (bf : Rg.B f) (bb : Rg.B b) (bc : Rg.B c) (bd : Rg.B d) (be : Rg.B e) (bh : Rg.B h) (bl : Rg.B l) (bsp : Rg.W sp) (bpc : Rg.W pc) :
    Calls Try.prog 11 #[.agg #[.int .u8 a, .int .u8 f, .int .u8 b, .int .u8 c, .int .u8 d, .int .u8 e, .int .u8 h, .int .u8 l, .int .u16 sp, .int .u16 pc], .int .i64 n, .int .u8 x] w fun e' w' => e' = .returned (.tuple #[.agg #[.int .u8 (Rg.sv 7 n x a), .int .u8 (Rg.sv 9 n x f), .int .u8 (Rg.sv 0 n x b), .int .u8 (Rg.sv 1 n x c), .int .u8 (Rg.sv 2 n x d), .int .u8 (Rg.sv 3 n x e), .int .u8 (Rg.sv 4 n x h), .int .u8 (Rg.sv 5 n x l), .int .u16 (Rg.sv 9 n x sp), .int .u16 (Rg.sv 9 n x pc)], .int .i64 (Rg.ge n)]) ∧ Below w.heap.size w w' := by
  refine val_eq base (ctrs_none _ _) (loops_none _ _) (set_tree w a f b c d e h l sp pc n x) rfl ?_
  simp (disch := omega) only [T.holds, Int.tdiv_eq_ediv_of_nonneg, Int.tmod_eq_emod_of_nonneg, Rg.wu8, Rg.wu16, Rg.wi64, Rg.b128 bf, Rg.b16 bf, Rg.b240 bf, beq_iff_eq, decide_eq_true_eq, decide_eq_false_iff_not, beq_eq_false_iff_ne, Bool.not_eq_true', Bool.not_eq_false', ne_eq, Int.fdiv_eq_ediv_of_nonneg]
  repeat' (first | refine And.intro ?_ ?_ | intro _)
  all_goals (try subst_vars)
  all_goals first
    | rfl
    | omega
    | (simp [AV.γ, V.γ, Sc.γ, Rg.sv, Rg.ge]; done)
    | (simp [AV.γ, V.γ, Sc.γ, Rg.sv, Rg.ge]; omega)
    | (simp only [AV.γ, V.γ, Sc.γ, List.map, Rg.sv, Rg.ge]; (repeat' split) <;> first | rfl | omega | (simp_all; done) | (congr 1; rw [Bool.eq_iff_iff]; simp; done) | (congr 1; rw [Bool.eq_iff_iff]; simp; omega) | (simp_all; omega))
set_option maxHeartbeats 1000000 in
theorem rset_any (w : World) (a f b c d e h l sp pc n x : Int) (ba : Rg.B a) (bf : Rg.B f) (bb : Rg.B b) (bc : Rg.B c) (bd : Rg.B d) (be : Rg.B e) (bh : Rg.B h) (bl : Rg.B l) (bsp : Rg.W sp) (bpc : Rg.W pc) :
    Calls Try.prog 22 #[.agg #[.int .u8 a, .int .u8 f, .int .u8 b, .int .u8 c, .int .u8 d, .int .u8 e, .int .u8 h, .int .u8 l, .int .u16 sp, .int .u16 pc], .int .i64 n, .int .u8 x] w fun e' w' => e' = .returned (.tuple #[.agg #[.int .u8 (Rg.sv 7 n x a), .int .u8 (Rg.sv 9 n x f), .int .u8 (Rg.sv 0 n x b), .int .u8 (Rg.sv 1 n x c), .int .u8 (Rg.sv 2 n x d), .int .u8 (Rg.sv 3 n x e), .int .u8 (Rg.sv 4 n x h), .int .u8 (Rg.sv 5 n x l), .int .u16 (Rg.sv 9 n x sp), .int .u16 (Rg.sv 9 n x pc)], .int .i64 (Rg.ge n)]) ∧ Below w.heap.size w w' := by
  refine val_eq base (ctrs_none _ _) (loops_none _ _) (rset_tree w a f b c d e h l sp pc n x) rfl ?_
  simp (disch := omega) only [T.holds, Int.tdiv_eq_ediv_of_nonneg, Int.tmod_eq_emod_of_nonneg, Rg.wu8, Rg.wu16, Rg.wi64, Rg.b128 bf, Rg.b16 bf, Rg.b240 bf, beq_iff_eq, decide_eq_true_eq, decide_eq_false_iff_not, beq_eq_false_iff_ne, Bool.not_eq_true', Bool.not_eq_false', ne_eq, Int.fdiv_eq_ediv_of_nonneg]
  repeat' (first | refine And.intro ?_ ?_ | intro _)
  all_goals (try subst_vars)
  all_goals first
    | rfl
    | omega
    | (simp [AV.γ, V.γ, Sc.γ, Rg.sv, Rg.ge]; done)
    | (simp [AV.γ, V.γ, Sc.γ, Rg.sv, Rg.ge]; omega)
    | (simp only [AV.γ, V.γ, Sc.γ, List.map, Rg.sv, Rg.ge]; (repeat' split) <;> first | rfl | omega | (simp_all; done) | (congr 1; rw [Bool.eq_iff_iff]; simp; done) | (congr 1; rw [Bool.eq_iff_iff]; simp; omega) | (simp_all; omega))
set_option maxHeartbeats 1000000 in
theorem ris_any (w : World) (a f b c d e h l sp pc n : Int) (ba : Rg.B a) (bf : Rg.B f) (bb : Rg.B b) (bc : Rg.B c) (bd : Rg.B d) (be : Rg.B e) (bh : Rg.B h) (bl : Rg.B l) (bsp : Rg.W sp) (bpc : Rg.W pc) :
    Calls Try.prog 21 #[.agg #[.int .u8 a, .int .u8 f, .int .u8 b, .int .u8 c, .int .u8 d, .int .u8 e, .int .u8 h, .int .u8 l, .int .u16 sp, .int .u16 pc], .int .i64 n] w fun e' w' => e' = .returned (.bool (Rg.isB f n)) ∧ Below w.heap.size w w' := by
  refine val_eq base (ctrs_none _ _) (loops_none _ _) (ris_tree w a f b c d e h l sp pc n) rfl ?_
  simp (disch := omega) only [T.holds, Int.tdiv_eq_ediv_of_nonneg, Int.tmod_eq_emod_of_nonneg, Rg.wu8, Rg.wu16, Rg.wi64, Rg.b128 bf, Rg.b16 bf, Rg.b240 bf, beq_iff_eq, decide_eq_true_eq, decide_eq_false_iff_not, beq_eq_false_iff_ne, Bool.not_eq_true', Bool.not_eq_false', ne_eq, Int.fdiv_eq_ediv_of_nonneg]
  repeat' (first | refine And.intro ?_ ?_ | intro _)
  all_goals (try subst_vars)
  all_goals first
    | rfl
    | omega
    | (simp [AV.γ, V.γ, Sc.γ, Rg.isB, Rg.wu8]; done)
    | (simp [AV.γ, V.γ, Sc.γ, Rg.isB, Rg.wu8]; omega)
    | (simp only [AV.γ, V.γ, Sc.γ, List.map, Rg.isB, Rg.wu8]; (repeat' split) <;> first | rfl | omega | (simp_all; done) | (congr 1; rw [Bool.eq_iff_iff]; simp; done) | (congr 1; rw [Bool.eq_iff_iff]; simp; omega) | (simp_all; omega))
set_option maxHeartbeats 2000000 in
theorem pair_any (w : World) (a f b c d e h l sp pc n : Int) (ba : Rg.B a) (bf : Rg.B f) (bb : Rg.B b) (bc : Rg.B c) (bd : Rg.B d) (be : Rg.B e) (bh : Rg.B h) (bl : Rg.B l) (bsp : Rg.W sp) (bpc : Rg.W pc) :
    Calls Try.prog 19 #[.agg #[.int .u8 a, .int .u8 f, .int .u8 b, .int .u8 c, .int .u8 d, .int .u8 e, .int .u8 h, .int .u8 l, .int .u16 sp, .int .u16 pc], .int .i64 n] w fun e' w' => e' = .returned (.tuple #[.int .u16 (Rg.pv n a f b c d e h l sp), .int .i64 (Rg.pe n)]) ∧ Below w.heap.size w w' := by
  by_cases h0 : n < 0
  · refine val_eq base (ctrs_none _ _) (loops_none _ _) (pairn_tree w a f b c d e h l sp pc n) rfl (T.br_t (by simpa using h0) ⟨rfl, ?_⟩)
    simp only [AV.γ, V.γ, Sc.γ, List.map, Rg.pv, Rg.pe]; (repeat' split) <;> first | rfl | omega | (simp_all; done) | (simp_all; omega)
  by_cases h1 : n > 4
  · refine val_eq base (ctrs_none _ _) (loops_none _ _) (pairm_tree w a f b c d e h l sp pc n) rfl (T.br_f (by simpa using h0) (T.br_t (by simpa using h1) ⟨rfl, ?_⟩))
    simp only [AV.γ, V.γ, Sc.γ, List.map, Rg.pv, Rg.pe]; (repeat' split) <;> first | rfl | omega | (simp_all; done) | (simp_all; omega)
  have hn : n = 0 ∨ n = 1 ∨ n = 2 ∨ n = 3 ∨ n = 4 := by omega
  rcases hn with rfl | rfl | rfl | rfl | rfl
  · refine val_eq base (ctrs_none _ _) (loops_none _ _) (pair0_tree w a f b c d e h l sp pc) rfl ⟨rfl, ?_⟩
    simp (disch := omega) only [AV.γ, V.γ, Sc.γ, List.map, Rg.b240 bf, Rg.wu8, Rg.wu16, Rg.pv, Rg.pe, Int.fdiv_eq_ediv_of_nonneg]
    first | (simp; done) | (simp only [Rg.borw bb bc, Rg.borw bd be, Rg.borw bh bl, Rg.borw ba (Rg.up_B bf)]; simp; done) | (simp [Rg.pw, Rg.up]; omega)
  · refine val_eq base (ctrs_none _ _) (loops_none _ _) (pair1_tree w a f b c d e h l sp pc) rfl ⟨rfl, ?_⟩
    simp (disch := omega) only [AV.γ, V.γ, Sc.γ, List.map, Rg.b240 bf, Rg.wu8, Rg.wu16, Rg.pv, Rg.pe, Int.fdiv_eq_ediv_of_nonneg]
    first | (simp; done) | (simp only [Rg.borw bb bc, Rg.borw bd be, Rg.borw bh bl, Rg.borw ba (Rg.up_B bf)]; simp; done) | (simp [Rg.pw, Rg.up]; omega)
  · refine val_eq base (ctrs_none _ _) (loops_none _ _) (pair2_tree w a f b c d e h l sp pc) rfl ⟨rfl, ?_⟩
    simp (disch := omega) only [AV.γ, V.γ, Sc.γ, List.map, Rg.b240 bf, Rg.wu8, Rg.wu16, Rg.pv, Rg.pe, Int.fdiv_eq_ediv_of_nonneg]
    first | (simp; done) | (simp only [Rg.borw bb bc, Rg.borw bd be, Rg.borw bh bl, Rg.borw ba (Rg.up_B bf)]; simp; done) | (simp [Rg.pw, Rg.up]; omega)
  · refine val_eq base (ctrs_none _ _) (loops_none _ _) (pair3_tree w a f b c d e h l sp pc) rfl ⟨rfl, ?_⟩
    simp (disch := omega) only [AV.γ, V.γ, Sc.γ, List.map, Rg.b240 bf, Rg.wu8, Rg.wu16, Rg.pv, Rg.pe, Int.fdiv_eq_ediv_of_nonneg]
    first | (simp; done) | (simp only [Rg.borw bb bc, Rg.borw bd be, Rg.borw bh bl, Rg.borw ba (Rg.up_B bf)]; simp; done) | (simp [Rg.pw, Rg.up]; omega)
  · refine val_eq base (ctrs_none _ _) (loops_none _ _) (pair4_tree w a f b c d e h l sp pc) rfl ⟨rfl, ?_⟩
    simp (disch := omega) only [AV.γ, V.γ, Sc.γ, List.map, Rg.b240 bf, Rg.wu8, Rg.wu16, Rg.pv, Rg.pe, Int.fdiv_eq_ediv_of_nonneg]
    first | (simp; done) | (simp only [Rg.borw bb bc, Rg.borw bd be, Rg.borw bh bl, Rg.borw ba (Rg.up_B bf)]; simp; done) | (simp [Rg.pw, Rg.up]; omega)
set_option maxHeartbeats 2000000 in
theorem setp_any (w : World) (a f b c d e h l sp pc n x : Int) (ba : Rg.B a) (bf : Rg.B f) (bb : Rg.B b) (bc : Rg.B c) (bd : Rg.B d) (be : Rg.B e) (bh : Rg.B h) (bl : Rg.B l) (bsp : Rg.W sp) (bpc : Rg.W pc) (bx : Rg.W x) :
    Calls Try.prog 23 #[.agg #[.int .u8 a, .int .u8 f, .int .u8 b, .int .u8 c, .int .u8 d, .int .u8 e, .int .u8 h, .int .u8 l, .int .u16 sp, .int .u16 pc], .int .i64 n, .int .u16 x] w fun e' w' => e' = .returned (.tuple #[.agg #[.int .u8 (Rg.tv 4 n (x / 256) a), .int .u8 (Rg.tv 4 n (Rg.up (x % 256)) f), .int .u8 (Rg.tv 0 n (x / 256) b), .int .u8 (Rg.tv 0 n (x % 256) c), .int .u8 (Rg.tv 1 n (x / 256) d), .int .u8 (Rg.tv 1 n (x % 256) e), .int .u8 (Rg.tv 2 n (x / 256) h), .int .u8 (Rg.tv 2 n (x % 256) l), .int .u16 (Rg.tv 3 n x sp), .int .u16 (Rg.tv 9 n x pc)], .int .i64 (Rg.pe n)]) ∧ Below w.heap.size w w' := by
  by_cases h0 : n < 0
  · refine val_eq base (ctrs_none _ _) (loops_none _ _) (setpn_tree w a f b c d e h l sp pc n x) rfl (T.br_t (by simpa using h0) ⟨rfl, ?_⟩)
    simp only [AV.γ, V.γ, Sc.γ, List.map, Rg.tv, Rg.pe]; (repeat' split) <;> first | rfl | omega | (simp_all; done) | (simp_all; omega)
  by_cases h1 : n > 4
  · refine val_eq base (ctrs_none _ _) (loops_none _ _) (setpm_tree w a f b c d e h l sp pc n x) rfl (T.br_f (by simpa using h0) (T.br_t (by simpa using h1) ⟨rfl, ?_⟩))
    simp only [AV.γ, V.γ, Sc.γ, List.map, Rg.tv, Rg.pe]; (repeat' split) <;> first | rfl | omega | (simp_all; done) | (simp_all; omega)
  have hn : n = 0 ∨ n = 1 ∨ n = 2 ∨ n = 3 ∨ n = 4 := by omega
  rcases hn with rfl | rfl | rfl | rfl | rfl
  · refine val_eq base (ctrs_none _ _) (loops_none _ _) (setp0_tree w a f b c d e h l sp pc x) rfl ⟨rfl, ?_⟩
    simp (disch := omega) only [AV.γ, V.γ, Sc.γ, List.map, Rg.b240 bf, Rg.wu8, Rg.wu16, Rg.tv, Rg.pe, Rg.bandn bx, Int.fdiv_eq_ediv_of_nonneg]
    first | (simp; done) | (simp only [Rg.borw bb bc, Rg.borw bd be, Rg.borw bh bl, Rg.borw ba (Rg.up_B bf)]; simp; done) | (simp [Rg.pw, Rg.up]; omega)
  · refine val_eq base (ctrs_none _ _) (loops_none _ _) (setp1_tree w a f b c d e h l sp pc x) rfl ⟨rfl, ?_⟩
    simp (disch := omega) only [AV.γ, V.γ, Sc.γ, List.map, Rg.b240 bf, Rg.wu8, Rg.wu16, Rg.tv, Rg.pe, Rg.bandn bx, Int.fdiv_eq_ediv_of_nonneg]
    first | (simp; done) | (simp only [Rg.borw bb bc, Rg.borw bd be, Rg.borw bh bl, Rg.borw ba (Rg.up_B bf)]; simp; done) | (simp [Rg.pw, Rg.up]; omega)
  · refine val_eq base (ctrs_none _ _) (loops_none _ _) (setp2_tree w a f b c d e h l sp pc x) rfl ⟨rfl, ?_⟩
    simp (disch := omega) only [AV.γ, V.γ, Sc.γ, List.map, Rg.b240 bf, Rg.wu8, Rg.wu16, Rg.tv, Rg.pe, Rg.bandn bx, Int.fdiv_eq_ediv_of_nonneg]
    first | (simp; done) | (simp only [Rg.borw bb bc, Rg.borw bd be, Rg.borw bh bl, Rg.borw ba (Rg.up_B bf)]; simp; done) | (simp [Rg.pw, Rg.up]; omega)
  · refine val_eq base (ctrs_none _ _) (loops_none _ _) (setp3_tree w a f b c d e h l sp pc x) rfl ⟨rfl, ?_⟩
    simp (disch := omega) only [AV.γ, V.γ, Sc.γ, List.map, Rg.b240 bf, Rg.wu8, Rg.wu16, Rg.tv, Rg.pe, Rg.bandn bx, Int.fdiv_eq_ediv_of_nonneg]
    first | (simp; done) | (simp only [Rg.borw bb bc, Rg.borw bd be, Rg.borw bh bl, Rg.borw ba (Rg.up_B bf)]; simp; done) | (simp [Rg.pw, Rg.up]; omega)
  · refine val_eq base (ctrs_none _ _) (loops_none _ _) (setp4_tree w a f b c d e h l sp pc x) rfl ⟨rfl, ?_⟩
    simp (disch := omega) only [AV.γ, V.γ, Sc.γ, List.map, Rg.b240 bf, Rg.wu8, Rg.wu16, Rg.tv, Rg.pe, Rg.bandn bx, Int.fdiv_eq_ediv_of_nonneg]
    first | (simp; done) | (simp only [Rg.borw bb bc, Rg.borw bd be, Rg.borw bh bl, Rg.borw ba (Rg.up_B bf)]; simp; done) | (simp [Rg.pw, Rg.up]; omega)
set_option maxHeartbeats 1000000 in
theorem rpair_any (w : World) (a f b c d e h l sp pc n : Int) (ba : Rg.B a) (bf : Rg.B f) (bb : Rg.B b) (bc : Rg.B c) (bd : Rg.B d) (be : Rg.B e) (bh : Rg.B h) (bl : Rg.B l) (bsp : Rg.W sp) (bpc : Rg.W pc) :
    Calls Try.prog 20 #[.agg #[.int .u8 a, .int .u8 f, .int .u8 b, .int .u8 c, .int .u8 d, .int .u8 e, .int .u8 h, .int .u8 l, .int .u16 sp, .int .u16 pc], .int .i64 n] w fun e' w' => e' = .returned (.tuple #[.int .u16 (Rg.pv n a f b c d e h l sp), .int .i64 (Rg.pe n)]) ∧ Below w.heap.size w w' := by
  refine val_eq base (ctrs_none _ _) (loops_none _ _) (rpair_tree w a f b c d e h l sp pc n) rfl ?_
  simp (disch := omega) only [T.holds, Int.tdiv_eq_ediv_of_nonneg, Int.tmod_eq_emod_of_nonneg, Rg.wu8, Rg.wu16, Rg.wi64, Rg.b128 bf, Rg.b16 bf, Rg.b240 bf, beq_iff_eq, decide_eq_true_eq, decide_eq_false_iff_not, beq_eq_false_iff_ne, Bool.not_eq_true', Bool.not_eq_false', ne_eq, Int.fdiv_eq_ediv_of_nonneg]
  repeat' (first | refine And.intro ?_ ?_ | intro _)
  all_goals (try subst_vars)
  all_goals first
    | rfl
    | omega
    | (simp [AV.γ, V.γ, Sc.γ, Rg.pv, Rg.pe, Rg.pw, Rg.up]; done)
    | (simp [AV.γ, V.γ, Sc.γ, Rg.pv, Rg.pe, Rg.pw, Rg.up]; omega)
    | (simp only [AV.γ, V.γ, Sc.γ, List.map, Rg.pv, Rg.pe, Rg.pw, Rg.up]; (repeat' split) <;> first | rfl | omega | (simp_all; done) | (congr 1; rw [Bool.eq_iff_iff]; simp; done) | (congr 1; rw [Bool.eq_iff_iff]; simp; omega) | (simp_all; omega))
set_option maxHeartbeats 1000000 in
theorem rsetp_any (w : World) (a f b c d e h l sp pc n x : Int) (ba : Rg.B a) (bf : Rg.B f) (bb : Rg.B b) (bc : Rg.B c) (bd : Rg.B d) (be : Rg.B e) (bh : Rg.B h) (bl : Rg.B l) (bsp : Rg.W sp) (bpc : Rg.W pc) (bx : Rg.W x) :
    Calls Try.prog 24 #[.agg #[.int .u8 a, .int .u8 f, .int .u8 b, .int .u8 c, .int .u8 d, .int .u8 e, .int .u8 h, .int .u8 l, .int .u16 sp, .int .u16 pc], .int .i64 n, .int .u16 x] w fun e' w' => e' = .returned (.tuple #[.agg #[.int .u8 (Rg.tv 4 n (x / 256) a), .int .u8 (Rg.tv 4 n (Rg.up (x % 256)) f), .int .u8 (Rg.tv 0 n (x / 256) b), .int .u8 (Rg.tv 0 n (x % 256) c), .int .u8 (Rg.tv 1 n (x / 256) d), .int .u8 (Rg.tv 1 n (x % 256) e), .int .u8 (Rg.tv 2 n (x / 256) h), .int .u8 (Rg.tv 2 n (x % 256) l), .int .u16 (Rg.tv 3 n x sp), .int .u16 (Rg.tv 9 n x pc)], .int .i64 (Rg.pe n)]) ∧ Below w.heap.size w w' := by
  refine val_eq base (ctrs_none _ _) (loops_none _ _) (rsetp_tree w a f b c d e h l sp pc n x) rfl ?_
  simp (disch := omega) only [T.holds, Int.tdiv_eq_ediv_of_nonneg, Int.tmod_eq_emod_of_nonneg, Rg.wu8, Rg.wu16, Rg.wi64, Rg.b128 bf, Rg.b16 bf, Rg.b240 bf, beq_iff_eq, decide_eq_true_eq, decide_eq_false_iff_not, beq_eq_false_iff_ne, Bool.not_eq_true', Bool.not_eq_false', ne_eq, Int.fdiv_eq_ediv_of_nonneg]
  repeat' (first | refine And.intro ?_ ?_ | intro _)
  all_goals (try subst_vars)
  all_goals first
    | rfl
    | omega
    | (simp [AV.γ, V.γ, Sc.γ, Rg.tv, Rg.pe, Rg.up]; done)
    | (simp [AV.γ, V.γ, Sc.γ, Rg.tv, Rg.pe, Rg.up]; omega)
    | (simp only [AV.γ, V.γ, Sc.γ, List.map, Rg.tv, Rg.pe, Rg.up]; (repeat' split) <;> first | rfl | omega | (simp_all; done) | (congr 1; rw [Bool.eq_iff_iff]; simp; done) | (congr 1; rw [Bool.eq_iff_iff]; simp; omega) | (simp_all; omega))
end Go.Proofs.Ytmpkhjimemdhhaa
