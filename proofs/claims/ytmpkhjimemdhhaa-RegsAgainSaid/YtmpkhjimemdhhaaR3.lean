/-
  Walks of the two statements of the bytes of registers. Bytes are below 256, words below 65536; no other condition.
-/
import Derived.Test.YtmpkhjimemdhhaaR2
namespace Go.Proofs.Ytmpkhjimemdhhaa
open Go.RowKit sym
set_option linter.unusedVariables false
set_option linter.unusedSimpArgs false
set_option maxRecDepth 100000
def rtab : List RCtr := [sameC, encC, rencC, decC, rdecC]
theorem rtab_ok : ∀ c ∈ rtab, c.Ok Try.prog := fun c hc => by
  simp only [rtab, List.mem_cons, List.not_mem_nil, or_false] at hc
  rcases hc with rfl | rfl | rfl | rfl | rfl
  · exact sameC_ok
  · exact encC_ok
  · exact rencC_ok
  · exact decC_ok
  · exact rdecC_ok
theorem bytes_tree (w : World) (a f b c d e h l sp pc : Int) (A : Option Addr) (X : List Int) (n cap : Nat) :
    callV Try.prog w (flatT Try.prog) (noCtr) (preOf w rtab) (noLoop) 20 5 [.v (.agg [.int false .u8 a, .int false .u8 f, .int false .u8 b, .int false .u8 c, .int false .u8 d, .int false .u8 e, .int false .u8 h, .int false .u8 l, .int false .u16 sp, .int false .u16 pc]), .v (.one (.xr A [.u8] X n cap))] =
(.br (decide ((↑n : Int) > (60 : Int)))
 (.leaf (.v (.one (.bool true true))))
 (.chk (True)
 (.chk (RB a f b c d e h l sp pc)
 (.chk ((sym.XR w A [IntKind.u8] X n ∧ n ≤ cap) ∧ True)
 (.chk (n ≤ (1000000000 : Nat) ∧ Bs X)
 (.chk ((sym.XR w A [IntKind.u8] X n ∧ n ≤ cap) ∧ True)
 (.chk (n ≤ (1000000000 : Nat) ∧ Bs X)
 (.chk ((false = false ∧
    (12 : Nat) ≤ (encV a f b c d e h l sp pc).length ∧ (12 : Nat) ≤ (12 : Nat)) ∧
  True)
 (.chk ((12 : Nat) ≤ (1000000000 : Nat) ∧
  Bs
    (sym.cutL (encV a f b c d e h l sp pc) (0 : Nat) (12 : Nat)
      [IntKind.u8].length))
 (.chk (True)
 (.chk (RB a (IntKind.u8.wrap (IntKind.u8.wrap (f.tdiv (16 : Int)) * (16 : Int))) b c d e h l
  sp pc)
 (.chk ((false = false ∧
    (12 : Nat) ≤ (encV a f b c d e h l sp pc).length ∧ (12 : Nat) ≤ (12 : Nat)) ∧
  (false = false ∧
      (12 : Nat) ≤
          (encV a (IntKind.u8.wrap (IntKind.u8.wrap (f.tdiv (16 : Int)) * (16 : Int)))
              b c d e h l sp pc).length ∧
        (12 : Nat) ≤ (12 : Nat)) ∧
    True)
 (.chk ((12 : Nat) ≤ (1000000000 : Nat))
 (.br (decide
  (sym.cutL (encV a f b c d e h l sp pc) (0 : Nat) (12 : Nat)
      [IntKind.u8].length =
    sym.cutL
      (encV a (IntKind.u8.wrap (IntKind.u8.wrap (f.tdiv (16 : Int)) * (16 : Int))) b c
        d e h l sp pc)
      (0 : Nat) (12 : Nat) [IntKind.u8].length))
  (.br (dv X (0 : Nat) == dv X (0 : Nat) &&
  (dv X (1 : Nat) == dv X (1 : Nat) &&
    (dv X (2 : Nat) == dv X (2 : Nat) &&
      (dv X (3 : Nat) == dv X (3 : Nat) &&
        (dv X (4 : Nat) == dv X (4 : Nat) &&
          (dv X (5 : Nat) == dv X (5 : Nat) &&
            (dv X (6 : Nat) == dv X (6 : Nat) &&
              (dv X (7 : Nat) == dv X (7 : Nat) &&
                (dw X (8 : Nat) == dw X (8 : Nat) &&
                  (dw X (10 : Nat) == dw X (10 : Nat) &&
                    true))))))))))
   (.br (dE X == dE X)
    (.br (dv
      (sym.cutL (encV a f b c d e h l sp pc) (0 : Nat) (12 : Nat)
        [IntKind.u8].length)
      (0 : Nat) ==
    a &&
  (dv
        (sym.cutL (encV a f b c d e h l sp pc) (0 : Nat)
          (12 : Nat) [IntKind.u8].length)
        (1 : Nat) ==
      IntKind.u8.wrap (IntKind.u8.wrap (f.tdiv (16 : Int)) * (16 : Int)) &&
    (dv
          (sym.cutL (encV a f b c d e h l sp pc) (0 : Nat)
            (12 : Nat) [IntKind.u8].length)
          (2 : Nat) ==
        b &&
      (dv
            (sym.cutL (encV a f b c d e h l sp pc) (0 : Nat)
              (12 : Nat) [IntKind.u8].length)
            (3 : Nat) ==
          c &&
        (dv
              (sym.cutL (encV a f b c d e h l sp pc) (0 : Nat)
                (12 : Nat) [IntKind.u8].length)
              (4 : Nat) ==
            d &&
          (dv
                (sym.cutL (encV a f b c d e h l sp pc) (0 : Nat)
                  (12 : Nat) [IntKind.u8].length)
                (5 : Nat) ==
              e &&
            (dv
                  (sym.cutL (encV a f b c d e h l sp pc) (0 : Nat)
                    (12 : Nat) [IntKind.u8].length)
                  (6 : Nat) ==
                h &&
              (dv
                    (sym.cutL (encV a f b c d e h l sp pc)
                      (0 : Nat) (12 : Nat) [IntKind.u8].length)
                    (7 : Nat) ==
                  l &&
                (dw
                      (sym.cutL (encV a f b c d e h l sp pc)
                        (0 : Nat) (12 : Nat) [IntKind.u8].length)
                      (8 : Nat) ==
                    sp &&
                  (dw
                        (sym.cutL (encV a f b c d e h l sp pc)
                          (0 : Nat) (12 : Nat) [IntKind.u8].length)
                        (10 : Nat) ==
                      pc &&
                    true))))))))))
     (.leaf (.v (.one (.bool false (dE
    (sym.cutL (encV a f b c d e h l sp pc) (0 : Nat) (12 : Nat)
      [IntKind.u8].length) ==
  (0 : Int))))))
     (.leaf (.v (.one (.bool true false)))))
    (.leaf (.v (.one (.bool true false)))))
   (.leaf (.v (.one (.bool true false)))))
  (.leaf (.v (.one (.bool true false)))))))))))))))))) := by kernel_rfl
theorem again_tree (w : World) (a f b c d e h l sp pc : Int) (a2 f2 b2 c2 d2 e2 h2 l2 sp2 pc2 : Int) (A : Option Addr) (X : List Int) (n cap : Nat) :
    callV Try.prog w (flatT Try.prog) (noCtr) (preOf w rtab) (lpOf Try.prog [mixLp 6 7]) 20 6 [.v (.agg [.int false .u8 a, .int false .u8 f, .int false .u8 b, .int false .u8 c, .int false .u8 d, .int false .u8 e, .int false .u8 h, .int false .u8 l, .int false .u16 sp, .int false .u16 pc]), .v (.agg [.int false .u8 a2, .int false .u8 f2, .int false .u8 b2, .int false .u8 c2, .int false .u8 d2, .int false .u8 e2, .int false .u8 h2, .int false .u8 l2, .int false .u16 sp2, .int false .u16 pc2]), .v (.one (.xr A [.u8] X n cap))] =
(.br (decide ((↑n : Int) > (60 : Int)))
 (.leaf (.v (.one (.bool true true))))
 (.chk ((sym.XR w A [IntKind.u8] X n ∧ n ≤ cap) ∧ True)
 (.chk (n ≤ (1000000000 : Nat) ∧ Bs X)
 (.br (dE X == (0 : Int))
  (.chk (True)
  (.chk (RB (dv X (0 : Nat)) (dv X (1 : Nat))
  (dv X (2 : Nat)) (dv X (3 : Nat))
  (dv X (4 : Nat)) (dv X (5 : Nat))
  (dv X (6 : Nat)) (dv X (7 : Nat))
  (dw X (8 : Nat)) (dw X (10 : Nat)))
  (.chk ((false = false ∧
    (12 : Nat) ≤
        (encV (dv X (0 : Nat))
            (dv X (1 : Nat)) (dv X (2 : Nat))
            (dv X (3 : Nat)) (dv X (4 : Nat))
            (dv X (5 : Nat)) (dv X (6 : Nat))
            (dv X (7 : Nat)) (dw X (8 : Nat))
            (dw X (10 : Nat))).length ∧
      (12 : Nat) ≤ (12 : Nat)) ∧
  (sym.XR w A [IntKind.u8] X n ∧ n ≤ cap) ∧ True)
  (.chk ((12 : Nat) ≤ (1000000000 : Nat))
  (.br (!decide
    (sym.cutL
        (encV (dv X (0 : Nat))
          (dv X (1 : Nat)) (dv X (2 : Nat))
          (dv X (3 : Nat)) (dv X (4 : Nat))
          (dv X (5 : Nat)) (dv X (6 : Nat))
          (dv X (7 : Nat)) (dw X (8 : Nat))
          (dw X (10 : Nat)))
        (0 : Nat) (12 : Nat) [IntKind.u8].length =
      X))
   (.leaf (.v (.one (.bool true false))))
   (.all fun x : Bool =>
    (.br (x)
     (.all fun x_1 : Bool =>
      (.br (x_1)
       (.chk (True)
       (.chk (RB a f b c d e h l sp pc)
       (.chk (True)
       (.chk (RB a2 f2 b2 c2 d2 e2 h2 l2 sp2 pc2)
       (.chk ((false = false ∧
    (12 : Nat) ≤ (encV a f b c d e h l sp pc).length ∧ (12 : Nat) ≤ (12 : Nat)) ∧
  (false = false ∧
      (12 : Nat) ≤ (encV a2 f2 b2 c2 d2 e2 h2 l2 sp2 pc2).length ∧ (12 : Nat) ≤ (12 : Nat)) ∧
    True)
       (.chk ((12 : Nat) ≤ (1000000000 : Nat))
       (.br (decide
    (sym.cutL (encV a f b c d e h l sp pc) (0 : Nat) (12 : Nat)
        [IntKind.u8].length =
      sym.cutL (encV a2 f2 b2 c2 d2 e2 h2 l2 sp2 pc2) (0 : Nat)
        (12 : Nat) [IntKind.u8].length) ==
  (a == a2 &&
    (bits BinOp.andNot IntKind.u8 f (15 : Int) == bits BinOp.andNot IntKind.u8 f2 (15 : Int) &&
      (b == b2 &&
        (c == c2 && (d == d2 && (e == e2 && (h == h2 && (l == l2 && (sp == sp2 && (pc == pc2 && true)))))))))))
        (.chk (True)
        (.chk (RB a (bits BinOp.andNot IntKind.u8 f (15 : Int)) b c d e h l sp pc)
        (.leaf (.v (.one (.bool false true))))))
        (.leaf (.v (.one (.bool true false)))))))))))
       (.chk (True)
       (.chk (RB a f b c d e h l sp pc)
       (.chk (True)
       (.chk (RB a2 f2 b2 c2 d2 e2 h2 l2 sp2 pc2)
       (.chk ((false = false ∧
    (12 : Nat) ≤ (encV a f b c d e h l sp pc).length ∧ (12 : Nat) ≤ (12 : Nat)) ∧
  (false = false ∧
      (12 : Nat) ≤ (encV a2 f2 b2 c2 d2 e2 h2 l2 sp2 pc2).length ∧ (12 : Nat) ≤ (12 : Nat)) ∧
    True)
       (.chk ((12 : Nat) ≤ (1000000000 : Nat))
       (.br (decide
    (sym.cutL (encV a f b c d e h l sp pc) (0 : Nat) (12 : Nat)
        [IntKind.u8].length =
      sym.cutL (encV a2 f2 b2 c2 d2 e2 h2 l2 sp2 pc2) (0 : Nat)
        (12 : Nat) [IntKind.u8].length) ==
  (a == a2 &&
    (bits BinOp.andNot IntKind.u8 f (15 : Int) == bits BinOp.andNot IntKind.u8 f2 (15 : Int) &&
      (b == b2 &&
        (c == c2 && (d == d2 && (e == e2 && (h == h2 && (l == l2 && (sp == sp2 && (pc == pc2 && true)))))))))))
        (.chk (True)
        (.chk (RB a (bits BinOp.andNot IntKind.u8 f (15 : Int)) b c d e h l sp pc)
        (.leaf (.v (.one (.bool false true))))))
        (.leaf (.v (.one (.bool true false)))))))))))))
     (.chk (True)
     (.chk (RB a f b c d e h l sp pc)
     (.chk (True)
     (.chk (RB a2 f2 b2 c2 d2 e2 h2 l2 sp2 pc2)
     (.chk ((false = false ∧
    (12 : Nat) ≤ (encV a f b c d e h l sp pc).length ∧ (12 : Nat) ≤ (12 : Nat)) ∧
  (false = false ∧
      (12 : Nat) ≤ (encV a2 f2 b2 c2 d2 e2 h2 l2 sp2 pc2).length ∧ (12 : Nat) ≤ (12 : Nat)) ∧
    True)
     (.chk ((12 : Nat) ≤ (1000000000 : Nat))
     (.br (decide
    (sym.cutL (encV a f b c d e h l sp pc) (0 : Nat) (12 : Nat)
        [IntKind.u8].length =
      sym.cutL (encV a2 f2 b2 c2 d2 e2 h2 l2 sp2 pc2) (0 : Nat)
        (12 : Nat) [IntKind.u8].length) ==
  (a == a2 &&
    (bits BinOp.andNot IntKind.u8 f (15 : Int) == bits BinOp.andNot IntKind.u8 f2 (15 : Int) &&
      (b == b2 &&
        (c == c2 && (d == d2 && (e == e2 && (h == h2 && (l == l2 && (sp == sp2 && (pc == pc2 && true)))))))))))
      (.chk (True)
      (.chk (RB a (bits BinOp.andNot IntKind.u8 f (15 : Int)) b c d e h l sp pc)
      (.leaf (.v (.one (.bool false true))))))
      (.leaf (.v (.one (.bool true false))))))))))))))))))
  (.all fun x : Bool =>
   (.br (x)
    (.all fun x_1 : Bool =>
     (.br (x_1)
      (.chk (True)
      (.chk (RB a f b c d e h l sp pc)
      (.chk (True)
      (.chk (RB a2 f2 b2 c2 d2 e2 h2 l2 sp2 pc2)
      (.chk ((false = false ∧
    (12 : Nat) ≤ (encV a f b c d e h l sp pc).length ∧ (12 : Nat) ≤ (12 : Nat)) ∧
  (false = false ∧
      (12 : Nat) ≤ (encV a2 f2 b2 c2 d2 e2 h2 l2 sp2 pc2).length ∧ (12 : Nat) ≤ (12 : Nat)) ∧
    True)
      (.chk ((12 : Nat) ≤ (1000000000 : Nat))
      (.br (decide
    (sym.cutL (encV a f b c d e h l sp pc) (0 : Nat) (12 : Nat)
        [IntKind.u8].length =
      sym.cutL (encV a2 f2 b2 c2 d2 e2 h2 l2 sp2 pc2) (0 : Nat)
        (12 : Nat) [IntKind.u8].length) ==
  (a == a2 &&
    (bits BinOp.andNot IntKind.u8 f (15 : Int) == bits BinOp.andNot IntKind.u8 f2 (15 : Int) &&
      (b == b2 &&
        (c == c2 && (d == d2 && (e == e2 && (h == h2 && (l == l2 && (sp == sp2 && (pc == pc2 && true)))))))))))
       (.chk (True)
       (.chk (RB a (bits BinOp.andNot IntKind.u8 f (15 : Int)) b c d e h l sp pc)
       (.leaf (.v (.one (.bool false true))))))
       (.leaf (.v (.one (.bool true false)))))))))))
      (.chk (True)
      (.chk (RB a f b c d e h l sp pc)
      (.chk (True)
      (.chk (RB a2 f2 b2 c2 d2 e2 h2 l2 sp2 pc2)
      (.chk ((false = false ∧
    (12 : Nat) ≤ (encV a f b c d e h l sp pc).length ∧ (12 : Nat) ≤ (12 : Nat)) ∧
  (false = false ∧
      (12 : Nat) ≤ (encV a2 f2 b2 c2 d2 e2 h2 l2 sp2 pc2).length ∧ (12 : Nat) ≤ (12 : Nat)) ∧
    True)
      (.chk ((12 : Nat) ≤ (1000000000 : Nat))
      (.br (decide
    (sym.cutL (encV a f b c d e h l sp pc) (0 : Nat) (12 : Nat)
        [IntKind.u8].length =
      sym.cutL (encV a2 f2 b2 c2 d2 e2 h2 l2 sp2 pc2) (0 : Nat)
        (12 : Nat) [IntKind.u8].length) ==
  (a == a2 &&
    (bits BinOp.andNot IntKind.u8 f (15 : Int) == bits BinOp.andNot IntKind.u8 f2 (15 : Int) &&
      (b == b2 &&
        (c == c2 && (d == d2 && (e == e2 && (h == h2 && (l == l2 && (sp == sp2 && (pc == pc2 && true)))))))))))
       (.chk (True)
       (.chk (RB a (bits BinOp.andNot IntKind.u8 f (15 : Int)) b c d e h l sp pc)
       (.leaf (.v (.one (.bool false true))))))
       (.leaf (.v (.one (.bool true false)))))))))))))
    (.chk (True)
    (.chk (RB a f b c d e h l sp pc)
    (.chk (True)
    (.chk (RB a2 f2 b2 c2 d2 e2 h2 l2 sp2 pc2)
    (.chk ((false = false ∧
    (12 : Nat) ≤ (encV a f b c d e h l sp pc).length ∧ (12 : Nat) ≤ (12 : Nat)) ∧
  (false = false ∧
      (12 : Nat) ≤ (encV a2 f2 b2 c2 d2 e2 h2 l2 sp2 pc2).length ∧ (12 : Nat) ≤ (12 : Nat)) ∧
    True)
    (.chk ((12 : Nat) ≤ (1000000000 : Nat))
    (.br (decide
    (sym.cutL (encV a f b c d e h l sp pc) (0 : Nat) (12 : Nat)
        [IntKind.u8].length =
      sym.cutL (encV a2 f2 b2 c2 d2 e2 h2 l2 sp2 pc2) (0 : Nat)
        (12 : Nat) [IntKind.u8].length) ==
  (a == a2 &&
    (bits BinOp.andNot IntKind.u8 f (15 : Int) == bits BinOp.andNot IntKind.u8 f2 (15 : Int) &&
      (b == b2 &&
        (c == c2 && (d == d2 && (e == e2 && (h == h2 && (l == l2 && (sp == sp2 && (pc == pc2 && true)))))))))))
     (.chk (True)
     (.chk (RB a (bits BinOp.andNot IntKind.u8 f (15 : Int)) b c d e h l sp pc)
     (.leaf (.v (.one (.bool false true))))))
     (.leaf (.v (.one (.bool true false))))))))))))))))) := by kernel_rfl
theorem cut_enc (a f b c d e h l sp pc : Int) : cutL (encV a f b c d e h l sp pc) 0 12 [IntKind.u8].length = encV a f b c d e h l sp pc := rfl
theorem enc_len (a f b c d e h l sp pc : Int) : (encV a f b c d e h l sp pc).length = 12 := rfl
theorem enc_bs {a f b c d e h l sp pc : Int} (hr : RB a f b c d e h l sp pc) : Bs (encV a f b c d e h l sp pc) := .of fun x hx => by
  obtain ⟨⟨h0, h1⟩, ⟨h2, h3⟩, h4, h5, h6, h7, h8, h9, ⟨h10, h11⟩, ⟨h12, h13⟩⟩ := hr
  simp only [encV, List.mem_cons, List.not_mem_nil, or_false] at hx
  rcases hx with rfl | rfl | rfl | rfl | rfl | rfl | rfl | rfl | rfl | rfl | rfl | rfl <;> first | assumption | exact ⟨by assumption, by assumption⟩ | exact ⟨by omega, by omega⟩
theorem wrap_up {f : Int} (h : B f) : IntKind.u8.wrap (IntKind.u8.wrap (f.tdiv 16) * 16) = f / 16 * 16 := by
  have := h.1; have := h.2
  rw [wu8, wu8, Int.tdiv_eq_ediv_of_nonneg h.1]
  omega
theorem enc_up (a f b c d e h l sp pc : Int) : encV a (f / 16 * 16) b c d e h l sp pc = encV a f b c d e h l sp pc := by
  unfold encV
  rw [show f / 16 * 16 / 16 * 16 = f / 16 * 16 by omega]
theorem dE_enc (a f b c d e h l sp pc : Int) : dE (encV a f b c d e h l sp pc) = 0 := by
  unfold dE
  rw [if_neg (by simp [encV]), if_neg (by simp [encV])]
set_option maxHeartbeats 2000000 in
theorem bytes_walk (w : World) (a f b c d e h l sp pc : Int) (A : Option Addr) (X : List Int) (n cap : Nat) (hr : RB a f b c d e h l sp pc) (hX : XR w A [.u8] X n) (hc : n ≤ cap) (hb : Bs X) : Calls Try.prog 5 #[.agg #[.int .u8 a, .int .u8 f, .int .u8 b, .int .u8 c, .int .u8 d, .int .u8 e, .int .u8 h, .int .u8 l, .int .u16 sp, .int .u16 pc], .slice A n cap] w fun e w' => e = .returned (.bool true) ∧ Below w.heap.size w w' := by
  refine val_eq base2 (ctrs_none _ _) (preOf_ok rtab_ok w) (loops_none _ _) (bytes_tree w a f b c d e h l sp pc A X n cap) rfl ?_
  have hd := dE_enc a f b c d e h l sp pc
  have hup := wrap_up hr.f
  have hr2 : RB a (f / 16 * 16) b c d e h l sp pc := { hr with f := by have := hr.f.1; have := hr.f.2; exact ⟨by omega, by omega⟩ }
  simp only [T.holds, hup, cut_enc, enc_up, enc_len, true_and, and_true, Nat.le_refl, and_self]
  refine ⟨fun _ => ⟨rfl, rfl⟩, fun hn => ?_⟩
  have hn : n ≤ 60 := by simp at hn; omega
  have e8 : sp / 256 * 256 + sp % 256 = sp := by omega
  have e10 : pc / 256 * 256 + pc % 256 = pc := by omega
  refine ⟨hr, ⟨hX, hc⟩, ⟨by omega, hb⟩, ⟨hX, hc⟩, ⟨by omega, hb⟩, ⟨by decide, enc_bs hr⟩, hr2, by decide, fun _ => ⟨fun _ => ⟨fun _ => ⟨fun _ => ⟨rfl, ?_⟩, fun hf => ?_⟩, fun hf => ?_⟩, fun hf => ?_⟩, fun hf => ?_⟩
  · simp [hd, AV.γ, V.γ, Sc.γ]
  · simp only [dv, dw, hd, if_true] at hf
    simp [encV, e8, e10] at hf
  · simp at hf
  · simp at hf
  · simp at hf
theorem and15 : ∀ a : Nat, a < 256 → bits .andNot .u8 (a : Int) 15 = ((a / 16 * 16 : Nat) : Int) := by decide +kernel
theorem b15 {f : Int} (h : B f) : bits .andNot .u8 f 15 = f / 16 * 16 := by
  obtain ⟨n, rfl⟩ := Int.eq_ofNat_of_zero_le h.1
  rw [and15 n (by have := h.2; omega)]
  omega
theorem dec_enc {X : List Int} (hb : Bs X) (h : dE X = 0) : RB (dv X 0) (dv X 1) (dv X 2) (dv X 3) (dv X 4) (dv X 5) (dv X 6) (dv X 7) (dw X 8) (dw X 10) ∧ encV (dv X 0) (dv X 1) (dv X 2) (dv X 3) (dv X 4) (dv X 5) (dv X 6) (dv X 7) (dw X 8) (dw X 10) = X := by
  have hl : X.length = 12 := by
    unfold dE at h
    split at h
    · cases h
    · rename_i h1; simpa using h1
  have h1 : X.getD 1 0 % 16 = 0 := by
    unfold dE at h
    rw [if_neg (by omega)] at h
    split at h
    · cases h
    · rename_i h1; simpa using h1
  simp only [dv, dw, h, if_true]
  have hw : ∀ i, W (X.getD (i + 1) 0 * 256 + X.getD i 0) := fun i => by
    obtain ⟨q1, q2⟩ := hb (i + 1)
    obtain ⟨q3, q4⟩ := hb i
    exact ⟨by omega, by omega⟩
  refine ⟨⟨hb 0, hb 1, hb 2, hb 3, hb 4, hb 5, hb 6, hb 7, hw 8, hw 10⟩, ?_⟩
  obtain ⟨q1, q2⟩ := hb 8
  obtain ⟨q3, q4⟩ := hb 10
  unfold encV
  rw [show X.getD 1 0 / 16 * 16 = X.getD 1 0 by omega, show (X.getD (8 + 1) 0 * 256 + X.getD 8 0) % 256 = X.getD 8 0 by omega, show (X.getD (8 + 1) 0 * 256 + X.getD 8 0) / 256 = X.getD 9 0 by rw [show 8 + 1 = 9 from rfl]; omega, show (X.getD (10 + 1) 0 * 256 + X.getD 10 0) % 256 = X.getD 10 0 by omega, show (X.getD (10 + 1) 0 * 256 + X.getD 10 0) / 256 = X.getD 11 0 by rw [show 10 + 1 = 11 from rfl]; omega]
  refine ext_getD (by simp [hl]) fun j hj => ?_
  have hj : j < 12 := by simpa using hj
  match j, hj with
  | 0, _ | 1, _ | 2, _ | 3, _ | 4, _ | 5, _ | 6, _ | 7, _ | 8, _ | 9, _ | 10, _ | 11, _ => rfl
theorem enc_inj {a f b c d e h l sp pc a2 f2 b2 c2 d2 e2 h2 l2 sp2 pc2 : Int} (hr : RB a f b c d e h l sp pc) (hr2 : RB a2 f2 b2 c2 d2 e2 h2 l2 sp2 pc2) : decide (encV a f b c d e h l sp pc = encV a2 f2 b2 c2 d2 e2 h2 l2 sp2 pc2) = (a == a2 && (bits BinOp.andNot IntKind.u8 f 15 == bits BinOp.andNot IntKind.u8 f2 15 && (b == b2 && (c == c2 && (d == d2 && (e == e2 && (h == h2 && (l == l2 && (sp == sp2 && (pc == pc2 && true)))))))))) := by
  rw [b15 hr.f, b15 hr2.f, Bool.eq_iff_iff]
  simp only [encV, decide_eq_true_eq, Bool.and_eq_true, beq_iff_eq, List.cons.injEq, and_true]
  constructor
  · rintro ⟨h0, h1, h2, h3, h4, h5, h6, h7, h8, h9, h10, h11⟩
    exact ⟨h0, h1, h2, h3, h4, h5, h6, h7, by omega, by omega⟩
  · rintro ⟨h0, h1, h2, h3, h4, h5, h6, h7, h8, h9⟩
    exact ⟨h0, h1, h2, h3, h4, h5, h6, h7, by rw [h8], by rw [h8], by rw [h9], by rw [h9]⟩
set_option maxHeartbeats 4000000 in
theorem again_walk (w : World) (a f b c d e h l sp pc : Int) (a2 f2 b2 c2 d2 e2 h2 l2 sp2 pc2 : Int) (A : Option Addr) (X : List Int) (n cap : Nat) (hr : RB a f b c d e h l sp pc) (hr2 : RB a2 f2 b2 c2 d2 e2 h2 l2 sp2 pc2) (hX : XR w A [.u8] X n) (hc : n ≤ cap) (hb : Bs X) : Calls Try.prog 6 #[.agg #[.int .u8 a, .int .u8 f, .int .u8 b, .int .u8 c, .int .u8 d, .int .u8 e, .int .u8 h, .int .u8 l, .int .u16 sp, .int .u16 pc], .agg #[.int .u8 a2, .int .u8 f2, .int .u8 b2, .int .u8 c2, .int .u8 d2, .int .u8 e2, .int .u8 h2, .int .u8 l2, .int .u16 sp2, .int .u16 pc2], .slice A n cap] w fun e w' => e = .returned (.bool true) ∧ Below w.heap.size w w' := by
  refine val_eq base2 (ctrs_none _ _) (preOf_ok rtab_ok w) (lps_ok (ls := [mixLp 6 7]) fun l hl => ?_) (again_tree w a f b c d e h l sp pc a2 f2 b2 c2 d2 e2 h2 l2 sp2 pc2 A X n cap) rfl ?_
  · simp only [List.mem_cons, List.not_mem_nil, or_false] at hl
    subst hl
    exact mixLp_ok _ _ _ _
  have hi := enc_inj hr hr2
  have hr3 : RB a (bits BinOp.andNot IntKind.u8 f 15) b c d e h l sp pc := { hr with f := by rw [b15 hr.f]; have := hr.f.1; have := hr.f.2; exact ⟨by omega, by omega⟩ }
  have hi' : decide (cutL (encV a f b c d e h l sp pc) 0 12 [IntKind.u8].length = cutL (encV a2 f2 b2 c2 d2 e2 h2 l2 sp2 pc2) 0 12 [IntKind.u8].length) = _ := hi
  simp only [T.holds, hi', beq_self_eq_true, forall_const, Bool.true_eq_false, false_implies]
  simp only [cut_enc, enc_len, true_and, and_true, Nat.le_refl, and_self, hr, hr2, hr3, beq_self_eq_true, forall_const, Bool.true_eq_false, false_implies, show (12 : Nat) ≤ 1000000000 from by decide]
  have fine : (AV.v (.one (.bool false true))).own = true ∧ (AV.v (.one (.bool false true))).γ [] = .bool true := ⟨rfl, rfl⟩
  refine ⟨fun _ => ⟨rfl, rfl⟩, fun hn => ?_⟩
  have hn : n ≤ 60 := by simp at hn; omega
  refine ⟨⟨hX, hc⟩, ⟨by omega, hb⟩, fun h0 => ?_, fun _ => ?_⟩
  · have h0 : dE X = 0 := by simpa using h0
    obtain ⟨r1, r2⟩ := dec_enc hb h0
    refine ⟨r1, ⟨hX, hc⟩, fun hne => ?_, fun _ => ?_⟩
    · have hne2 := (Bool.not_eq_true' _).mp hne
      exact absurd r2 (of_decide_eq_false hne2)
    · repeat' first | exact fine | intro _ | refine And.intro ?_ ?_
  · repeat' first | exact fine | intro _ | refine And.intro ?_ ?_
end Go.Proofs.Ytmpkhjimemdhhaa
