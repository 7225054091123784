/-
  Walk of a statement of the timer, by computing: what was written is read. Bytes are below 256, the counter below 65536; no other condition.
-/
import Derived.Test.YtobenphpjphdlaaA3
namespace Go.Proofs.Ytobenphpjphdlaa
open Go.RowKit sym
set_option linter.unusedVariables false
set_option linter.unusedSimpArgs false
set_option maxRecDepth 100000
theorem reads1_tree (w : World) (c tima tma tac n x odd : Int) (ov : Bool) :
    callV Try.prog w (flatT Try.prog) (ctrOf table) noLoop 20 8 [.v (.agg [.int false .u16 c, .int false .u8 tima, .int false .u8 tma, .int false .u8 tac, .bool false ov]), .v (.one (.int false .u8 n)), .v (.one (.int false .u8 x)), .v (.one (.int false .i64 odd))] =
(.chk (TB c tima tma (bits BinOp.and IntKind.u8 tac (7 : Int)) ∧
  Tm.B x)
(.br (IntKind.i64.wrap ((1 : Int) + IntKind.i64.wrap (n.tmod (3 : Int))) == (3 : Int))
((callV Try.prog w (flatT Try.prog) (ctrOf table) noLoop 20 8 [.v (.agg [.int false .u16 c, .int false .u8 tima, .int false .u8 tma, .int false .u8 tac, .bool false ov]), .v (.one (.int false .u8 n)), .v (.one (.int false .u8 x)), .v (.one (.int false .i64 odd))]).nxt.thn)
(.br ((0 : Int) != IntKind.i64.wrap ((1 : Int) + IntKind.i64.wrap (n.tmod (3 : Int))))
(.chk (TB
  (Tm.wC (IntKind.i64.wrap ((1 : Int) + IntKind.i64.wrap (n.tmod (3 : Int)))) c)
  (Tm.wT (IntKind.i64.wrap ((1 : Int) + IntKind.i64.wrap (n.tmod (3 : Int)))) x c tima
    (bits BinOp.and IntKind.u8 tac (7 : Int)))
  (Tm.wM (IntKind.i64.wrap ((1 : Int) + IntKind.i64.wrap (n.tmod (3 : Int)))) x tma)
  (Tm.wA (IntKind.i64.wrap ((1 : Int) + IntKind.i64.wrap (n.tmod (3 : Int)))) x
    (bits BinOp.and IntKind.u8 tac (7 : Int))))
(.chk (TB c tima tma (bits BinOp.and IntKind.u8 tac (7 : Int)))
(.br (Tm.rd (0 : Int)
    (Tm.wC (IntKind.i64.wrap ((1 : Int) + IntKind.i64.wrap (n.tmod (3 : Int)))) c)
    (Tm.wT (IntKind.i64.wrap ((1 : Int) + IntKind.i64.wrap (n.tmod (3 : Int)))) x c
      tima (bits BinOp.and IntKind.u8 tac (7 : Int)))
    (Tm.wM (IntKind.i64.wrap ((1 : Int) + IntKind.i64.wrap (n.tmod (3 : Int)))) x tma)
    (Tm.wA (IntKind.i64.wrap ((1 : Int) + IntKind.i64.wrap (n.tmod (3 : Int)))) x
      (bits BinOp.and IntKind.u8 tac (7 : Int))) !=
  Tm.rd (0 : Int) c tima tma (bits BinOp.and IntKind.u8 tac (7 : Int)))
((callV Try.prog w (flatT Try.prog) (ctrOf table) noLoop 20 8 [.v (.agg [.int false .u16 c, .int false .u8 tima, .int false .u8 tma, .int false .u8 tac, .bool false ov]), .v (.one (.int false .u8 n)), .v (.one (.int false .u8 x)), .v (.one (.int false .i64 odd))]).nxt.els.thn.nxt.nxt.thn)
(.br (IntKind.i64.wrap ((0 : Int) + (1 : Int)) != IntKind.i64.wrap ((1 : Int) + IntKind.i64.wrap (n.tmod (3 : Int))))
((callV Try.prog w (flatT Try.prog) (ctrOf table) noLoop 20 8 [.v (.agg [.int false .u16 c, .int false .u8 tima, .int false .u8 tma, .int false .u8 tac, .bool false ov]), .v (.one (.int false .u8 n)), .v (.one (.int false .u8 x)), .v (.one (.int false .i64 odd))]).nxt.els.thn.nxt.nxt.els.thn)
(.br (IntKind.i64.wrap (IntKind.i64.wrap ((0 : Int) + (1 : Int)) + (1 : Int)) !=
  IntKind.i64.wrap ((1 : Int) + IntKind.i64.wrap (n.tmod (3 : Int))))
(.chk (TB
  (Tm.wC (IntKind.i64.wrap ((1 : Int) + IntKind.i64.wrap (n.tmod (3 : Int)))) c)
  (Tm.wT (IntKind.i64.wrap ((1 : Int) + IntKind.i64.wrap (n.tmod (3 : Int)))) x c tima
    (bits BinOp.and IntKind.u8 tac (7 : Int)))
  (Tm.wM (IntKind.i64.wrap ((1 : Int) + IntKind.i64.wrap (n.tmod (3 : Int)))) x tma)
  (Tm.wA (IntKind.i64.wrap ((1 : Int) + IntKind.i64.wrap (n.tmod (3 : Int)))) x
    (bits BinOp.and IntKind.u8 tac (7 : Int))))
(.chk (TB c tima tma (bits BinOp.and IntKind.u8 tac (7 : Int)))
(.br (Tm.rd (IntKind.i64.wrap (IntKind.i64.wrap ((0 : Int) + (1 : Int)) + (1 : Int)))
    (Tm.wC (IntKind.i64.wrap ((1 : Int) + IntKind.i64.wrap (n.tmod (3 : Int)))) c)
    (Tm.wT (IntKind.i64.wrap ((1 : Int) + IntKind.i64.wrap (n.tmod (3 : Int)))) x c
      tima (bits BinOp.and IntKind.u8 tac (7 : Int)))
    (Tm.wM (IntKind.i64.wrap ((1 : Int) + IntKind.i64.wrap (n.tmod (3 : Int)))) x tma)
    (Tm.wA (IntKind.i64.wrap ((1 : Int) + IntKind.i64.wrap (n.tmod (3 : Int)))) x
      (bits BinOp.and IntKind.u8 tac (7 : Int))) !=
  Tm.rd (IntKind.i64.wrap (IntKind.i64.wrap ((0 : Int) + (1 : Int)) + (1 : Int))) c
    tima tma (bits BinOp.and IntKind.u8 tac (7 : Int)))
((callV Try.prog w (flatT Try.prog) (ctrOf table) noLoop 20 8 [.v (.agg [.int false .u16 c, .int false .u8 tima, .int false .u8 tma, .int false .u8 tac, .bool false ov]), .v (.one (.int false .u8 n)), .v (.one (.int false .u8 x)), .v (.one (.int false .i64 odd))]).nxt.els.thn.nxt.nxt.els.els.thn.nxt.nxt.thn)
(.br (IntKind.i64.wrap (IntKind.i64.wrap (IntKind.i64.wrap ((0 : Int) + (1 : Int)) + (1 : Int)) + (1 : Int)) !=
  IntKind.i64.wrap ((1 : Int) + IntKind.i64.wrap (n.tmod (3 : Int))))
(.chk (TB
  (Tm.wC (IntKind.i64.wrap ((1 : Int) + IntKind.i64.wrap (n.tmod (3 : Int)))) c)
  (Tm.wT (IntKind.i64.wrap ((1 : Int) + IntKind.i64.wrap (n.tmod (3 : Int)))) x c tima
    (bits BinOp.and IntKind.u8 tac (7 : Int)))
  (Tm.wM (IntKind.i64.wrap ((1 : Int) + IntKind.i64.wrap (n.tmod (3 : Int)))) x tma)
  (Tm.wA (IntKind.i64.wrap ((1 : Int) + IntKind.i64.wrap (n.tmod (3 : Int)))) x
    (bits BinOp.and IntKind.u8 tac (7 : Int))))
(.chk (TB c tima tma (bits BinOp.and IntKind.u8 tac (7 : Int)))
(.br (Tm.rd
    (IntKind.i64.wrap (IntKind.i64.wrap (IntKind.i64.wrap ((0 : Int) + (1 : Int)) + (1 : Int)) + (1 : Int)))
    (Tm.wC (IntKind.i64.wrap ((1 : Int) + IntKind.i64.wrap (n.tmod (3 : Int)))) c)
    (Tm.wT (IntKind.i64.wrap ((1 : Int) + IntKind.i64.wrap (n.tmod (3 : Int)))) x c
      tima (bits BinOp.and IntKind.u8 tac (7 : Int)))
    (Tm.wM (IntKind.i64.wrap ((1 : Int) + IntKind.i64.wrap (n.tmod (3 : Int)))) x tma)
    (Tm.wA (IntKind.i64.wrap ((1 : Int) + IntKind.i64.wrap (n.tmod (3 : Int)))) x
      (bits BinOp.and IntKind.u8 tac (7 : Int))) !=
  Tm.rd
    (IntKind.i64.wrap (IntKind.i64.wrap (IntKind.i64.wrap ((0 : Int) + (1 : Int)) + (1 : Int)) + (1 : Int))) c
    tima tma (bits BinOp.and IntKind.u8 tac (7 : Int)))
((callV Try.prog w (flatT Try.prog) (ctrOf table) noLoop 20 8 [.v (.agg [.int false .u16 c, .int false .u8 tima, .int false .u8 tma, .int false .u8 tac, .bool false ov]), .v (.one (.int false .u8 n)), .v (.one (.int false .u8 x)), .v (.one (.int false .i64 odd))]).nxt.els.thn.nxt.nxt.els.els.thn.nxt.nxt.els.thn.nxt.nxt.thn)
(.chk (TB
  (Tm.wC (IntKind.i64.wrap ((1 : Int) + IntKind.i64.wrap (n.tmod (3 : Int)))) c)
  (Tm.wT (IntKind.i64.wrap ((1 : Int) + IntKind.i64.wrap (n.tmod (3 : Int)))) x c tima
    (bits BinOp.and IntKind.u8 tac (7 : Int)))
  (Tm.wM (IntKind.i64.wrap ((1 : Int) + IntKind.i64.wrap (n.tmod (3 : Int)))) x tma)
  (Tm.wA (IntKind.i64.wrap ((1 : Int) + IntKind.i64.wrap (n.tmod (3 : Int)))) x
    (bits BinOp.and IntKind.u8 tac (7 : Int))))
(.br (Tm.rd (IntKind.i64.wrap ((1 : Int) + IntKind.i64.wrap (n.tmod (3 : Int))))
    (Tm.wC (IntKind.i64.wrap ((1 : Int) + IntKind.i64.wrap (n.tmod (3 : Int)))) c)
    (Tm.wT (IntKind.i64.wrap ((1 : Int) + IntKind.i64.wrap (n.tmod (3 : Int)))) x c
      tima (bits BinOp.and IntKind.u8 tac (7 : Int)))
    (Tm.wM (IntKind.i64.wrap ((1 : Int) + IntKind.i64.wrap (n.tmod (3 : Int)))) x tma)
    (Tm.wA (IntKind.i64.wrap ((1 : Int) + IntKind.i64.wrap (n.tmod (3 : Int)))) x
      (bits BinOp.and IntKind.u8 tac (7 : Int))) ==
  x)
 (.br (decide (odd ≥ (0 : Int)))
  (.br (decide (odd ≤ (3 : Int)))
   (.leaf (.v (.one (.bool true true))))
   (.chk (TB c tima tma (bits BinOp.and IntKind.u8 tac (7 : Int)))
   (.br (Tm.rd odd c tima tma (bits BinOp.and IntKind.u8 tac (7 : Int)) == (255 : Int))
    (.chk (TB c tima tma (bits BinOp.and IntKind.u8 tac (7 : Int)) ∧
  Tm.B x)
    (.leaf (.v (.one (.bool false (Tm.wC odd c == c &&
  (Tm.wT odd x c tima (bits BinOp.and IntKind.u8 tac (7 : Int)) == tima &&
    (Tm.wM odd x tma == tma &&
      (Tm.wA odd x (bits BinOp.and IntKind.u8 tac (7 : Int)) ==
          bits BinOp.and IntKind.u8 tac (7 : Int) &&
        (Tm.wO odd x c tima (bits BinOp.and IntKind.u8 tac (7 : Int)) ov == ov &&
          true))))))))))
    (.leaf (.v (.one (.bool true false)))))))
  (.chk (TB c tima tma (bits BinOp.and IntKind.u8 tac (7 : Int)))
  (.br (Tm.rd odd c tima tma (bits BinOp.and IntKind.u8 tac (7 : Int)) == (255 : Int))
   (.chk (TB c tima tma (bits BinOp.and IntKind.u8 tac (7 : Int)) ∧
  Tm.B x)
   (.leaf (.v (.one (.bool false (Tm.wC odd c == c &&
  (Tm.wT odd x c tima (bits BinOp.and IntKind.u8 tac (7 : Int)) == tima &&
    (Tm.wM odd x tma == tma &&
      (Tm.wA odd x (bits BinOp.and IntKind.u8 tac (7 : Int)) ==
          bits BinOp.and IntKind.u8 tac (7 : Int) &&
        (Tm.wO odd x c tima (bits BinOp.and IntKind.u8 tac (7 : Int)) ov == ov &&
          true))))))))))
   (.leaf (.v (.one (.bool true false)))))))
 (.leaf (.v (.one (.bool true false)))))))))
((callV Try.prog w (flatT Try.prog) (ctrOf table) noLoop 20 8 [.v (.agg [.int false .u16 c, .int false .u8 tima, .int false .u8 tma, .int false .u8 tac, .bool false ov]), .v (.one (.int false .u8 n)), .v (.one (.int false .u8 x)), .v (.one (.int false .i64 odd))]).nxt.els.thn.nxt.nxt.els.els.thn.nxt.nxt.els.els)))))
((callV Try.prog w (flatT Try.prog) (ctrOf table) noLoop 20 8 [.v (.agg [.int false .u16 c, .int false .u8 tima, .int false .u8 tma, .int false .u8 tac, .bool false ov]), .v (.one (.int false .u8 n)), .v (.one (.int false .u8 x)), .v (.one (.int false .i64 odd))]).nxt.els.thn.nxt.nxt.els.els.els))))))
((callV Try.prog w (flatT Try.prog) (ctrOf table) noLoop 20 8 [.v (.agg [.int false .u16 c, .int false .u8 tima, .int false .u8 tma, .int false .u8 tac, .bool false ov]), .v (.one (.int false .u8 n)), .v (.one (.int false .u8 x)), .v (.one (.int false .i64 odd))]).nxt.els.els)))) := by kernel_rfl
set_option maxHeartbeats 4000000 in
theorem reads1_walk (w : World) (c tima tma tac n x odd : Int) (ov : Bool) (hb : TB c tima tma tac) (bn : Tm.B n) (bx : Tm.B x) (hk : n % 3 = 0) : Calls Try.prog 8 #[.agg #[.int .u16 c, .int .u8 tima, .int .u8 tma, .int .u8 tac, .bool ov], .int .u8 n, .int .u8 x, .int .i64 odd] w fun e w' => e = .returned (.bool true) ∧ Below w.heap.size w w' := by
  refine val_eq base2 (table_ok w) (loops_none _ _) (reads1_tree w c tima tma tac n x odd ov) rfl ?_
  obtain ⟨bc, bt, bm, ba⟩ := hb
  have ek : IntKind.i64.wrap ((1 : Int) + IntKind.i64.wrap (n.tmod (3 : Int))) = 1 := by
    rw [Int.tmod_eq_emod_of_nonneg bn.1, hk]; rfl
  have hm : 0 ≤ tac % 8 ∧ tac % 8 < 8 := by omega
  have em : tac % 8 % 8 = tac % 8 := by omega
  have mb : Tm.B (tac % 8) := ⟨by omega, by omega⟩
  have hb : TB c tima tma (tac % 8) := ⟨bc, bt, bm, mb⟩
  have hw := TB_write (n := 1) hb bx
  have eo : bits .or .u8 248 x = 248 + x % 8 := Tm.r248c bx
  have ex : x % 8 % 8 = x % 8 := by omega
  simp only [ek, Tm.t7 ba, eo]
  simp only [show IntKind.i64.wrap ((0 : Int) + 1) = 1 from rfl, show IntKind.i64.wrap ((1 : Int) + 1) = 2 from rfl, show IntKind.i64.wrap ((2 : Int) + 1) = 3 from rfl]
  refine And.intro ?_ (T.br_f ?_ (T.br_t ?_ (And.intro ?_ (And.intro ?_ (T.br_f ?_ (T.br_f ?_ (T.br_t ?_ (And.intro ?_ (And.intro ?_ (T.br_f ?_ (T.br_t ?_ (And.intro ?_ (And.intro ?_ (T.br_f ?_ (And.intro ?_ (?_))))))))))))))))
  all_goals first | exact hb | exact hw | exact ⟨hb, bx⟩ | (simp [Tm.rd, Tm.wC, Tm.wM, Tm.wA, Tm.wT, em, ex]; done) | skip
  simp only [T.holds, AV.γ, V.γ, Sc.γ]
  refine And.intro (fun _ => ⟨fun h1 => ⟨fun _ => ⟨rfl, trivial⟩, fun h2 => ?_⟩, fun h1 => ?_⟩) (fun h => ?_)
  · have g0 : odd ≠ 0 := by simp at h1 h2; omega
    have g1 : odd ≠ 1 := by simp at h1 h2; omega
    have g2 : odd ≠ 2 := by simp at h1 h2; omega
    have g3 : odd ≠ 3 := by simp at h1 h2; omega
    refine ⟨hb, fun _ => ⟨⟨hb, bx⟩, rfl, ?_⟩, fun h => ?_⟩
    · cases ov <;> cases Tm.sg c (tac % 8) <;> simp [g0, g1, g2, g3, Tm.wC, Tm.wM, Tm.wA, Tm.wT, Tm.wO, Tm.fT, Tm.fO]
    · simp [g0, g1, g2, g3, Tm.rd] at h
  · have g0 : odd ≠ 0 := by simp at h1; omega
    have g1 : odd ≠ 1 := by simp at h1; omega
    have g2 : odd ≠ 2 := by simp at h1; omega
    have g3 : odd ≠ 3 := by simp at h1; omega
    refine ⟨hb, fun _ => ⟨⟨hb, bx⟩, rfl, ?_⟩, fun h => ?_⟩
    · cases ov <;> cases Tm.sg c (tac % 8) <;> simp [g0, g1, g2, g3, Tm.wC, Tm.wM, Tm.wA, Tm.wT, Tm.wO, Tm.fT, Tm.fO]
    · simp [g0, g1, g2, g3, Tm.rd] at h
  · simp [Tm.rd, Tm.wC, Tm.wM, Tm.wA, Tm.wT, em, ex] at h
theorem reads2_tree (w : World) (c tima tma tac n x odd : Int) (ov : Bool) :
    callV Try.prog w (flatT Try.prog) (ctrOf table) noLoop 20 8 [.v (.agg [.int false .u16 c, .int false .u8 tima, .int false .u8 tma, .int false .u8 tac, .bool false ov]), .v (.one (.int false .u8 n)), .v (.one (.int false .u8 x)), .v (.one (.int false .i64 odd))] =
(.chk (TB c tima tma (bits BinOp.and IntKind.u8 tac (7 : Int)) ∧
  Tm.B x)
(.br (IntKind.i64.wrap ((1 : Int) + IntKind.i64.wrap (n.tmod (3 : Int))) == (3 : Int))
((callV Try.prog w (flatT Try.prog) (ctrOf table) noLoop 20 8 [.v (.agg [.int false .u16 c, .int false .u8 tima, .int false .u8 tma, .int false .u8 tac, .bool false ov]), .v (.one (.int false .u8 n)), .v (.one (.int false .u8 x)), .v (.one (.int false .i64 odd))]).nxt.thn)
(.br ((0 : Int) != IntKind.i64.wrap ((1 : Int) + IntKind.i64.wrap (n.tmod (3 : Int))))
(.chk (TB
  (Tm.wC (IntKind.i64.wrap ((1 : Int) + IntKind.i64.wrap (n.tmod (3 : Int)))) c)
  (Tm.wT (IntKind.i64.wrap ((1 : Int) + IntKind.i64.wrap (n.tmod (3 : Int)))) x c tima
    (bits BinOp.and IntKind.u8 tac (7 : Int)))
  (Tm.wM (IntKind.i64.wrap ((1 : Int) + IntKind.i64.wrap (n.tmod (3 : Int)))) x tma)
  (Tm.wA (IntKind.i64.wrap ((1 : Int) + IntKind.i64.wrap (n.tmod (3 : Int)))) x
    (bits BinOp.and IntKind.u8 tac (7 : Int))))
(.chk (TB c tima tma (bits BinOp.and IntKind.u8 tac (7 : Int)))
(.br (Tm.rd (0 : Int)
    (Tm.wC (IntKind.i64.wrap ((1 : Int) + IntKind.i64.wrap (n.tmod (3 : Int)))) c)
    (Tm.wT (IntKind.i64.wrap ((1 : Int) + IntKind.i64.wrap (n.tmod (3 : Int)))) x c
      tima (bits BinOp.and IntKind.u8 tac (7 : Int)))
    (Tm.wM (IntKind.i64.wrap ((1 : Int) + IntKind.i64.wrap (n.tmod (3 : Int)))) x tma)
    (Tm.wA (IntKind.i64.wrap ((1 : Int) + IntKind.i64.wrap (n.tmod (3 : Int)))) x
      (bits BinOp.and IntKind.u8 tac (7 : Int))) !=
  Tm.rd (0 : Int) c tima tma (bits BinOp.and IntKind.u8 tac (7 : Int)))
((callV Try.prog w (flatT Try.prog) (ctrOf table) noLoop 20 8 [.v (.agg [.int false .u16 c, .int false .u8 tima, .int false .u8 tma, .int false .u8 tac, .bool false ov]), .v (.one (.int false .u8 n)), .v (.one (.int false .u8 x)), .v (.one (.int false .i64 odd))]).nxt.els.thn.nxt.nxt.thn)
(.br (IntKind.i64.wrap ((0 : Int) + (1 : Int)) != IntKind.i64.wrap ((1 : Int) + IntKind.i64.wrap (n.tmod (3 : Int))))
(.br (IntKind.i64.wrap (IntKind.i64.wrap ((0 : Int) + (1 : Int)) + (1 : Int)) !=
  IntKind.i64.wrap ((1 : Int) + IntKind.i64.wrap (n.tmod (3 : Int))))
((callV Try.prog w (flatT Try.prog) (ctrOf table) noLoop 20 8 [.v (.agg [.int false .u16 c, .int false .u8 tima, .int false .u8 tma, .int false .u8 tac, .bool false ov]), .v (.one (.int false .u8 n)), .v (.one (.int false .u8 x)), .v (.one (.int false .i64 odd))]).nxt.els.thn.nxt.nxt.els.thn.thn)
(.br (IntKind.i64.wrap (IntKind.i64.wrap (IntKind.i64.wrap ((0 : Int) + (1 : Int)) + (1 : Int)) + (1 : Int)) !=
  IntKind.i64.wrap ((1 : Int) + IntKind.i64.wrap (n.tmod (3 : Int))))
(.chk (TB
  (Tm.wC (IntKind.i64.wrap ((1 : Int) + IntKind.i64.wrap (n.tmod (3 : Int)))) c)
  (Tm.wT (IntKind.i64.wrap ((1 : Int) + IntKind.i64.wrap (n.tmod (3 : Int)))) x c tima
    (bits BinOp.and IntKind.u8 tac (7 : Int)))
  (Tm.wM (IntKind.i64.wrap ((1 : Int) + IntKind.i64.wrap (n.tmod (3 : Int)))) x tma)
  (Tm.wA (IntKind.i64.wrap ((1 : Int) + IntKind.i64.wrap (n.tmod (3 : Int)))) x
    (bits BinOp.and IntKind.u8 tac (7 : Int))))
(.chk (TB c tima tma (bits BinOp.and IntKind.u8 tac (7 : Int)))
(.br (Tm.rd
    (IntKind.i64.wrap (IntKind.i64.wrap (IntKind.i64.wrap ((0 : Int) + (1 : Int)) + (1 : Int)) + (1 : Int)))
    (Tm.wC (IntKind.i64.wrap ((1 : Int) + IntKind.i64.wrap (n.tmod (3 : Int)))) c)
    (Tm.wT (IntKind.i64.wrap ((1 : Int) + IntKind.i64.wrap (n.tmod (3 : Int)))) x c
      tima (bits BinOp.and IntKind.u8 tac (7 : Int)))
    (Tm.wM (IntKind.i64.wrap ((1 : Int) + IntKind.i64.wrap (n.tmod (3 : Int)))) x tma)
    (Tm.wA (IntKind.i64.wrap ((1 : Int) + IntKind.i64.wrap (n.tmod (3 : Int)))) x
      (bits BinOp.and IntKind.u8 tac (7 : Int))) !=
  Tm.rd
    (IntKind.i64.wrap (IntKind.i64.wrap (IntKind.i64.wrap ((0 : Int) + (1 : Int)) + (1 : Int)) + (1 : Int))) c
    tima tma (bits BinOp.and IntKind.u8 tac (7 : Int)))
((callV Try.prog w (flatT Try.prog) (ctrOf table) noLoop 20 8 [.v (.agg [.int false .u16 c, .int false .u8 tima, .int false .u8 tma, .int false .u8 tac, .bool false ov]), .v (.one (.int false .u8 n)), .v (.one (.int false .u8 x)), .v (.one (.int false .i64 odd))]).nxt.els.thn.nxt.nxt.els.thn.els.thn.nxt.nxt.thn)
(.chk (TB
  (Tm.wC (IntKind.i64.wrap ((1 : Int) + IntKind.i64.wrap (n.tmod (3 : Int)))) c)
  (Tm.wT (IntKind.i64.wrap ((1 : Int) + IntKind.i64.wrap (n.tmod (3 : Int)))) x c tima
    (bits BinOp.and IntKind.u8 tac (7 : Int)))
  (Tm.wM (IntKind.i64.wrap ((1 : Int) + IntKind.i64.wrap (n.tmod (3 : Int)))) x tma)
  (Tm.wA (IntKind.i64.wrap ((1 : Int) + IntKind.i64.wrap (n.tmod (3 : Int)))) x
    (bits BinOp.and IntKind.u8 tac (7 : Int))))
(.br (Tm.rd (IntKind.i64.wrap ((1 : Int) + IntKind.i64.wrap (n.tmod (3 : Int))))
    (Tm.wC (IntKind.i64.wrap ((1 : Int) + IntKind.i64.wrap (n.tmod (3 : Int)))) c)
    (Tm.wT (IntKind.i64.wrap ((1 : Int) + IntKind.i64.wrap (n.tmod (3 : Int)))) x c
      tima (bits BinOp.and IntKind.u8 tac (7 : Int)))
    (Tm.wM (IntKind.i64.wrap ((1 : Int) + IntKind.i64.wrap (n.tmod (3 : Int)))) x tma)
    (Tm.wA (IntKind.i64.wrap ((1 : Int) + IntKind.i64.wrap (n.tmod (3 : Int)))) x
      (bits BinOp.and IntKind.u8 tac (7 : Int))) ==
  x)
 (.br (decide (odd ≥ (0 : Int)))
  (.br (decide (odd ≤ (3 : Int)))
   (.leaf (.v (.one (.bool true true))))
   (.chk (TB c tima tma (bits BinOp.and IntKind.u8 tac (7 : Int)))
   (.br (Tm.rd odd c tima tma (bits BinOp.and IntKind.u8 tac (7 : Int)) == (255 : Int))
    (.chk (TB c tima tma (bits BinOp.and IntKind.u8 tac (7 : Int)) ∧
  Tm.B x)
    (.leaf (.v (.one (.bool false (Tm.wC odd c == c &&
  (Tm.wT odd x c tima (bits BinOp.and IntKind.u8 tac (7 : Int)) == tima &&
    (Tm.wM odd x tma == tma &&
      (Tm.wA odd x (bits BinOp.and IntKind.u8 tac (7 : Int)) ==
          bits BinOp.and IntKind.u8 tac (7 : Int) &&
        (Tm.wO odd x c tima (bits BinOp.and IntKind.u8 tac (7 : Int)) ov == ov &&
          true))))))))))
    (.leaf (.v (.one (.bool true false)))))))
  (.chk (TB c tima tma (bits BinOp.and IntKind.u8 tac (7 : Int)))
  (.br (Tm.rd odd c tima tma (bits BinOp.and IntKind.u8 tac (7 : Int)) == (255 : Int))
   (.chk (TB c tima tma (bits BinOp.and IntKind.u8 tac (7 : Int)) ∧
  Tm.B x)
   (.leaf (.v (.one (.bool false (Tm.wC odd c == c &&
  (Tm.wT odd x c tima (bits BinOp.and IntKind.u8 tac (7 : Int)) == tima &&
    (Tm.wM odd x tma == tma &&
      (Tm.wA odd x (bits BinOp.and IntKind.u8 tac (7 : Int)) ==
          bits BinOp.and IntKind.u8 tac (7 : Int) &&
        (Tm.wO odd x c tima (bits BinOp.and IntKind.u8 tac (7 : Int)) ov == ov &&
          true))))))))))
   (.leaf (.v (.one (.bool true false)))))))
 (.leaf (.v (.one (.bool true false)))))))))
((callV Try.prog w (flatT Try.prog) (ctrOf table) noLoop 20 8 [.v (.agg [.int false .u16 c, .int false .u8 tima, .int false .u8 tma, .int false .u8 tac, .bool false ov]), .v (.one (.int false .u8 n)), .v (.one (.int false .u8 x)), .v (.one (.int false .i64 odd))]).nxt.els.thn.nxt.nxt.els.thn.els.els)))
((callV Try.prog w (flatT Try.prog) (ctrOf table) noLoop 20 8 [.v (.agg [.int false .u16 c, .int false .u8 tima, .int false .u8 tma, .int false .u8 tac, .bool false ov]), .v (.one (.int false .u8 n)), .v (.one (.int false .u8 x)), .v (.one (.int false .i64 odd))]).nxt.els.thn.nxt.nxt.els.els)))))
((callV Try.prog w (flatT Try.prog) (ctrOf table) noLoop 20 8 [.v (.agg [.int false .u16 c, .int false .u8 tima, .int false .u8 tma, .int false .u8 tac, .bool false ov]), .v (.one (.int false .u8 n)), .v (.one (.int false .u8 x)), .v (.one (.int false .i64 odd))]).nxt.els.els)))) := by kernel_rfl
set_option maxHeartbeats 4000000 in
theorem reads2_walk (w : World) (c tima tma tac n x odd : Int) (ov : Bool) (hb : TB c tima tma tac) (bn : Tm.B n) (bx : Tm.B x) (hk : n % 3 = 1) : Calls Try.prog 8 #[.agg #[.int .u16 c, .int .u8 tima, .int .u8 tma, .int .u8 tac, .bool ov], .int .u8 n, .int .u8 x, .int .i64 odd] w fun e w' => e = .returned (.bool true) ∧ Below w.heap.size w w' := by
  refine val_eq base2 (table_ok w) (loops_none _ _) (reads2_tree w c tima tma tac n x odd ov) rfl ?_
  obtain ⟨bc, bt, bm, ba⟩ := hb
  have ek : IntKind.i64.wrap ((1 : Int) + IntKind.i64.wrap (n.tmod (3 : Int))) = 2 := by
    rw [Int.tmod_eq_emod_of_nonneg bn.1, hk]; rfl
  have hm : 0 ≤ tac % 8 ∧ tac % 8 < 8 := by omega
  have em : tac % 8 % 8 = tac % 8 := by omega
  have mb : Tm.B (tac % 8) := ⟨by omega, by omega⟩
  have hb : TB c tima tma (tac % 8) := ⟨bc, bt, bm, mb⟩
  have hw := TB_write (n := 2) hb bx
  have eo : bits .or .u8 248 x = 248 + x % 8 := Tm.r248c bx
  have ex : x % 8 % 8 = x % 8 := by omega
  simp only [ek, Tm.t7 ba, eo]
  simp only [show IntKind.i64.wrap ((0 : Int) + 1) = 1 from rfl, show IntKind.i64.wrap ((1 : Int) + 1) = 2 from rfl, show IntKind.i64.wrap ((2 : Int) + 1) = 3 from rfl]
  refine And.intro ?_ (T.br_f ?_ (T.br_t ?_ (And.intro ?_ (And.intro ?_ (T.br_f ?_ (T.br_t ?_ (T.br_f ?_ (T.br_t ?_ (And.intro ?_ (And.intro ?_ (T.br_f ?_ (And.intro ?_ (?_)))))))))))))
  all_goals first | exact hb | exact hw | exact ⟨hb, bx⟩ | (simp [Tm.rd, Tm.wC, Tm.wM, Tm.wA, Tm.wT, em, ex]; done) | skip
  simp only [T.holds, AV.γ, V.γ, Sc.γ]
  refine And.intro (fun _ => ⟨fun h1 => ⟨fun _ => ⟨rfl, trivial⟩, fun h2 => ?_⟩, fun h1 => ?_⟩) (fun h => ?_)
  · have g0 : odd ≠ 0 := by simp at h1 h2; omega
    have g1 : odd ≠ 1 := by simp at h1 h2; omega
    have g2 : odd ≠ 2 := by simp at h1 h2; omega
    have g3 : odd ≠ 3 := by simp at h1 h2; omega
    refine ⟨hb, fun _ => ⟨⟨hb, bx⟩, rfl, ?_⟩, fun h => ?_⟩
    · cases ov <;> cases Tm.sg c (tac % 8) <;> simp [g0, g1, g2, g3, Tm.wC, Tm.wM, Tm.wA, Tm.wT, Tm.wO, Tm.fT, Tm.fO]
    · simp [g0, g1, g2, g3, Tm.rd] at h
  · have g0 : odd ≠ 0 := by simp at h1; omega
    have g1 : odd ≠ 1 := by simp at h1; omega
    have g2 : odd ≠ 2 := by simp at h1; omega
    have g3 : odd ≠ 3 := by simp at h1; omega
    refine ⟨hb, fun _ => ⟨⟨hb, bx⟩, rfl, ?_⟩, fun h => ?_⟩
    · cases ov <;> cases Tm.sg c (tac % 8) <;> simp [g0, g1, g2, g3, Tm.wC, Tm.wM, Tm.wA, Tm.wT, Tm.wO, Tm.fT, Tm.fO]
    · simp [g0, g1, g2, g3, Tm.rd] at h
  · simp [Tm.rd, Tm.wC, Tm.wM, Tm.wA, Tm.wT, em, ex] at h
theorem reads3_tree (w : World) (c tima tma tac n x odd : Int) (ov : Bool) :
    callV Try.prog w (flatT Try.prog) (ctrOf table) noLoop 20 8 [.v (.agg [.int false .u16 c, .int false .u8 tima, .int false .u8 tma, .int false .u8 tac, .bool false ov]), .v (.one (.int false .u8 n)), .v (.one (.int false .u8 x)), .v (.one (.int false .i64 odd))] =
(.chk (TB c tima tma (bits BinOp.and IntKind.u8 tac (7 : Int)) ∧
  Tm.B x)
(.br (IntKind.i64.wrap ((1 : Int) + IntKind.i64.wrap (n.tmod (3 : Int))) == (3 : Int))
(.br ((0 : Int) != IntKind.i64.wrap ((1 : Int) + IntKind.i64.wrap (n.tmod (3 : Int))))
(.chk (TB
  (Tm.wC (IntKind.i64.wrap ((1 : Int) + IntKind.i64.wrap (n.tmod (3 : Int)))) c)
  (Tm.wT (IntKind.i64.wrap ((1 : Int) + IntKind.i64.wrap (n.tmod (3 : Int)))) x c tima
    (bits BinOp.and IntKind.u8 tac (7 : Int)))
  (Tm.wM (IntKind.i64.wrap ((1 : Int) + IntKind.i64.wrap (n.tmod (3 : Int)))) x tma)
  (Tm.wA (IntKind.i64.wrap ((1 : Int) + IntKind.i64.wrap (n.tmod (3 : Int)))) x
    (bits BinOp.and IntKind.u8 tac (7 : Int))))
(.chk (TB c tima tma (bits BinOp.and IntKind.u8 tac (7 : Int)))
(.br (Tm.rd (0 : Int)
    (Tm.wC (IntKind.i64.wrap ((1 : Int) + IntKind.i64.wrap (n.tmod (3 : Int)))) c)
    (Tm.wT (IntKind.i64.wrap ((1 : Int) + IntKind.i64.wrap (n.tmod (3 : Int)))) x c
      tima (bits BinOp.and IntKind.u8 tac (7 : Int)))
    (Tm.wM (IntKind.i64.wrap ((1 : Int) + IntKind.i64.wrap (n.tmod (3 : Int)))) x tma)
    (Tm.wA (IntKind.i64.wrap ((1 : Int) + IntKind.i64.wrap (n.tmod (3 : Int)))) x
      (bits BinOp.and IntKind.u8 tac (7 : Int))) !=
  Tm.rd (0 : Int) c tima tma (bits BinOp.and IntKind.u8 tac (7 : Int)))
((callV Try.prog w (flatT Try.prog) (ctrOf table) noLoop 20 8 [.v (.agg [.int false .u16 c, .int false .u8 tima, .int false .u8 tma, .int false .u8 tac, .bool false ov]), .v (.one (.int false .u8 n)), .v (.one (.int false .u8 x)), .v (.one (.int false .i64 odd))]).nxt.thn.thn.nxt.nxt.thn)
(.br (IntKind.i64.wrap ((0 : Int) + (1 : Int)) != IntKind.i64.wrap ((1 : Int) + IntKind.i64.wrap (n.tmod (3 : Int))))
(.br (IntKind.i64.wrap (IntKind.i64.wrap ((0 : Int) + (1 : Int)) + (1 : Int)) !=
  IntKind.i64.wrap ((1 : Int) + IntKind.i64.wrap (n.tmod (3 : Int))))
(.chk (TB
  (Tm.wC (IntKind.i64.wrap ((1 : Int) + IntKind.i64.wrap (n.tmod (3 : Int)))) c)
  (Tm.wT (IntKind.i64.wrap ((1 : Int) + IntKind.i64.wrap (n.tmod (3 : Int)))) x c tima
    (bits BinOp.and IntKind.u8 tac (7 : Int)))
  (Tm.wM (IntKind.i64.wrap ((1 : Int) + IntKind.i64.wrap (n.tmod (3 : Int)))) x tma)
  (Tm.wA (IntKind.i64.wrap ((1 : Int) + IntKind.i64.wrap (n.tmod (3 : Int)))) x
    (bits BinOp.and IntKind.u8 tac (7 : Int))))
(.chk (TB c tima tma (bits BinOp.and IntKind.u8 tac (7 : Int)))
(.br (Tm.rd (IntKind.i64.wrap (IntKind.i64.wrap ((0 : Int) + (1 : Int)) + (1 : Int)))
    (Tm.wC (IntKind.i64.wrap ((1 : Int) + IntKind.i64.wrap (n.tmod (3 : Int)))) c)
    (Tm.wT (IntKind.i64.wrap ((1 : Int) + IntKind.i64.wrap (n.tmod (3 : Int)))) x c
      tima (bits BinOp.and IntKind.u8 tac (7 : Int)))
    (Tm.wM (IntKind.i64.wrap ((1 : Int) + IntKind.i64.wrap (n.tmod (3 : Int)))) x tma)
    (Tm.wA (IntKind.i64.wrap ((1 : Int) + IntKind.i64.wrap (n.tmod (3 : Int)))) x
      (bits BinOp.and IntKind.u8 tac (7 : Int))) !=
  Tm.rd (IntKind.i64.wrap (IntKind.i64.wrap ((0 : Int) + (1 : Int)) + (1 : Int))) c
    tima tma (bits BinOp.and IntKind.u8 tac (7 : Int)))
((callV Try.prog w (flatT Try.prog) (ctrOf table) noLoop 20 8 [.v (.agg [.int false .u16 c, .int false .u8 tima, .int false .u8 tma, .int false .u8 tac, .bool false ov]), .v (.one (.int false .u8 n)), .v (.one (.int false .u8 x)), .v (.one (.int false .i64 odd))]).nxt.thn.thn.nxt.nxt.els.thn.thn.nxt.nxt.thn)
(.br (IntKind.i64.wrap (IntKind.i64.wrap (IntKind.i64.wrap ((0 : Int) + (1 : Int)) + (1 : Int)) + (1 : Int)) !=
  IntKind.i64.wrap ((1 : Int) + IntKind.i64.wrap (n.tmod (3 : Int))))
((callV Try.prog w (flatT Try.prog) (ctrOf table) noLoop 20 8 [.v (.agg [.int false .u16 c, .int false .u8 tima, .int false .u8 tma, .int false .u8 tac, .bool false ov]), .v (.one (.int false .u8 n)), .v (.one (.int false .u8 x)), .v (.one (.int false .i64 odd))]).nxt.thn.thn.nxt.nxt.els.thn.thn.nxt.nxt.els.thn)
(.chk (TB
  (Tm.wC (IntKind.i64.wrap ((1 : Int) + IntKind.i64.wrap (n.tmod (3 : Int)))) c)
  (Tm.wT (IntKind.i64.wrap ((1 : Int) + IntKind.i64.wrap (n.tmod (3 : Int)))) x c tima
    (bits BinOp.and IntKind.u8 tac (7 : Int)))
  (Tm.wM (IntKind.i64.wrap ((1 : Int) + IntKind.i64.wrap (n.tmod (3 : Int)))) x tma)
  (Tm.wA (IntKind.i64.wrap ((1 : Int) + IntKind.i64.wrap (n.tmod (3 : Int)))) x
    (bits BinOp.and IntKind.u8 tac (7 : Int))))
(.br (Tm.rd (IntKind.i64.wrap ((1 : Int) + IntKind.i64.wrap (n.tmod (3 : Int))))
    (Tm.wC (IntKind.i64.wrap ((1 : Int) + IntKind.i64.wrap (n.tmod (3 : Int)))) c)
    (Tm.wT (IntKind.i64.wrap ((1 : Int) + IntKind.i64.wrap (n.tmod (3 : Int)))) x c
      tima (bits BinOp.and IntKind.u8 tac (7 : Int)))
    (Tm.wM (IntKind.i64.wrap ((1 : Int) + IntKind.i64.wrap (n.tmod (3 : Int)))) x tma)
    (Tm.wA (IntKind.i64.wrap ((1 : Int) + IntKind.i64.wrap (n.tmod (3 : Int)))) x
      (bits BinOp.and IntKind.u8 tac (7 : Int))) ==
  bits BinOp.or IntKind.u8 (248 : Int) x)
 (.br (decide (odd ≥ (0 : Int)))
  (.br (decide (odd ≤ (3 : Int)))
   (.leaf (.v (.one (.bool true true))))
   (.chk (TB c tima tma (bits BinOp.and IntKind.u8 tac (7 : Int)))
   (.br (Tm.rd odd c tima tma (bits BinOp.and IntKind.u8 tac (7 : Int)) == (255 : Int))
    (.chk (TB c tima tma (bits BinOp.and IntKind.u8 tac (7 : Int)) ∧
  Tm.B x)
    (.leaf (.v (.one (.bool false (Tm.wC odd c == c &&
  (Tm.wT odd x c tima (bits BinOp.and IntKind.u8 tac (7 : Int)) == tima &&
    (Tm.wM odd x tma == tma &&
      (Tm.wA odd x (bits BinOp.and IntKind.u8 tac (7 : Int)) ==
          bits BinOp.and IntKind.u8 tac (7 : Int) &&
        (Tm.wO odd x c tima (bits BinOp.and IntKind.u8 tac (7 : Int)) ov == ov &&
          true))))))))))
    (.leaf (.v (.one (.bool true false)))))))
  (.chk (TB c tima tma (bits BinOp.and IntKind.u8 tac (7 : Int)))
  (.br (Tm.rd odd c tima tma (bits BinOp.and IntKind.u8 tac (7 : Int)) == (255 : Int))
   (.chk (TB c tima tma (bits BinOp.and IntKind.u8 tac (7 : Int)) ∧
  Tm.B x)
   (.leaf (.v (.one (.bool false (Tm.wC odd c == c &&
  (Tm.wT odd x c tima (bits BinOp.and IntKind.u8 tac (7 : Int)) == tima &&
    (Tm.wM odd x tma == tma &&
      (Tm.wA odd x (bits BinOp.and IntKind.u8 tac (7 : Int)) ==
          bits BinOp.and IntKind.u8 tac (7 : Int) &&
        (Tm.wO odd x c tima (bits BinOp.and IntKind.u8 tac (7 : Int)) ov == ov &&
          true))))))))))
   (.leaf (.v (.one (.bool true false)))))))
 (.leaf (.v (.one (.bool true false))))))))))
((callV Try.prog w (flatT Try.prog) (ctrOf table) noLoop 20 8 [.v (.agg [.int false .u16 c, .int false .u8 tima, .int false .u8 tma, .int false .u8 tac, .bool false ov]), .v (.one (.int false .u8 n)), .v (.one (.int false .u8 x)), .v (.one (.int false .i64 odd))]).nxt.thn.thn.nxt.nxt.els.thn.els))
((callV Try.prog w (flatT Try.prog) (ctrOf table) noLoop 20 8 [.v (.agg [.int false .u16 c, .int false .u8 tima, .int false .u8 tma, .int false .u8 tac, .bool false ov]), .v (.one (.int false .u8 n)), .v (.one (.int false .u8 x)), .v (.one (.int false .i64 odd))]).nxt.thn.thn.nxt.nxt.els.els)))))
((callV Try.prog w (flatT Try.prog) (ctrOf table) noLoop 20 8 [.v (.agg [.int false .u16 c, .int false .u8 tima, .int false .u8 tma, .int false .u8 tac, .bool false ov]), .v (.one (.int false .u8 n)), .v (.one (.int false .u8 x)), .v (.one (.int false .i64 odd))]).nxt.thn.els))
((callV Try.prog w (flatT Try.prog) (ctrOf table) noLoop 20 8 [.v (.agg [.int false .u16 c, .int false .u8 tima, .int false .u8 tma, .int false .u8 tac, .bool false ov]), .v (.one (.int false .u8 n)), .v (.one (.int false .u8 x)), .v (.one (.int false .i64 odd))]).nxt.els))) := by kernel_rfl
set_option maxHeartbeats 4000000 in
theorem reads3_walk (w : World) (c tima tma tac n x odd : Int) (ov : Bool) (hb : TB c tima tma tac) (bn : Tm.B n) (bx : Tm.B x) (hk : n % 3 = 2) : Calls Try.prog 8 #[.agg #[.int .u16 c, .int .u8 tima, .int .u8 tma, .int .u8 tac, .bool ov], .int .u8 n, .int .u8 x, .int .i64 odd] w fun e w' => e = .returned (.bool true) ∧ Below w.heap.size w w' := by
  refine val_eq base2 (table_ok w) (loops_none _ _) (reads3_tree w c tima tma tac n x odd ov) rfl ?_
  obtain ⟨bc, bt, bm, ba⟩ := hb
  have ek : IntKind.i64.wrap ((1 : Int) + IntKind.i64.wrap (n.tmod (3 : Int))) = 3 := by
    rw [Int.tmod_eq_emod_of_nonneg bn.1, hk]; rfl
  have hm : 0 ≤ tac % 8 ∧ tac % 8 < 8 := by omega
  have em : tac % 8 % 8 = tac % 8 := by omega
  have mb : Tm.B (tac % 8) := ⟨by omega, by omega⟩
  have hb : TB c tima tma (tac % 8) := ⟨bc, bt, bm, mb⟩
  have hw := TB_write (n := 3) hb bx
  have eo : bits .or .u8 248 x = 248 + x % 8 := Tm.r248c bx
  have ex : x % 8 % 8 = x % 8 := by omega
  simp only [ek, Tm.t7 ba, eo]
  simp only [show IntKind.i64.wrap ((0 : Int) + 1) = 1 from rfl, show IntKind.i64.wrap ((1 : Int) + 1) = 2 from rfl, show IntKind.i64.wrap ((2 : Int) + 1) = 3 from rfl]
  refine And.intro ?_ (T.br_t ?_ (T.br_t ?_ (And.intro ?_ (And.intro ?_ (T.br_f ?_ (T.br_t ?_ (T.br_t ?_ (And.intro ?_ (And.intro ?_ (T.br_f ?_ (T.br_f ?_ (And.intro ?_ (?_)))))))))))))
  all_goals first | exact hb | exact hw | exact ⟨hb, bx⟩ | (simp [Tm.rd, Tm.wC, Tm.wM, Tm.wA, Tm.wT, em, ex]; done) | skip
  simp only [T.holds, AV.γ, V.γ, Sc.γ]
  refine And.intro (fun _ => ⟨fun h1 => ⟨fun _ => ⟨rfl, trivial⟩, fun h2 => ?_⟩, fun h1 => ?_⟩) (fun h => ?_)
  · have g0 : odd ≠ 0 := by simp at h1 h2; omega
    have g1 : odd ≠ 1 := by simp at h1 h2; omega
    have g2 : odd ≠ 2 := by simp at h1 h2; omega
    have g3 : odd ≠ 3 := by simp at h1 h2; omega
    refine ⟨hb, fun _ => ⟨⟨hb, bx⟩, rfl, ?_⟩, fun h => ?_⟩
    · cases ov <;> cases Tm.sg c (tac % 8) <;> simp [g0, g1, g2, g3, Tm.wC, Tm.wM, Tm.wA, Tm.wT, Tm.wO, Tm.fT, Tm.fO]
    · simp [g0, g1, g2, g3, Tm.rd] at h
  · have g0 : odd ≠ 0 := by simp at h1; omega
    have g1 : odd ≠ 1 := by simp at h1; omega
    have g2 : odd ≠ 2 := by simp at h1; omega
    have g3 : odd ≠ 3 := by simp at h1; omega
    refine ⟨hb, fun _ => ⟨⟨hb, bx⟩, rfl, ?_⟩, fun h => ?_⟩
    · cases ov <;> cases Tm.sg c (tac % 8) <;> simp [g0, g1, g2, g3, Tm.wC, Tm.wM, Tm.wA, Tm.wT, Tm.wO, Tm.fT, Tm.fO]
    · simp [g0, g1, g2, g3, Tm.rd] at h
  · simp [Tm.rd, Tm.wC, Tm.wM, Tm.wA, Tm.wT, em, ex] at h
theorem reads_walk (w : World) (c tima tma tac n x odd : Int) (ov : Bool) (hb : TB c tima tma tac) (bn : Tm.B n) (bx : Tm.B x) : Calls Try.prog 8 #[.agg #[.int .u16 c, .int .u8 tima, .int .u8 tma, .int .u8 tac, .bool ov], .int .u8 n, .int .u8 x, .int .i64 odd] w fun e w' => e = .returned (.bool true) ∧ Below w.heap.size w w' := by
  have h := bn.1
  rcases (show n % 3 = 0 ∨ n % 3 = 1 ∨ n % 3 = 2 by omega) with hk | hk | hk
  · exact reads1_walk w c tima tma tac n x odd ov hb bn bx hk
  · exact reads2_walk w c tima tma tac n x odd ov hb bn bx hk
  · exact reads3_walk w c tima tma tac n x odd ov hb bn bx hk
end Go.Proofs.Ytobenphpjphdlaa
