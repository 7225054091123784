/-
  Walks of the map's calls and of the document's, by computing: a cartridge, a write, a bank, a place, a part of the clock. Bytes are below 256, places below 65536, the lower number below 512, the higher below 16; no other condition.
-/
import Derived.Test.YthfloebldapfbaaSym9
import Derived.Test.YthfloebldapfbaaSymE
import Derived.Test.YthfloebldapfbaaPlain
namespace Go.Proofs.Ythfloebldapfbaa
open Go.RowKit sym
set_option linter.unusedVariables false
set_option linter.unusedSimpArgs false
set_option maxRecDepth 100000
theorem base : Base Try.prog (fun _ => false) := ⟨by kernel_rfl, names_of (by kernel_rfl), fun _ h => by (cases h)⟩
theorem base2 : Base Try.prog (flatT Try.prog) := ⟨base.mixed, base.names, flat_ok _⟩
theorem bit_nat (x i : Nat) : x &&& 2 ^ i = x / 2 ^ i % 2 * 2 ^ i := by
  apply Nat.eq_of_testBit_eq
  intro j
  rw [Nat.testBit_and, Nat.testBit_two_pow]
  have h2 : x / 2 ^ i % 2 = 0 ∨ x / 2 ^ i % 2 = 1 := by omega
  by_cases hj : i = j
  · subst hj
    rw [Nat.testBit_eq_decide_div_mod_eq]
    rcases h2 with h | h <;> rw [h] <;> simp
  · rcases h2 with h | h <;> rw [h] <;> simp [hj, Nat.testBit_two_pow]
theorem bit16 {a : Int} (h : Mb.W a) (i : Nat) (hi : i < 16) : bits .and .u16 a ((2 ^ i : Nat) : Int) = a / 2 ^ i % 2 * 2 ^ i := by
  obtain ⟨n, rfl⟩ := Int.eq_ofNat_of_zero_le h.1
  have h2 : 2 ^ i < 65536 := by
    have := Nat.pow_lt_pow_right (a := 2) (by decide) hi
    simpa using this
  rw [u16_and_nat n (2 ^ i) (by have := h.2; omega) h2, bit_nat]
  simp
theorem low15 {a : Int} (h : Mb.W a) : bits .and .u16 a 32767 = a % 32768 := by
  obtain ⟨n, rfl⟩ := Int.eq_ofNat_of_zero_le h.1
  have := u16_and_nat n 32767 (by have := h.2; omega) (by omega)
  rw [show (32767 : Int) = ((32767 : Nat) : Int) from rfl, this, show (32767 : Nat) = 2 ^ 15 - 1 from rfl, Nat.and_two_pow_sub_one_eq_mod]
  simp
theorem hi14 {a : Int} (h : Mb.W a) : (bits .and .u16 a 16384 != 0) = decide (a / 16384 % 2 = 1) := by
  have := bit16 h 14 (by decide)
  rw [show ((2 ^ 14 : Nat) : Int) = 16384 from rfl] at this
  rw [this, Bool.eq_iff_iff]
  simp only [bne_iff_ne, ne_eq, decide_eq_true_eq, show (2 : Int) ^ 14 = 16384 from rfl]
  omega
theorem mid8 {a : Int} (h : Mb.W a) : (bits .and .u16 (a % 32768) 256 == 0) = decide (a / 256 % 2 = 0) := by
  have := bit16 (a := a % 32768) ⟨by omega, by omega⟩ 8 (by decide)
  rw [show ((2 ^ 8 : Nat) : Int) = 256 from rfl] at this
  rw [this, Bool.eq_iff_iff]
  simp only [beq_iff_eq, decide_eq_true_eq, show (2 : Int) ^ 8 = 256 from rfl]
  have := h.1
  omega
theorem msk : ∀ a : Nat, a < 256 → bits .and .u8 (a : Int) 1 = ((a % 2 : Nat) : Int) ∧ bits .and .u8 (a : Int) 3 = ((a % 4 : Nat) : Int) ∧ bits .and .u8 (a : Int) 15 = ((a % 16 : Nat) : Int) ∧ bits .and .u8 (a : Int) 31 = ((a % 32 : Nat) : Int) ∧ bits .and .u8 (a : Int) 127 = ((a % 128 : Nat) : Int) := by decide +kernel
theorem masks {a : Int} (h : Mb.B a) : bits .and .u8 a 1 = a % 2 ∧ bits .and .u8 a 3 = a % 4 ∧ bits .and .u8 a 15 = a % 16 ∧ bits .and .u8 a 31 = a % 32 ∧ bits .and .u8 a 127 = a % 128 := by
  obtain ⟨n, rfl⟩ := Int.eq_ofNat_of_zero_le h.1
  have := msk n (by have := h.2; omega)
  simpa using this
theorem lowall : ∀ d : Nat, d < 512 → bits .andNot .i64 (d : Int) 255 = ((d / 256 * 256 : Nat) : Int) ∧ bits .and .i64 (d : Int) 255 = ((d % 256 : Nat) : Int) := by decide +kernel
theorem lows {d : Int} (h : 0 ≤ d ∧ d < 512) : bits .andNot .i64 d 255 = d / 256 * 256 ∧ bits .and .i64 d 255 = d % 256 := by
  obtain ⟨n, rfl⟩ := Int.eq_ofNat_of_zero_le h.1
  have := lowall n (by have := h.2; omega)
  simpa using this
theorem or1' : ∀ x : Nat, x < 256 → bits .or .i64 0 (x : Int) = (x : Int) ∧ bits .or .i64 256 (x : Int) = ((256 + x : Nat) : Int) ∧ bits .or .i64 (x : Int) 0 = (x : Int) ∧ bits .or .i64 (x : Int) 256 = ((256 + x : Nat) : Int) := by decide +kernel
theorem or1 {k x : Int} (hk : k = 0 ∨ k = 1) (h : Mb.B x) : bits .or .i64 (k * 256) x = k * 256 + x := by
  obtain ⟨n, rfl⟩ := Int.eq_ofNat_of_zero_le h.1
  obtain ⟨h1, h2, _⟩ := or1' n (by have := h.2; omega)
  rcases hk with rfl | rfl
  · rw [show (0 : Int) * 256 = 0 from rfl, h1]; omega
  · rw [show (1 : Int) * 256 = 256 from rfl, h2]; omega
theorem or2 {k x : Int} (hk : k = 0 ∨ k = 1) (h : Mb.B x) : bits .or .i64 x (k * 256) = x + k * 256 := by
  obtain ⟨n, rfl⟩ := Int.eq_ofNat_of_zero_le h.1
  obtain ⟨_, _, h1, h2⟩ := or1' n (by have := h.2; omega)
  rcases hk with rfl | rfl
  · rw [show (0 : Int) * 256 = 0 from rfl, h1]; omega
  · rw [show (1 : Int) * 256 = 256 from rfl, h2]; omega
theorem maxes (y : Int) : (if true = true then if (1 : Int) > y then (1 : Int) else y else if (1 : Int) < y then (1 : Int) else y) = if y < 1 then 1 else y := by
  simp only [if_true, gt_iff_lt]
theorem beqd (a b : Int) : (a == b) = decide (a = b) := rfl
theorem one_max {y : Int} (h : 0 ≤ y) : (if y < 1 then 1 else y) = Mb.one y := by unfold Mb.one; split <;> split <;> omega
theorem write1_tree (w : World) (banks ram : Int) (on mode : Bool) (low high last : Int) (a x : Int) :
    callV Try.prog w (flatT Try.prog) noCtr noLoop 20 12 [.v (.agg [.int true .i64 1, .int false .i64 banks, .int false .i64 ram, .bool false on, .bool false mode, .int false .i64 low, .int false .i64 high, .int false .u8 last]), .v (.one (.int false .u16 a)), .v (.one (.int false .u8 x))] =
(.br ((bits BinOp.and IntKind.u16 a (32767 : Int)).fdiv ((2 : Int) ^ (13 : Nat)) == (0 : Int))
 (.leaf (.tuple [(.agg [(.int true .i64 (1)), (.int false .i64 (banks)), (.int false .i64 (ram)), (.bool false (bits BinOp.and IntKind.u8 x (15 : Int) == (10 : Int))), (.bool false (mode)), (.int false .i64 (low)), (.int false .i64 (high)), (.int false .u8 (last))]), (.one (.bool true false))]))
 (.br ((bits BinOp.and IntKind.u16 a (32767 : Int)).fdiv ((2 : Int) ^ (13 : Nat)) == (1 : Int))
  (.leaf (.tuple [(.agg [(.int true .i64 (1)), (.int false .i64 (banks)), (.int false .i64 (ram)), (.bool false (on)), (.bool false (mode)), (.int false .i64 (if true = true then
  if (1 : Int) > IntKind.i64.wrap (bits BinOp.and IntKind.u8 x (31 : Int)) then (1 : Int)
  else IntKind.i64.wrap (bits BinOp.and IntKind.u8 x (31 : Int))
else
  if (1 : Int) < IntKind.i64.wrap (bits BinOp.and IntKind.u8 x (31 : Int)) then (1 : Int)
  else IntKind.i64.wrap (bits BinOp.and IntKind.u8 x (31 : Int)))), (.int false .i64 (high)), (.int false .u8 (last))]), (.one (.bool true false))]))
  (.br ((bits BinOp.and IntKind.u16 a (32767 : Int)).fdiv ((2 : Int) ^ (13 : Nat)) == (2 : Int))
   (.leaf (.tuple [(.agg [(.int true .i64 (1)), (.int false .i64 (banks)), (.int false .i64 (ram)), (.bool false (on)), (.bool false (mode)), (.int false .i64 (low)), (.int false .i64 (IntKind.i64.wrap (bits BinOp.and IntKind.u8 x (3 : Int)))), (.int false .u8 (last))]), (.one (.bool true false))]))
   (.leaf (.tuple [(.agg [(.int true .i64 (1)), (.int false .i64 (banks)), (.int false .i64 (ram)), (.bool false (on)), (.bool false (bits BinOp.and IntKind.u8 x (1 : Int) == (1 : Int))), (.int false .i64 (low)), (.int false .i64 (high)), (.int false .u8 (last))]), (.one (.bool true false))]))))) := by kernel_rfl
theorem write2_tree (w : World) (banks ram : Int) (on mode : Bool) (low high last : Int) (a x : Int) :
    callV Try.prog w (flatT Try.prog) noCtr noLoop 20 12 [.v (.agg [.int true .i64 2, .int false .i64 banks, .int false .i64 ram, .bool false on, .bool false mode, .int false .i64 low, .int false .i64 high, .int false .u8 last]), .v (.one (.int false .u16 a)), .v (.one (.int false .u8 x))] =
(.br (decide (bits BinOp.and IntKind.u16 a (32767 : Int) ≥ (16384 : Int)))
 (.leaf (.tuple [(.agg [(.int true .i64 (2)), (.int false .i64 (banks)), (.int false .i64 (ram)), (.bool false (on)), (.bool false (mode)), (.int false .i64 (low)), (.int false .i64 (high)), (.int false .u8 (last))]), (.one (.bool true false))]))
 (.br (bits BinOp.and IntKind.u16 (bits BinOp.and IntKind.u16 a (32767 : Int)) (256 : Int) == (0 : Int))
  (.leaf (.tuple [(.agg [(.int true .i64 (2)), (.int false .i64 (banks)), (.int false .i64 (ram)), (.bool false (bits BinOp.and IntKind.u8 x (15 : Int) == (10 : Int))), (.bool false (mode)), (.int false .i64 (low)), (.int false .i64 (high)), (.int false .u8 (last))]), (.one (.bool true false))]))
  (.leaf (.tuple [(.agg [(.int true .i64 (2)), (.int false .i64 (banks)), (.int false .i64 (ram)), (.bool false (on)), (.bool false (mode)), (.int false .i64 (if true = true then
  if (1 : Int) > IntKind.i64.wrap (bits BinOp.and IntKind.u8 x (15 : Int)) then (1 : Int)
  else IntKind.i64.wrap (bits BinOp.and IntKind.u8 x (15 : Int))
else
  if (1 : Int) < IntKind.i64.wrap (bits BinOp.and IntKind.u8 x (15 : Int)) then (1 : Int)
  else IntKind.i64.wrap (bits BinOp.and IntKind.u8 x (15 : Int)))), (.int false .i64 (high)), (.int false .u8 (last))]), (.one (.bool true false))])))) := by kernel_rfl
theorem write3_tree (w : World) (banks ram : Int) (on mode : Bool) (low high last : Int) (a x : Int) :
    callV Try.prog w (flatT Try.prog) noCtr noLoop 20 12 [.v (.agg [.int true .i64 3, .int false .i64 banks, .int false .i64 ram, .bool false on, .bool false mode, .int false .i64 low, .int false .i64 high, .int false .u8 last]), .v (.one (.int false .u16 a)), .v (.one (.int false .u8 x))] =
(.br ((bits BinOp.and IntKind.u16 a (32767 : Int)).fdiv ((2 : Int) ^ (13 : Nat)) == (0 : Int))
 (.leaf (.tuple [(.agg [(.int true .i64 (3)), (.int false .i64 (banks)), (.int false .i64 (ram)), (.bool false (bits BinOp.and IntKind.u8 x (15 : Int) == (10 : Int))), (.bool false (mode)), (.int false .i64 (low)), (.int false .i64 (high)), (.int false .u8 (last))]), (.one (.bool true false))]))
 (.br ((bits BinOp.and IntKind.u16 a (32767 : Int)).fdiv ((2 : Int) ^ (13 : Nat)) == (1 : Int))
  (.leaf (.tuple [(.agg [(.int true .i64 (3)), (.int false .i64 (banks)), (.int false .i64 (ram)), (.bool false (on)), (.bool false (mode)), (.int false .i64 (if true = true then
  if (1 : Int) > IntKind.i64.wrap (bits BinOp.and IntKind.u8 x (127 : Int)) then (1 : Int)
  else IntKind.i64.wrap (bits BinOp.and IntKind.u8 x (127 : Int))
else
  if (1 : Int) < IntKind.i64.wrap (bits BinOp.and IntKind.u8 x (127 : Int)) then (1 : Int)
  else IntKind.i64.wrap (bits BinOp.and IntKind.u8 x (127 : Int)))), (.int false .i64 (high)), (.int false .u8 (last))]), (.one (.bool true false))]))
  (.br ((bits BinOp.and IntKind.u16 a (32767 : Int)).fdiv ((2 : Int) ^ (13 : Nat)) == (2 : Int))
   (.leaf (.tuple [(.agg [(.int true .i64 (3)), (.int false .i64 (banks)), (.int false .i64 (ram)), (.bool false (on)), (.bool false (mode)), (.int false .i64 (low)), (.int false .i64 (IntKind.i64.wrap (bits BinOp.and IntKind.u8 x (15 : Int)))), (.int false .u8 (last))]), (.one (.bool true false))]))
   (.br (last == (0 : Int))
    (.leaf (.tuple [(.agg [(.int true .i64 (3)), (.int false .i64 (banks)), (.int false .i64 (ram)), (.bool false (on)), (.bool false (mode)), (.int false .i64 (low)), (.int false .i64 (high)), (.int false .u8 (x))]), (.one (.bool false (x == (1 : Int))))]))
    (.leaf (.tuple [(.agg [(.int true .i64 (3)), (.int false .i64 (banks)), (.int false .i64 (ram)), (.bool false (on)), (.bool false (mode)), (.int false .i64 (low)), (.int false .i64 (high)), (.int false .u8 (x))]), (.one (.bool true false))])))))) := by kernel_rfl
theorem write5_tree (w : World) (banks ram : Int) (on mode : Bool) (low high last : Int) (a x : Int) :
    callV Try.prog w (flatT Try.prog) noCtr noLoop 20 12 [.v (.agg [.int true .i64 5, .int false .i64 banks, .int false .i64 ram, .bool false on, .bool false mode, .int false .i64 low, .int false .i64 high, .int false .u8 last]), .v (.one (.int false .u16 a)), .v (.one (.int false .u8 x))] =
(.br ((bits BinOp.and IntKind.u16 a (32767 : Int)).fdiv ((2 : Int) ^ (12 : Nat)) == (0 : Int))
 (.leaf (.tuple [(.agg [(.int true .i64 (5)), (.int false .i64 (banks)), (.int false .i64 (ram)), (.bool false (bits BinOp.and IntKind.u8 x (15 : Int) == (10 : Int))), (.bool false (mode)), (.int false .i64 (low)), (.int false .i64 (high)), (.int false .u8 (last))]), (.one (.bool true false))]))
 (.br ((bits BinOp.and IntKind.u16 a (32767 : Int)).fdiv ((2 : Int) ^ (12 : Nat)) == (1 : Int))
  (.leaf (.tuple [(.agg [(.int true .i64 (5)), (.int false .i64 (banks)), (.int false .i64 (ram)), (.bool false (bits BinOp.and IntKind.u8 x (15 : Int) == (10 : Int))), (.bool false (mode)), (.int false .i64 (low)), (.int false .i64 (high)), (.int false .u8 (last))]), (.one (.bool true false))]))
  (.br ((bits BinOp.and IntKind.u16 a (32767 : Int)).fdiv ((2 : Int) ^ (12 : Nat)) == (2 : Int))
   (.leaf (.tuple [(.agg [(.int true .i64 (5)), (.int false .i64 (banks)), (.int false .i64 (ram)), (.bool false (on)), (.bool false (mode)), (.int false .i64 (bits BinOp.or IntKind.i64 (bits BinOp.andNot IntKind.i64 low (255 : Int)) (IntKind.i64.wrap x))), (.int false .i64 (high)), (.int false .u8 (last))]), (.one (.bool true false))]))
   (.br ((bits BinOp.and IntKind.u16 a (32767 : Int)).fdiv ((2 : Int) ^ (12 : Nat)) == (3 : Int))
    (.leaf (.tuple [(.agg [(.int true .i64 (5)), (.int false .i64 (banks)), (.int false .i64 (ram)), (.bool false (on)), (.bool false (mode)), (.int false .i64 (bits BinOp.or IntKind.i64 (bits BinOp.and IntKind.i64 low (255 : Int))
  (IntKind.i64.wrap (IntKind.i64.wrap (bits BinOp.and IntKind.u8 x (1 : Int)) * (2 : Int) ^ (8 : Nat))))), (.int false .i64 (high)), (.int false .u8 (last))]), (.one (.bool true false))]))
    (.br ((bits BinOp.and IntKind.u16 a (32767 : Int)).fdiv ((2 : Int) ^ (12 : Nat)) == (4 : Int))
     (.leaf (.tuple [(.agg [(.int true .i64 (5)), (.int false .i64 (banks)), (.int false .i64 (ram)), (.bool false (on)), (.bool false (mode)), (.int false .i64 (low)), (.int false .i64 (IntKind.i64.wrap (bits BinOp.and IntKind.u8 x (15 : Int)))), (.int false .u8 (last))]), (.one (.bool true false))]))
     (.br ((bits BinOp.and IntKind.u16 a (32767 : Int)).fdiv ((2 : Int) ^ (12 : Nat)) == (5 : Int))
      (.leaf (.tuple [(.agg [(.int true .i64 (5)), (.int false .i64 (banks)), (.int false .i64 (ram)), (.bool false (on)), (.bool false (mode)), (.int false .i64 (low)), (.int false .i64 (IntKind.i64.wrap (bits BinOp.and IntKind.u8 x (15 : Int)))), (.int false .u8 (last))]), (.one (.bool true false))]))
      (.leaf (.tuple [(.agg [(.int true .i64 (5)), (.int false .i64 (banks)), (.int false .i64 (ram)), (.bool false (on)), (.bool false (mode)), (.int false .i64 (low)), (.int false .i64 (high)), (.int false .u8 (last))]), (.one (.bool true false))])))))))) := by kernel_rfl
theorem writeo_tree (w : World) (k banks ram : Int) (on mode : Bool) (low high last : Int) (a x : Int) :
    callV Try.prog w (flatT Try.prog) noCtr noLoop 20 12 [.v (.agg [.int false .i64 k, .int false .i64 banks, .int false .i64 ram, .bool false on, .bool false mode, .int false .i64 low, .int false .i64 high, .int false .u8 last]), .v (.one (.int false .u16 a)), .v (.one (.int false .u8 x))] =
(.br (k == (1 : Int))
((callV Try.prog w (flatT Try.prog) noCtr noLoop 20 12 [.v (.agg [.int false .i64 k, .int false .i64 banks, .int false .i64 ram, .bool false on, .bool false mode, .int false .i64 low, .int false .i64 high, .int false .u8 last]), .v (.one (.int false .u16 a)), .v (.one (.int false .u8 x))]).thn)
(.br (k == (2 : Int))
((callV Try.prog w (flatT Try.prog) noCtr noLoop 20 12 [.v (.agg [.int false .i64 k, .int false .i64 banks, .int false .i64 ram, .bool false on, .bool false mode, .int false .i64 low, .int false .i64 high, .int false .u8 last]), .v (.one (.int false .u16 a)), .v (.one (.int false .u8 x))]).els.thn)
(.br (k == (3 : Int))
((callV Try.prog w (flatT Try.prog) noCtr noLoop 20 12 [.v (.agg [.int false .i64 k, .int false .i64 banks, .int false .i64 ram, .bool false on, .bool false mode, .int false .i64 low, .int false .i64 high, .int false .u8 last]), .v (.one (.int false .u16 a)), .v (.one (.int false .u8 x))]).els.els.thn)
(.br (k == (5 : Int))
((callV Try.prog w (flatT Try.prog) noCtr noLoop 20 12 [.v (.agg [.int false .i64 k, .int false .i64 banks, .int false .i64 ram, .bool false on, .bool false mode, .int false .i64 low, .int false .i64 high, .int false .u8 last]), .v (.one (.int false .u16 a)), .v (.one (.int false .u8 x))]).els.els.els.thn)
(.leaf (.tuple [(.agg [(.int false .i64 (k)), (.int false .i64 (banks)), (.int false .i64 (ram)), (.bool false (on)), (.bool false (mode)), (.int false .i64 (low)), (.int false .i64 (high)), (.int false .u8 (last))]), (.one (.bool true false))])))))) := by kernel_rfl
theorem rwrite1_tree (w : World) (banks ram : Int) (on mode : Bool) (low high last : Int) (a x : Int) :
    callV Try.prog w (flatT Try.prog) noCtr noLoop 20 15 [.v (.agg [.int true .i64 1, .int false .i64 banks, .int false .i64 ram, .bool false on, .bool false mode, .int false .i64 low, .int false .i64 high, .int false .u8 last]), .v (.one (.int false .u16 a)), .v (.one (.int false .u8 x))] =
(.br (IntKind.i64.wrap (((IntKind.i64.wrap a).tmod (32768 : Int)).tdiv (4096 : Int)) == (0 : Int))
 (.leaf (.tuple [(.agg [(.int true .i64 (1)), (.int false .i64 (banks)), (.int false .i64 (ram)), (.bool false ((IntKind.i64.wrap x).tmod (16 : Int) == (10 : Int))), (.bool false (mode)), (.int false .i64 (low)), (.int false .i64 (high)), (.int false .u8 (last))]), (.one (.bool true false))]))
 (.br (IntKind.i64.wrap (((IntKind.i64.wrap a).tmod (32768 : Int)).tdiv (4096 : Int)) == (1 : Int))
  (.leaf (.tuple [(.agg [(.int true .i64 (1)), (.int false .i64 (banks)), (.int false .i64 (ram)), (.bool false ((IntKind.i64.wrap x).tmod (16 : Int) == (10 : Int))), (.bool false (mode)), (.int false .i64 (low)), (.int false .i64 (high)), (.int false .u8 (last))]), (.one (.bool true false))]))
  (.br (IntKind.i64.wrap (((IntKind.i64.wrap a).tmod (32768 : Int)).tdiv (4096 : Int)) == (2 : Int))
   (.br ((IntKind.i64.wrap x).tmod (32 : Int) == (0 : Int))
    (.leaf (.tuple [(.agg [(.int true .i64 (1)), (.int false .i64 (banks)), (.int false .i64 (ram)), (.bool false (on)), (.bool false (mode)), (.int true .i64 (1)), (.int false .i64 (high)), (.int false .u8 (last))]), (.one (.bool true false))]))
    (.leaf (.tuple [(.agg [(.int true .i64 (1)), (.int false .i64 (banks)), (.int false .i64 (ram)), (.bool false (on)), (.bool false (mode)), (.int false .i64 ((IntKind.i64.wrap x).tmod (32 : Int))), (.int false .i64 (high)), (.int false .u8 (last))]), (.one (.bool true false))])))
   (.br (IntKind.i64.wrap (((IntKind.i64.wrap a).tmod (32768 : Int)).tdiv (4096 : Int)) == (3 : Int))
    (.br ((IntKind.i64.wrap x).tmod (32 : Int) == (0 : Int))
     (.leaf (.tuple [(.agg [(.int true .i64 (1)), (.int false .i64 (banks)), (.int false .i64 (ram)), (.bool false (on)), (.bool false (mode)), (.int true .i64 (1)), (.int false .i64 (high)), (.int false .u8 (last))]), (.one (.bool true false))]))
     (.leaf (.tuple [(.agg [(.int true .i64 (1)), (.int false .i64 (banks)), (.int false .i64 (ram)), (.bool false (on)), (.bool false (mode)), (.int false .i64 ((IntKind.i64.wrap x).tmod (32 : Int))), (.int false .i64 (high)), (.int false .u8 (last))]), (.one (.bool true false))])))
    (.br (IntKind.i64.wrap (((IntKind.i64.wrap a).tmod (32768 : Int)).tdiv (4096 : Int)) == (4 : Int))
     (.leaf (.tuple [(.agg [(.int true .i64 (1)), (.int false .i64 (banks)), (.int false .i64 (ram)), (.bool false (on)), (.bool false (mode)), (.int false .i64 (low)), (.int false .i64 ((IntKind.i64.wrap x).tmod (4 : Int))), (.int false .u8 (last))]), (.one (.bool true false))]))
     (.br (IntKind.i64.wrap (((IntKind.i64.wrap a).tmod (32768 : Int)).tdiv (4096 : Int)) == (5 : Int))
      (.leaf (.tuple [(.agg [(.int true .i64 (1)), (.int false .i64 (banks)), (.int false .i64 (ram)), (.bool false (on)), (.bool false (mode)), (.int false .i64 (low)), (.int false .i64 ((IntKind.i64.wrap x).tmod (4 : Int))), (.int false .u8 (last))]), (.one (.bool true false))]))
      (.br (IntKind.i64.wrap (((IntKind.i64.wrap a).tmod (32768 : Int)).tdiv (4096 : Int)) == (6 : Int))
       (.leaf (.tuple [(.agg [(.int true .i64 (1)), (.int false .i64 (banks)), (.int false .i64 (ram)), (.bool false (on)), (.bool false ((IntKind.i64.wrap x).tmod (2 : Int) == (1 : Int))), (.int false .i64 (low)), (.int false .i64 (high)), (.int false .u8 (last))]), (.one (.bool true false))]))
       (.br (IntKind.i64.wrap (((IntKind.i64.wrap a).tmod (32768 : Int)).tdiv (4096 : Int)) == (7 : Int))
        (.leaf (.tuple [(.agg [(.int true .i64 (1)), (.int false .i64 (banks)), (.int false .i64 (ram)), (.bool false (on)), (.bool false ((IntKind.i64.wrap x).tmod (2 : Int) == (1 : Int))), (.int false .i64 (low)), (.int false .i64 (high)), (.int false .u8 (last))]), (.one (.bool true false))]))
        (.leaf (.tuple [(.agg [(.int true .i64 (1)), (.int false .i64 (banks)), (.int false .i64 (ram)), (.bool false (on)), (.bool false (mode)), (.int false .i64 (low)), (.int false .i64 (high)), (.int false .u8 (last))]), (.one (.bool true false))])))))))))) := by kernel_rfl
theorem rwrite2_tree (w : World) (banks ram : Int) (on mode : Bool) (low high last : Int) (a x : Int) :
    callV Try.prog w (flatT Try.prog) noCtr noLoop 20 15 [.v (.agg [.int true .i64 2, .int false .i64 banks, .int false .i64 ram, .bool false on, .bool false mode, .int false .i64 low, .int false .i64 high, .int false .u8 last]), .v (.one (.int false .u16 a)), .v (.one (.int false .u8 x))] =
(.br (decide ((IntKind.i64.wrap a).tmod (32768 : Int) < (16384 : Int)))
 (.br ((IntKind.i64.wrap (((IntKind.i64.wrap a).tmod (32768 : Int)).tdiv (256 : Int))).tmod (2 : Int) == (0 : Int))
  (.leaf (.tuple [(.agg [(.int true .i64 (2)), (.int false .i64 (banks)), (.int false .i64 (ram)), (.bool false ((IntKind.i64.wrap x).tmod (16 : Int) == (10 : Int))), (.bool false (mode)), (.int false .i64 (low)), (.int false .i64 (high)), (.int false .u8 (last))]), (.one (.bool true false))]))
  (.br ((IntKind.i64.wrap x).tmod (16 : Int) == (0 : Int))
   (.leaf (.tuple [(.agg [(.int true .i64 (2)), (.int false .i64 (banks)), (.int false .i64 (ram)), (.bool false (on)), (.bool false (mode)), (.int true .i64 (1)), (.int false .i64 (high)), (.int false .u8 (last))]), (.one (.bool true false))]))
   (.leaf (.tuple [(.agg [(.int true .i64 (2)), (.int false .i64 (banks)), (.int false .i64 (ram)), (.bool false (on)), (.bool false (mode)), (.int false .i64 ((IntKind.i64.wrap x).tmod (16 : Int))), (.int false .i64 (high)), (.int false .u8 (last))]), (.one (.bool true false))]))))
 (.leaf (.tuple [(.agg [(.int true .i64 (2)), (.int false .i64 (banks)), (.int false .i64 (ram)), (.bool false (on)), (.bool false (mode)), (.int false .i64 (low)), (.int false .i64 (high)), (.int false .u8 (last))]), (.one (.bool true false))]))) := by kernel_rfl
theorem rwrite3_tree (w : World) (banks ram : Int) (on mode : Bool) (low high last : Int) (a x : Int) :
    callV Try.prog w (flatT Try.prog) noCtr noLoop 20 15 [.v (.agg [.int true .i64 3, .int false .i64 banks, .int false .i64 ram, .bool false on, .bool false mode, .int false .i64 low, .int false .i64 high, .int false .u8 last]), .v (.one (.int false .u16 a)), .v (.one (.int false .u8 x))] =
(.br (IntKind.i64.wrap (((IntKind.i64.wrap a).tmod (32768 : Int)).tdiv (4096 : Int)) == (0 : Int))
 (.leaf (.tuple [(.agg [(.int true .i64 (3)), (.int false .i64 (banks)), (.int false .i64 (ram)), (.bool false ((IntKind.i64.wrap x).tmod (16 : Int) == (10 : Int))), (.bool false (mode)), (.int false .i64 (low)), (.int false .i64 (high)), (.int false .u8 (last))]), (.one (.bool true false))]))
 (.br (IntKind.i64.wrap (((IntKind.i64.wrap a).tmod (32768 : Int)).tdiv (4096 : Int)) == (1 : Int))
  (.leaf (.tuple [(.agg [(.int true .i64 (3)), (.int false .i64 (banks)), (.int false .i64 (ram)), (.bool false ((IntKind.i64.wrap x).tmod (16 : Int) == (10 : Int))), (.bool false (mode)), (.int false .i64 (low)), (.int false .i64 (high)), (.int false .u8 (last))]), (.one (.bool true false))]))
  (.br (IntKind.i64.wrap (((IntKind.i64.wrap a).tmod (32768 : Int)).tdiv (4096 : Int)) == (2 : Int))
   (.br ((IntKind.i64.wrap x).tmod (128 : Int) == (0 : Int))
    (.leaf (.tuple [(.agg [(.int true .i64 (3)), (.int false .i64 (banks)), (.int false .i64 (ram)), (.bool false (on)), (.bool false (mode)), (.int true .i64 (1)), (.int false .i64 (high)), (.int false .u8 (last))]), (.one (.bool true false))]))
    (.leaf (.tuple [(.agg [(.int true .i64 (3)), (.int false .i64 (banks)), (.int false .i64 (ram)), (.bool false (on)), (.bool false (mode)), (.int false .i64 ((IntKind.i64.wrap x).tmod (128 : Int))), (.int false .i64 (high)), (.int false .u8 (last))]), (.one (.bool true false))])))
   (.br (IntKind.i64.wrap (((IntKind.i64.wrap a).tmod (32768 : Int)).tdiv (4096 : Int)) == (3 : Int))
    (.br ((IntKind.i64.wrap x).tmod (128 : Int) == (0 : Int))
     (.leaf (.tuple [(.agg [(.int true .i64 (3)), (.int false .i64 (banks)), (.int false .i64 (ram)), (.bool false (on)), (.bool false (mode)), (.int true .i64 (1)), (.int false .i64 (high)), (.int false .u8 (last))]), (.one (.bool true false))]))
     (.leaf (.tuple [(.agg [(.int true .i64 (3)), (.int false .i64 (banks)), (.int false .i64 (ram)), (.bool false (on)), (.bool false (mode)), (.int false .i64 ((IntKind.i64.wrap x).tmod (128 : Int))), (.int false .i64 (high)), (.int false .u8 (last))]), (.one (.bool true false))])))
    (.br (IntKind.i64.wrap (((IntKind.i64.wrap a).tmod (32768 : Int)).tdiv (4096 : Int)) == (4 : Int))
     (.leaf (.tuple [(.agg [(.int true .i64 (3)), (.int false .i64 (banks)), (.int false .i64 (ram)), (.bool false (on)), (.bool false (mode)), (.int false .i64 (low)), (.int false .i64 ((IntKind.i64.wrap x).tmod (16 : Int))), (.int false .u8 (last))]), (.one (.bool true false))]))
     (.br (IntKind.i64.wrap (((IntKind.i64.wrap a).tmod (32768 : Int)).tdiv (4096 : Int)) == (5 : Int))
      (.leaf (.tuple [(.agg [(.int true .i64 (3)), (.int false .i64 (banks)), (.int false .i64 (ram)), (.bool false (on)), (.bool false (mode)), (.int false .i64 (low)), (.int false .i64 ((IntKind.i64.wrap x).tmod (16 : Int))), (.int false .u8 (last))]), (.one (.bool true false))]))
      (.br (IntKind.i64.wrap (((IntKind.i64.wrap a).tmod (32768 : Int)).tdiv (4096 : Int)) == (6 : Int))
       (.br (last == (0 : Int))
        (.leaf (.tuple [(.agg [(.int true .i64 (3)), (.int false .i64 (banks)), (.int false .i64 (ram)), (.bool false (on)), (.bool false (mode)), (.int false .i64 (low)), (.int false .i64 (high)), (.int false .u8 (x))]), (.one (.bool false (IntKind.i64.wrap x == (1 : Int))))]))
        (.leaf (.tuple [(.agg [(.int true .i64 (3)), (.int false .i64 (banks)), (.int false .i64 (ram)), (.bool false (on)), (.bool false (mode)), (.int false .i64 (low)), (.int false .i64 (high)), (.int false .u8 (x))]), (.one (.bool true false))])))
       (.br (IntKind.i64.wrap (((IntKind.i64.wrap a).tmod (32768 : Int)).tdiv (4096 : Int)) == (7 : Int))
        (.br (last == (0 : Int))
         (.leaf (.tuple [(.agg [(.int true .i64 (3)), (.int false .i64 (banks)), (.int false .i64 (ram)), (.bool false (on)), (.bool false (mode)), (.int false .i64 (low)), (.int false .i64 (high)), (.int false .u8 (x))]), (.one (.bool false (IntKind.i64.wrap x == (1 : Int))))]))
         (.leaf (.tuple [(.agg [(.int true .i64 (3)), (.int false .i64 (banks)), (.int false .i64 (ram)), (.bool false (on)), (.bool false (mode)), (.int false .i64 (low)), (.int false .i64 (high)), (.int false .u8 (x))]), (.one (.bool true false))])))
        (.leaf (.tuple [(.agg [(.int true .i64 (3)), (.int false .i64 (banks)), (.int false .i64 (ram)), (.bool false (on)), (.bool false (mode)), (.int false .i64 (low)), (.int false .i64 (high)), (.int false .u8 (last))]), (.one (.bool true false))])))))))))) := by kernel_rfl
theorem rwrite5_tree (w : World) (banks ram : Int) (on mode : Bool) (low high last : Int) (a x : Int) :
    callV Try.prog w (flatT Try.prog) noCtr noLoop 20 15 [.v (.agg [.int true .i64 5, .int false .i64 banks, .int false .i64 ram, .bool false on, .bool false mode, .int false .i64 low, .int false .i64 high, .int false .u8 last]), .v (.one (.int false .u16 a)), .v (.one (.int false .u8 x))] =
(.br (IntKind.i64.wrap (((IntKind.i64.wrap a).tmod (32768 : Int)).tdiv (4096 : Int)) == (0 : Int))
 (.leaf (.tuple [(.agg [(.int true .i64 (5)), (.int false .i64 (banks)), (.int false .i64 (ram)), (.bool false ((IntKind.i64.wrap x).tmod (16 : Int) == (10 : Int))), (.bool false (mode)), (.int false .i64 (low)), (.int false .i64 (high)), (.int false .u8 (last))]), (.one (.bool true false))]))
 (.br (IntKind.i64.wrap (((IntKind.i64.wrap a).tmod (32768 : Int)).tdiv (4096 : Int)) == (1 : Int))
  (.leaf (.tuple [(.agg [(.int true .i64 (5)), (.int false .i64 (banks)), (.int false .i64 (ram)), (.bool false ((IntKind.i64.wrap x).tmod (16 : Int) == (10 : Int))), (.bool false (mode)), (.int false .i64 (low)), (.int false .i64 (high)), (.int false .u8 (last))]), (.one (.bool true false))]))
  (.br (IntKind.i64.wrap (((IntKind.i64.wrap a).tmod (32768 : Int)).tdiv (4096 : Int)) == (2 : Int))
   (.leaf (.tuple [(.agg [(.int true .i64 (5)), (.int false .i64 (banks)), (.int false .i64 (ram)), (.bool false (on)), (.bool false (mode)), (.int false .i64 (IntKind.i64.wrap
  (IntKind.i64.wrap (IntKind.i64.wrap (low.tdiv (256 : Int)) * (256 : Int)) + IntKind.i64.wrap x))), (.int false .i64 (high)), (.int false .u8 (last))]), (.one (.bool true false))]))
   (.br (IntKind.i64.wrap (((IntKind.i64.wrap a).tmod (32768 : Int)).tdiv (4096 : Int)) == (3 : Int))
    (.leaf (.tuple [(.agg [(.int true .i64 (5)), (.int false .i64 (banks)), (.int false .i64 (ram)), (.bool false (on)), (.bool false (mode)), (.int false .i64 (IntKind.i64.wrap (low.tmod (256 : Int) + IntKind.i64.wrap ((IntKind.i64.wrap x).tmod (2 : Int) * (256 : Int))))), (.int false .i64 (high)), (.int false .u8 (last))]), (.one (.bool true false))]))
    (.br (IntKind.i64.wrap (((IntKind.i64.wrap a).tmod (32768 : Int)).tdiv (4096 : Int)) == (4 : Int))
     (.leaf (.tuple [(.agg [(.int true .i64 (5)), (.int false .i64 (banks)), (.int false .i64 (ram)), (.bool false (on)), (.bool false (mode)), (.int false .i64 (low)), (.int false .i64 ((IntKind.i64.wrap x).tmod (16 : Int))), (.int false .u8 (last))]), (.one (.bool true false))]))
     (.br (IntKind.i64.wrap (((IntKind.i64.wrap a).tmod (32768 : Int)).tdiv (4096 : Int)) == (5 : Int))
      (.leaf (.tuple [(.agg [(.int true .i64 (5)), (.int false .i64 (banks)), (.int false .i64 (ram)), (.bool false (on)), (.bool false (mode)), (.int false .i64 (low)), (.int false .i64 ((IntKind.i64.wrap x).tmod (16 : Int))), (.int false .u8 (last))]), (.one (.bool true false))]))
      (.br (IntKind.i64.wrap (((IntKind.i64.wrap a).tmod (32768 : Int)).tdiv (4096 : Int)) == (6 : Int))
       (.leaf (.tuple [(.agg [(.int true .i64 (5)), (.int false .i64 (banks)), (.int false .i64 (ram)), (.bool false (on)), (.bool false (mode)), (.int false .i64 (low)), (.int false .i64 (high)), (.int false .u8 (last))]), (.one (.bool true false))]))
       (.br (IntKind.i64.wrap (((IntKind.i64.wrap a).tmod (32768 : Int)).tdiv (4096 : Int)) == (7 : Int))
        (.leaf (.tuple [(.agg [(.int true .i64 (5)), (.int false .i64 (banks)), (.int false .i64 (ram)), (.bool false (on)), (.bool false (mode)), (.int false .i64 (low)), (.int false .i64 (high)), (.int false .u8 (last))]), (.one (.bool true false))]))
        (.leaf (.tuple [(.agg [(.int true .i64 (5)), (.int false .i64 (banks)), (.int false .i64 (ram)), (.bool false (on)), (.bool false (mode)), (.int false .i64 (low)), (.int false .i64 (high)), (.int false .u8 (last))]), (.one (.bool true false))])))))))))) := by kernel_rfl
theorem rwriteo_tree (w : World) (k banks ram : Int) (on mode : Bool) (low high last : Int) (a x : Int) :
    callV Try.prog w (flatT Try.prog) noCtr noLoop 20 15 [.v (.agg [.int false .i64 k, .int false .i64 banks, .int false .i64 ram, .bool false on, .bool false mode, .int false .i64 low, .int false .i64 high, .int false .u8 last]), .v (.one (.int false .u16 a)), .v (.one (.int false .u8 x))] =
(.br (k == (2 : Int))
((callV Try.prog w (flatT Try.prog) noCtr noLoop 20 15 [.v (.agg [.int false .i64 k, .int false .i64 banks, .int false .i64 ram, .bool false on, .bool false mode, .int false .i64 low, .int false .i64 high, .int false .u8 last]), .v (.one (.int false .u16 a)), .v (.one (.int false .u8 x))]).thn)
(.br (k != (1 : Int))
(.br (k != (3 : Int))
(.br (k != (5 : Int))
(.leaf (.tuple [(.agg [(.int false .i64 (k)), (.int false .i64 (banks)), (.int false .i64 (ram)), (.bool false (on)), (.bool false (mode)), (.int false .i64 (low)), (.int false .i64 (high)), (.int false .u8 (last))]), (.one (.bool true false))]))
((callV Try.prog w (flatT Try.prog) noCtr noLoop 20 15 [.v (.agg [.int false .i64 k, .int false .i64 banks, .int false .i64 ram, .bool false on, .bool false mode, .int false .i64 low, .int false .i64 high, .int false .u8 last]), .v (.one (.int false .u16 a)), .v (.one (.int false .u8 x))]).els.thn.thn.els))
((callV Try.prog w (flatT Try.prog) noCtr noLoop 20 15 [.v (.agg [.int false .i64 k, .int false .i64 banks, .int false .i64 ram, .bool false on, .bool false mode, .int false .i64 low, .int false .i64 high, .int false .u8 last]), .v (.one (.int false .u16 a)), .v (.one (.int false .u8 x))]).els.thn.els))
((callV Try.prog w (flatT Try.prog) noCtr noLoop 20 15 [.v (.agg [.int false .i64 k, .int false .i64 banks, .int false .i64 ram, .bool false on, .bool false mode, .int false .i64 low, .int false .i64 high, .int false .u8 last]), .v (.one (.int false .u16 a)), .v (.one (.int false .u8 x))]).els.els))) := by kernel_rfl
theorem bank_tree (w : World) (k banks ram : Int) (on mode : Bool) (low high last : Int) (a : Int) :
    callV Try.prog w (flatT Try.prog) noCtr noLoop 20 13 [.v (.agg [.int false .i64 k, .int false .i64 banks, .int false .i64 ram, .bool false on, .bool false mode, .int false .i64 low, .int false .i64 high, .int false .u8 last]), .v (.one (.int false .u16 a))] =
(.br (k == (0 : Int))
 (.br (bits BinOp.and IntKind.u16 a (16384 : Int) != (0 : Int))
  (.br (decide (banks < (1 : Int)))
   (.leaf (.v (.one (.int true .i64 (0)))))
   (.chk (banks ≠ (0 : Int))
   (.leaf (.v (.one (.int false .i64 (Int.tmod (1 : Int) banks)))))))
  (.br (decide (banks < (1 : Int)))
   (.leaf (.v (.one (.int true .i64 (0)))))
   (.chk (banks ≠ (0 : Int))
   (.leaf (.v (.one (.int false .i64 (Int.tmod (0 : Int) banks))))))))
 (.br (k == (1 : Int))
  (.br (bits BinOp.and IntKind.u16 a (16384 : Int) != (0 : Int))
   (.br (bits BinOp.and IntKind.u16 a (16384 : Int) != (0 : Int))
    (.br (decide (banks < (1 : Int)))
     (.leaf (.v (.one (.int true .i64 (0)))))
     (.br (decide (IntKind.i64.wrap (IntKind.i64.wrap (high * (2 : Int) ^ (5 : Nat)) + low) < (0 : Int)))
      (.leaf (.v (.one (.int true .i64 (0)))))
      (.chk (banks ≠ (0 : Int))
      (.leaf (.v (.one (.int false .i64 ((IntKind.i64.wrap (IntKind.i64.wrap (high * (2 : Int) ^ (5 : Nat)) + low)).tmod banks))))))))
    (.br (decide (banks < (1 : Int)))
     (.leaf (.v (.one (.int true .i64 (0)))))
     (.br (decide (IntKind.i64.wrap (high * (2 : Int) ^ (5 : Nat)) < (0 : Int)))
      (.leaf (.v (.one (.int true .i64 (0)))))
      (.chk (banks ≠ (0 : Int))
      (.leaf (.v (.one (.int false .i64 ((IntKind.i64.wrap (high * (2 : Int) ^ (5 : Nat))).tmod banks)))))))))
   (.br (mode)
    (.br (bits BinOp.and IntKind.u16 a (16384 : Int) != (0 : Int))
     (.br (decide (banks < (1 : Int)))
      (.leaf (.v (.one (.int true .i64 (0)))))
      (.br (decide (IntKind.i64.wrap (IntKind.i64.wrap (high * (2 : Int) ^ (5 : Nat)) + low) < (0 : Int)))
       (.leaf (.v (.one (.int true .i64 (0)))))
       (.chk (banks ≠ (0 : Int))
       (.leaf (.v (.one (.int false .i64 ((IntKind.i64.wrap (IntKind.i64.wrap (high * (2 : Int) ^ (5 : Nat)) + low)).tmod banks))))))))
     (.br (decide (banks < (1 : Int)))
      (.leaf (.v (.one (.int true .i64 (0)))))
      (.br (decide (IntKind.i64.wrap (high * (2 : Int) ^ (5 : Nat)) < (0 : Int)))
       (.leaf (.v (.one (.int true .i64 (0)))))
       (.chk (banks ≠ (0 : Int))
       (.leaf (.v (.one (.int false .i64 ((IntKind.i64.wrap (high * (2 : Int) ^ (5 : Nat))).tmod banks)))))))))
    (.br (bits BinOp.and IntKind.u16 a (16384 : Int) != (0 : Int))
     (.br (decide (banks < (1 : Int)))
      (.leaf (.v (.one (.int true .i64 (0)))))
      (.br (decide (IntKind.i64.wrap ((0 : Int) + low) < (0 : Int)))
       (.leaf (.v (.one (.int true .i64 (0)))))
       (.chk (banks ≠ (0 : Int))
       (.leaf (.v (.one (.int false .i64 ((IntKind.i64.wrap ((0 : Int) + low)).tmod banks))))))))
     (.br (decide (banks < (1 : Int)))
      (.leaf (.v (.one (.int true .i64 (0)))))
      (.chk (banks ≠ (0 : Int))
      (.leaf (.v (.one (.int false .i64 (Int.tmod (0 : Int) banks))))))))))
  (.br (k == (2 : Int))
   (.br (bits BinOp.and IntKind.u16 a (16384 : Int) != (0 : Int))
    (.br (decide (banks < (1 : Int)))
     (.leaf (.v (.one (.int true .i64 (0)))))
     (.br (decide (low < (0 : Int)))
      (.leaf (.v (.one (.int true .i64 (0)))))
      (.chk (banks ≠ (0 : Int))
      (.leaf (.v (.one (.int false .i64 (low.tmod banks))))))))
    (.br (decide (banks < (1 : Int)))
     (.leaf (.v (.one (.int true .i64 (0)))))
     (.chk (banks ≠ (0 : Int))
     (.leaf (.v (.one (.int false .i64 (Int.tmod (0 : Int) banks))))))))
   (.br (k == (3 : Int))
    (.br (bits BinOp.and IntKind.u16 a (16384 : Int) != (0 : Int))
     (.br (decide (banks < (1 : Int)))
      (.leaf (.v (.one (.int true .i64 (0)))))
      (.br (decide (low < (0 : Int)))
       (.leaf (.v (.one (.int true .i64 (0)))))
       (.chk (banks ≠ (0 : Int))
       (.leaf (.v (.one (.int false .i64 (low.tmod banks))))))))
     (.br (decide (banks < (1 : Int)))
      (.leaf (.v (.one (.int true .i64 (0)))))
      (.chk (banks ≠ (0 : Int))
      (.leaf (.v (.one (.int false .i64 (Int.tmod (0 : Int) banks))))))))
    (.br (k == (5 : Int))
     (.br (bits BinOp.and IntKind.u16 a (16384 : Int) != (0 : Int))
      (.br (decide (banks < (1 : Int)))
       (.leaf (.v (.one (.int true .i64 (0)))))
       (.br (decide (low < (0 : Int)))
        (.leaf (.v (.one (.int true .i64 (0)))))
        (.chk (banks ≠ (0 : Int))
        (.leaf (.v (.one (.int false .i64 (low.tmod banks))))))))
      (.br (decide (banks < (1 : Int)))
       (.leaf (.v (.one (.int true .i64 (0)))))
       (.chk (banks ≠ (0 : Int))
       (.leaf (.v (.one (.int false .i64 (Int.tmod (0 : Int) banks))))))))
     (.br (decide (banks < (1 : Int)))
      (.leaf (.v (.one (.int true .i64 (0)))))
      (.chk (banks ≠ (0 : Int))
      (.leaf (.v (.one (.int false .i64 (Int.tmod (0 : Int) banks)))))))))))) := by kernel_rfl
theorem rbank_tree (w : World) (k banks ram : Int) (on mode : Bool) (low high last : Int) (a : Int) :
    callV Try.prog w (flatT Try.prog) noCtr noLoop 20 20 [.v (.agg [.int false .i64 k, .int false .i64 banks, .int false .i64 ram, .bool false on, .bool false mode, .int false .i64 low, .int false .i64 high, .int false .u8 last]), .v (.one (.int false .u16 a))] =
(.br (decide ((IntKind.i64.wrap a).tmod (32768 : Int) < (16384 : Int)))
 (.br (k == (1 : Int))
  (.br (mode)
   (.br (decide (banks < (1 : Int)))
    (.leaf (.v (.one (.int true .i64 (0)))))
    (.br (decide (IntKind.i64.wrap ((32 : Int) * high) < (0 : Int)))
     (.leaf (.v (.one (.int true .i64 (0)))))
     (.chk (banks ≠ (0 : Int))
     (.leaf (.v (.one (.int false .i64 ((IntKind.i64.wrap ((32 : Int) * high)).tmod banks))))))))
   (.br (decide (banks < (1 : Int)))
    (.leaf (.v (.one (.int true .i64 (0)))))
    (.chk (banks ≠ (0 : Int))
    (.leaf (.v (.one (.int false .i64 (Int.tmod (0 : Int) banks))))))))
  (.br (decide (banks < (1 : Int)))
   (.leaf (.v (.one (.int true .i64 (0)))))
   (.chk (banks ≠ (0 : Int))
   (.leaf (.v (.one (.int false .i64 (Int.tmod (0 : Int) banks))))))))
 (.br (k == (0 : Int))
  (.br (decide (banks < (1 : Int)))
   (.leaf (.v (.one (.int true .i64 (0)))))
   (.chk (banks ≠ (0 : Int))
   (.leaf (.v (.one (.int false .i64 (Int.tmod (1 : Int) banks)))))))
  (.br (k == (1 : Int))
   (.br (decide (banks < (1 : Int)))
    (.leaf (.v (.one (.int true .i64 (0)))))
    (.br (decide (IntKind.i64.wrap (IntKind.i64.wrap ((32 : Int) * high) + low) < (0 : Int)))
     (.leaf (.v (.one (.int true .i64 (0)))))
     (.chk (banks ≠ (0 : Int))
     (.leaf (.v (.one (.int false .i64 ((IntKind.i64.wrap (IntKind.i64.wrap ((32 : Int) * high) + low)).tmod banks))))))))
   (.br (k == (2 : Int))
    (.br (decide (banks < (1 : Int)))
     (.leaf (.v (.one (.int true .i64 (0)))))
     (.br (decide (low < (0 : Int)))
      (.leaf (.v (.one (.int true .i64 (0)))))
      (.chk (banks ≠ (0 : Int))
      (.leaf (.v (.one (.int false .i64 (low.tmod banks))))))))
    (.br (k == (3 : Int))
     (.br (decide (banks < (1 : Int)))
      (.leaf (.v (.one (.int true .i64 (0)))))
      (.br (decide (low < (0 : Int)))
       (.leaf (.v (.one (.int true .i64 (0)))))
       (.chk (banks ≠ (0 : Int))
       (.leaf (.v (.one (.int false .i64 (low.tmod banks))))))))
     (.br (k == (5 : Int))
      (.br (decide (banks < (1 : Int)))
       (.leaf (.v (.one (.int true .i64 (0)))))
       (.br (decide (low < (0 : Int)))
        (.leaf (.v (.one (.int true .i64 (0)))))
        (.chk (banks ≠ (0 : Int))
        (.leaf (.v (.one (.int false .i64 (low.tmod banks))))))))
      (.br (decide (banks < (1 : Int)))
       (.leaf (.v (.one (.int true .i64 (0)))))
       (.chk (banks ≠ (0 : Int))
       (.leaf (.v (.one (.int false .i64 (Int.tmod (0 : Int) banks))))))))))))) := by kernel_rfl
theorem at_tree (w : World) (k banks ram : Int) (on mode : Bool) (low high last : Int) (a : Int) :
    callV Try.prog w (flatT Try.prog) noCtr noLoop 20 16 [.v (.agg [.int false .i64 k, .int false .i64 banks, .int false .i64 ram, .bool false on, .bool false mode, .int false .i64 low, .int false .i64 high, .int false .u8 last]), .v (.one (.int false .u16 a))] =
(.br (decide (a < (40960 : Int)))
 (.leaf (.tuple [(.one (.int true .i64 (0))), (.one (.bool true false))]))
 (.br (decide (a ≥ (49152 : Int)))
  (.leaf (.tuple [(.one (.int true .i64 (0))), (.one (.bool true false))]))
  (.br (!on)
   (.leaf (.tuple [(.one (.int true .i64 (0))), (.one (.bool true false))]))
   (.br (decide (ram < (1 : Int)))
    (.leaf (.tuple [(.one (.int true .i64 (0))), (.one (.bool true false))]))
    (.br (k == (0 : Int))
     (.chk (ram ≠ (0 : Int))
     (.leaf (.tuple [(.one (.int false .i64 (((IntKind.i64.wrap a).tmod (8192 : Int)).tmod ram))), (.one (.bool true true))])))
     (.br (k == (1 : Int))
      (.br (mode)
       (.chk (ram ≠ (0 : Int))
       (.leaf (.tuple [(.one (.int false .i64 ((IntKind.i64.wrap ((IntKind.i64.wrap a).tmod (8192 : Int) + IntKind.i64.wrap ((8192 : Int) * high))).tmod ram))), (.one (.bool true true))])))
       (.chk (ram ≠ (0 : Int))
       (.leaf (.tuple [(.one (.int false .i64 (((IntKind.i64.wrap a).tmod (8192 : Int)).tmod ram))), (.one (.bool true true))]))))
      (.br (k == (2 : Int))
       (.chk (ram ≠ (0 : Int))
       (.leaf (.tuple [(.one (.int false .i64 ((((IntKind.i64.wrap a).tmod (8192 : Int)).tmod (512 : Int)).tmod ram))), (.one (.bool true true))])))
       (.br (k == (3 : Int))
        (.br (decide (high > (3 : Int)))
         (.leaf (.tuple [(.one (.int true .i64 (0))), (.one (.bool true false))]))
         (.chk (ram ≠ (0 : Int))
         (.leaf (.tuple [(.one (.int false .i64 ((IntKind.i64.wrap ((IntKind.i64.wrap a).tmod (8192 : Int) + IntKind.i64.wrap ((8192 : Int) * high))).tmod ram))), (.one (.bool true true))]))))
        (.br (k == (5 : Int))
         (.chk (ram ≠ (0 : Int))
         (.leaf (.tuple [(.one (.int false .i64 ((IntKind.i64.wrap ((IntKind.i64.wrap a).tmod (8192 : Int) + IntKind.i64.wrap ((8192 : Int) * high))).tmod ram))), (.one (.bool true true))])))
         (.leaf (.tuple [(.one (.int true .i64 (0))), (.one (.bool true false))]))))))))))) := by kernel_rfl
theorem rat_tree (w : World) (k banks ram : Int) (on mode : Bool) (low high last : Int) (a : Int) :
    callV Try.prog w (flatT Try.prog) noCtr noLoop 20 17 [.v (.agg [.int false .i64 k, .int false .i64 banks, .int false .i64 ram, .bool false on, .bool false mode, .int false .i64 low, .int false .i64 high, .int false .u8 last]), .v (.one (.int false .u16 a))] =
(.br (decide (IntKind.i64.wrap a < (40960 : Int)))
 (.leaf (.tuple [(.one (.int true .i64 (0))), (.one (.bool true false))]))
 (.br (decide (IntKind.i64.wrap a > (49151 : Int)))
  (.leaf (.tuple [(.one (.int true .i64 (0))), (.one (.bool true false))]))
  (.br (!on)
   (.leaf (.tuple [(.one (.int true .i64 (0))), (.one (.bool true false))]))
   (.br (decide (ram < (1 : Int)))
    (.leaf (.tuple [(.one (.int true .i64 (0))), (.one (.bool true false))]))
    (.br (k == (0 : Int))
     (.chk (ram ≠ (0 : Int))
     (.leaf (.tuple [(.one (.int false .i64 (((IntKind.i64.wrap a).tmod (8192 : Int)).tmod ram))), (.one (.bool true true))])))
     (.br (k == (1 : Int))
      (.br (mode)
       (.chk (ram ≠ (0 : Int))
       (.leaf (.tuple [(.one (.int false .i64 ((IntKind.i64.wrap (IntKind.i64.wrap ((8192 : Int) * high) + (IntKind.i64.wrap a).tmod (8192 : Int))).tmod ram))), (.one (.bool true true))])))
       (.chk (ram ≠ (0 : Int))
       (.leaf (.tuple [(.one (.int false .i64 (((IntKind.i64.wrap a).tmod (8192 : Int)).tmod ram))), (.one (.bool true true))]))))
      (.br (k == (2 : Int))
       (.chk (ram ≠ (0 : Int))
       (.leaf (.tuple [(.one (.int false .i64 (((IntKind.i64.wrap a).tmod (512 : Int)).tmod ram))), (.one (.bool true true))])))
       (.br (k == (3 : Int))
        (.br (decide (high > (3 : Int)))
         (.leaf (.tuple [(.one (.int true .i64 (0))), (.one (.bool true false))]))
         (.chk (ram ≠ (0 : Int))
         (.leaf (.tuple [(.one (.int false .i64 ((IntKind.i64.wrap (IntKind.i64.wrap ((8192 : Int) * high) + (IntKind.i64.wrap a).tmod (8192 : Int))).tmod ram))), (.one (.bool true true))]))))
        (.br (k == (5 : Int))
         (.chk (ram ≠ (0 : Int))
         (.leaf (.tuple [(.one (.int false .i64 ((IntKind.i64.wrap (IntKind.i64.wrap ((8192 : Int) * high) + (IntKind.i64.wrap a).tmod (8192 : Int))).tmod ram))), (.one (.bool true true))])))
         (.leaf (.tuple [(.one (.int true .i64 (0))), (.one (.bool true false))]))))))))))) := by kernel_rfl
theorem clock_tree (w : World) (k banks ram : Int) (on mode : Bool) (low high last : Int) :
    callV Try.prog w (flatT Try.prog) noCtr noLoop 20 18 [.v (.agg [.int false .i64 k, .int false .i64 banks, .int false .i64 ram, .bool false on, .bool false mode, .int false .i64 low, .int false .i64 high, .int false .u8 last])] =
(.br (k != (3 : Int))
 (.leaf (.tuple [(.one (.int true .i64 (0))), (.one (.bool true false))]))
 (.br (!on)
  (.leaf (.tuple [(.one (.int true .i64 (0))), (.one (.bool true false))]))
  (.br (decide (high < (8 : Int)))
   (.leaf (.tuple [(.one (.int true .i64 (0))), (.one (.bool true false))]))
   (.br (decide (high > (12 : Int)))
    (.leaf (.tuple [(.one (.int true .i64 (0))), (.one (.bool true false))]))
    (.leaf (.tuple [(.one (.int false .i64 (IntKind.i64.wrap (high - (8 : Int))))), (.one (.bool true true))])))))) := by kernel_rfl
theorem rclock_tree (w : World) (k banks ram : Int) (on mode : Bool) (low high last : Int) :
    callV Try.prog w (flatT Try.prog) noCtr noLoop 20 19 [.v (.agg [.int false .i64 k, .int false .i64 banks, .int false .i64 ram, .bool false on, .bool false mode, .int false .i64 low, .int false .i64 high, .int false .u8 last])] =
(.br (k == (3 : Int))
 (.br (on)
  (.br (decide (high ≥ (8 : Int)))
   (.br (decide (high ≤ (12 : Int)))
    (.leaf (.tuple [(.one (.int false .i64 (IntKind.i64.wrap (high - (8 : Int))))), (.one (.bool true true))]))
    (.leaf (.tuple [(.one (.int true .i64 (0))), (.one (.bool true false))])))
   (.leaf (.tuple [(.one (.int true .i64 (0))), (.one (.bool true false))])))
  (.leaf (.tuple [(.one (.int true .i64 (0))), (.one (.bool true false))])))
 (.leaf (.tuple [(.one (.int true .i64 (0))), (.one (.bool true false))]))) := by kernel_rfl
theorem awake_tree (w : World) :
    callV Try.prog w (flatT Try.prog) noCtr noLoop 20 9 [] =
(.leaf (.v (.one (.bool true true)))) := by kernel_rfl
theorem wn0 : IntKind.wrap .i64 0 = 0 := by decide
theorem wn1 : IntKind.wrap .i64 1 = 1 := by decide
theorem wn2 : IntKind.wrap .i64 2 = 2 := by decide
theorem wn3 : IntKind.wrap .i64 3 = 3 := by decide
theorem wn4 : IntKind.wrap .i64 4 = 4 := by decide
theorem wn5 : IntKind.wrap .i64 5 = 5 := by decide
theorem wn6 : IntKind.wrap .i64 6 = 6 := by decide
theorem wn7 : IntKind.wrap .i64 7 = 7 := by decide
theorem fa_f1 {a : Int} (h : Mb.W a) : IntKind.i64.wrap a = a := by
  obtain ⟨a1, a2⟩ := h
  exact Mb.wi64 _ (by omega) (by omega)
theorem fa_f2 {a : Int} (h : Mb.W a) : a.tmod 32768 = a % 32768 := by
  obtain ⟨a1, a2⟩ := h
  exact Int.tmod_eq_emod_of_nonneg a1
theorem fa_f3 {a : Int} (h : Mb.W a) : (a % 32768).tdiv 4096 = a / 4096 % 8 := by
  obtain ⟨a1, a2⟩ := h
  exact by rw [Int.tdiv_eq_ediv_of_nonneg (by omega)]; omega
theorem fa_f4 {a : Int} (h : Mb.W a) : IntKind.i64.wrap (a / 4096 % 8) = a / 4096 % 8 := by
  obtain ⟨a1, a2⟩ := h
  exact Mb.wi64 _ (by omega) (by omega)
theorem fa_f5 {a : Int} (h : Mb.W a) : (a % 32768).tdiv 256 = a % 32768 / 256 := by
  obtain ⟨a1, a2⟩ := h
  exact Int.tdiv_eq_ediv_of_nonneg (by omega)
theorem fa_f6 {a : Int} (h : Mb.W a) : IntKind.i64.wrap (a % 32768 / 256) = a % 32768 / 256 := by
  obtain ⟨a1, a2⟩ := h
  exact Mb.wi64 _ (by omega) (by omega)
theorem fa_f7 {a : Int} (h : Mb.W a) : (a % 32768 / 256).tmod 2 = a / 256 % 2 := by
  obtain ⟨a1, a2⟩ := h
  exact by rw [Int.tmod_eq_emod_of_nonneg (by omega)]; omega
theorem fa_f8 {a : Int} (h : Mb.W a) : bits .and .u16 a 32767 = a % 32768 := by
  obtain ⟨a1, a2⟩ := h
  exact low15 ⟨a1, a2⟩
theorem fa_f9 {a : Int} (h : Mb.W a) : (a % 32768).fdiv (2 ^ 13) = a / 8192 % 4 := by
  obtain ⟨a1, a2⟩ := h
  exact by rw [Int.fdiv_eq_ediv_of_nonneg _ (by decide), show (2 : Int) ^ 13 = 8192 from rfl]; omega
theorem fa_f10 {a : Int} (h : Mb.W a) : (a % 32768).fdiv (2 ^ 12) = a / 4096 % 8 := by
  obtain ⟨a1, a2⟩ := h
  exact by rw [Int.fdiv_eq_ediv_of_nonneg _ (by decide), show (2 : Int) ^ 12 = 4096 from rfl]; omega
theorem fa_g1 {x : Int} (h : Mb.B x) : IntKind.i64.wrap x = x := by
  obtain ⟨x1, x2⟩ := h
  exact Mb.wi64 _ (by omega) (by omega)
theorem fa_g2 {x : Int} (h : Mb.B x) : x.tmod 2 = x % 2 := by
  obtain ⟨x1, x2⟩ := h
  exact Int.tmod_eq_emod_of_nonneg x1
theorem fa_g3 {x : Int} (h : Mb.B x) : x.tmod 4 = x % 4 := by
  obtain ⟨x1, x2⟩ := h
  exact Int.tmod_eq_emod_of_nonneg x1
theorem fa_g4 {x : Int} (h : Mb.B x) : x.tmod 16 = x % 16 := by
  obtain ⟨x1, x2⟩ := h
  exact Int.tmod_eq_emod_of_nonneg x1
theorem fa_g5 {x : Int} (h : Mb.B x) : x.tmod 32 = x % 32 := by
  obtain ⟨x1, x2⟩ := h
  exact Int.tmod_eq_emod_of_nonneg x1
theorem fa_g6 {x : Int} (h : Mb.B x) : x.tmod 128 = x % 128 := by
  obtain ⟨x1, x2⟩ := h
  exact Int.tmod_eq_emod_of_nonneg x1
theorem fa_w2 {x : Int} (h : Mb.B x) : IntKind.i64.wrap (x % 2) = x % 2 := by
  obtain ⟨x1, x2⟩ := h
  exact Mb.wi64 _ (by omega) (by omega)
theorem fa_w4 {x : Int} (h : Mb.B x) : IntKind.i64.wrap (x % 4) = x % 4 := by
  obtain ⟨x1, x2⟩ := h
  exact Mb.wi64 _ (by omega) (by omega)
theorem fa_w16 {x : Int} (h : Mb.B x) : IntKind.i64.wrap (x % 16) = x % 16 := by
  obtain ⟨x1, x2⟩ := h
  exact Mb.wi64 _ (by omega) (by omega)
theorem fa_w32 {x : Int} (h : Mb.B x) : IntKind.i64.wrap (x % 32) = x % 32 := by
  obtain ⟨x1, x2⟩ := h
  exact Mb.wi64 _ (by omega) (by omega)
theorem fa_w128 {x : Int} (h : Mb.B x) : IntKind.i64.wrap (x % 128) = x % 128 := by
  obtain ⟨x1, x2⟩ := h
  exact Mb.wi64 _ (by omega) (by omega)
theorem fa_o16 {x : Int} (h : Mb.B x) : (if x % 16 < 1 then 1 else x % 16) = Mb.one (x % 16) := by
  obtain ⟨x1, x2⟩ := h
  exact one_max (y := x % 16) (by omega)
theorem fa_o32 {x : Int} (h : Mb.B x) : (if x % 32 < 1 then 1 else x % 32) = Mb.one (x % 32) := by
  obtain ⟨x1, x2⟩ := h
  exact one_max (y := x % 32) (by omega)
theorem fa_o128 {x : Int} (h : Mb.B x) : (if x % 128 < 1 then 1 else x % 128) = Mb.one (x % 128) := by
  obtain ⟨x1, x2⟩ := h
  exact one_max (y := x % 128) (by omega)
theorem fa_f9b {a : Int} (h : Mb.W a) : (a % 32768).fdiv 8192 = a / 8192 % 4 := fa_f9 h
theorem fa_f10b {a : Int} (h : Mb.W a) : (a % 32768).fdiv 4096 = a / 4096 % 8 := fa_f10 h
theorem fb_e1 {low x : Int} (bl : 0 ≤ low ∧ low < 512) (bx : Mb.B x) : bits .or .i64 (low / 256 * 256) x = low / 256 * 256 + x := by
  obtain ⟨x1, x2⟩ := id bx
  obtain ⟨l1, l2⟩ := id bl
  exact or1 (k := low / 256) (x := x) (by omega) bx
theorem fb_e2 {low x : Int} (bl : 0 ≤ low ∧ low < 512) (bx : Mb.B x) : bits .or .i64 (low % 256) (x % 2 * 256) = low % 256 + x % 2 * 256 := by
  obtain ⟨x1, x2⟩ := id bx
  obtain ⟨l1, l2⟩ := id bl
  exact or2 (k := x % 2) (x := low % 256) (by omega) ⟨by omega, by omega⟩
theorem fb_e3 {low x : Int} (bl : 0 ≤ low ∧ low < 512) (bx : Mb.B x) : IntKind.i64.wrap (x % 2 * 256) = x % 2 * 256 := by
  obtain ⟨x1, x2⟩ := id bx
  obtain ⟨l1, l2⟩ := id bl
  exact Mb.wi64 _ (by omega) (by omega)
theorem fb_e4 {low x : Int} (bl : 0 ≤ low ∧ low < 512) (bx : Mb.B x) : low.tdiv 256 = low / 256 := by
  obtain ⟨x1, x2⟩ := id bx
  obtain ⟨l1, l2⟩ := id bl
  exact Int.tdiv_eq_ediv_of_nonneg bl.1
theorem fb_e5 {low x : Int} (bl : 0 ≤ low ∧ low < 512) (bx : Mb.B x) : low.tmod 256 = low % 256 := by
  obtain ⟨x1, x2⟩ := id bx
  obtain ⟨l1, l2⟩ := id bl
  exact Int.tmod_eq_emod_of_nonneg bl.1
theorem fb_e6 {low x : Int} (bl : 0 ≤ low ∧ low < 512) (bx : Mb.B x) : IntKind.i64.wrap (low / 256) = low / 256 := by
  obtain ⟨x1, x2⟩ := id bx
  obtain ⟨l1, l2⟩ := id bl
  exact Mb.wi64 _ (by omega) (by omega)
theorem fb_e7 {low x : Int} (bl : 0 ≤ low ∧ low < 512) (bx : Mb.B x) : IntKind.i64.wrap (low / 256 * 256) = low / 256 * 256 := by
  obtain ⟨x1, x2⟩ := id bx
  obtain ⟨l1, l2⟩ := id bl
  exact Mb.wi64 _ (by omega) (by omega)
theorem fb_e8 {low x : Int} (bl : 0 ≤ low ∧ low < 512) (bx : Mb.B x) : IntKind.i64.wrap (low / 256 * 256 + x) = low / 256 * 256 + x := by
  obtain ⟨x1, x2⟩ := id bx
  obtain ⟨l1, l2⟩ := id bl
  exact Mb.wi64 _ (by omega) (by omega)
theorem fb_e9 {low x : Int} (bl : 0 ≤ low ∧ low < 512) (bx : Mb.B x) : IntKind.i64.wrap (low % 256 + x % 2 * 256) = low % 256 + x % 2 * 256 := by
  obtain ⟨x1, x2⟩ := id bx
  obtain ⟨l1, l2⟩ := id bl
  exact Mb.wi64 _ (by omega) (by omega)
set_option maxHeartbeats 4000000 in
theorem write1_any (w : World) (banks ram : Int) (on mode : Bool) (low high last : Int) (a x : Int) (ba : Mb.W a) (bx : Mb.B x) (bl : 0 ≤ low ∧ low < 512) : Calls Try.prog 12 #[.agg #[.int .i64 1, .int .i64 banks, .int .i64 ram, .bool on, .bool mode, .int .i64 low, .int .i64 high, .int .u8 last], .int .u16 a, .int .u8 x] w fun e w' => e = .returned (.tuple #[.agg #[.int .i64 1, .int .i64 banks, .int .i64 ram, .bool (Mb.wOn 1 a x on), .bool (Mb.wMode 1 a x mode), .int .i64 (Mb.wLow 1 a x low), .int .i64 (Mb.wHigh 1 a x high), .int .u8 (Mb.wLast 1 a x last)], .bool (Mb.wHeld 1 a x last)]) ∧ Below w.heap.size w w' := by
  refine val_eq base2 (ctrs_none _ _) (loops_none _ _) (write1_tree w banks ram on mode low high last a x) rfl ?_
  have hq : (a / 4096 % 8 = 0 ∧ a / 8192 % 4 = 0) ∨ (a / 4096 % 8 = 1 ∧ a / 8192 % 4 = 0) ∨ (a / 4096 % 8 = 2 ∧ a / 8192 % 4 = 1) ∨ (a / 4096 % 8 = 3 ∧ a / 8192 % 4 = 1) ∨ (a / 4096 % 8 = 4 ∧ a / 8192 % 4 = 2) ∨ (a / 4096 % 8 = 5 ∧ a / 8192 % 4 = 2) ∨ (a / 4096 % 8 = 6 ∧ a / 8192 % 4 = 3) ∨ (a / 4096 % 8 = 7 ∧ a / 8192 % 4 = 3) := by omega
  have f9b := fa_f9b ba
  have f10b := fa_f10b ba
  obtain ⟨m1, m3, m15, m31, m127⟩ := masks bx
  have f1 := fa_f1 ba
  have f2 := fa_f2 ba
  have f3 := fa_f3 ba
  have f4 := fa_f4 ba
  have f5 := fa_f5 ba
  have f6 := fa_f6 ba
  have f7 := fa_f7 ba
  have f8 := fa_f8 ba
  have f9 := fa_f9 ba
  have f10 := fa_f10 ba
  have f11 := mid8 ba
  have g1 := fa_g1 bx
  have g2 := fa_g2 bx
  have g3 := fa_g3 bx
  have g4 := fa_g4 bx
  have g5 := fa_g5 bx
  have g6 := fa_g6 bx
  have w2 := fa_w2 bx
  have w4 := fa_w4 bx
  have w16 := fa_w16 bx
  have w32 := fa_w32 bx
  have w128 := fa_w128 bx
  have o16 := fa_o16 bx
  have o32 := fa_o32 bx
  have o128 := fa_o128 bx
  rcases hq with ⟨hq, hp⟩ | ⟨hq, hp⟩ | ⟨hq, hp⟩ | ⟨hq, hp⟩ | ⟨hq, hp⟩ | ⟨hq, hp⟩ | ⟨hq, hp⟩ | ⟨hq, hp⟩
  · repeat' first
      | (refine T.br_t ?_ ?_; focus (simp [wn0, wn1, wn2, wn3, wn4, wn5, wn6, wn7, f9b, f10b, f1, f2, f3, f4, f5, f6, f7, f8, f9, f10, f11, g1, g2, g3, g4, g5, g6, w2, w4, w16, w32, w128, m1, m3, m15, m31, m127, maxes, o16, o32, o128, hq, hp]; done))
      | (refine T.br_f ?_ ?_; focus (simp [wn0, wn1, wn2, wn3, wn4, wn5, wn6, wn7, f9b, f10b, f1, f2, f3, f4, f5, f6, f7, f8, f9, f10, f11, g1, g2, g3, g4, g5, g6, w2, w4, w16, w32, w128, m1, m3, m15, m31, m127, maxes, o16, o32, o128, hq, hp]; done))
      | (refine T.br_t ?_ ?_; focus (simp only [wn0, wn1, wn2, wn3, wn4, wn5, wn6, wn7, f9b, f10b, f1, f2, f3, f4, f5, f6, f7, f8, f9, f10, f11, g1, g2, g3, g4, g5, g6, w2, w4, w16, w32, w128, m1, m3, m15, m31, m127, maxes, o16, o32, o128, hq, hp, beq_self_eq_true, Int.reduceBEq, decide_true]; done))
      | (refine T.br_f ?_ ?_; focus (simp only [wn0, wn1, wn2, wn3, wn4, wn5, wn6, wn7, f9b, f10b, f1, f2, f3, f4, f5, f6, f7, f8, f9, f10, f11, g1, g2, g3, g4, g5, g6, w2, w4, w16, w32, w128, m1, m3, m15, m31, m127, maxes, o16, o32, o128, hq, hp, beq_self_eq_true, Int.reduceBEq, decide_false]; done))
    refine ⟨rfl, ?_⟩
    simp [beqd, AV.γ, V.γ, Sc.γ, Mb.wOn, Mb.wLow, Mb.wHigh, Mb.wMode, Mb.wLast, Mb.wHeld, wn0, wn1, wn2, wn3, wn4, wn5, wn6, wn7, f9b, f10b, f1, f2, f3, f4, f5, f6, f7, f8, f9, f10, f11, g1, g2, g3, g4, g5, g6, w2, w4, w16, w32, w128, m1, m3, m15, m31, m127, maxes, o16, o32, o128, hq, hp]
  · repeat' first
      | (refine T.br_t ?_ ?_; focus (simp [wn0, wn1, wn2, wn3, wn4, wn5, wn6, wn7, f9b, f10b, f1, f2, f3, f4, f5, f6, f7, f8, f9, f10, f11, g1, g2, g3, g4, g5, g6, w2, w4, w16, w32, w128, m1, m3, m15, m31, m127, maxes, o16, o32, o128, hq, hp]; done))
      | (refine T.br_f ?_ ?_; focus (simp [wn0, wn1, wn2, wn3, wn4, wn5, wn6, wn7, f9b, f10b, f1, f2, f3, f4, f5, f6, f7, f8, f9, f10, f11, g1, g2, g3, g4, g5, g6, w2, w4, w16, w32, w128, m1, m3, m15, m31, m127, maxes, o16, o32, o128, hq, hp]; done))
      | (refine T.br_t ?_ ?_; focus (simp only [wn0, wn1, wn2, wn3, wn4, wn5, wn6, wn7, f9b, f10b, f1, f2, f3, f4, f5, f6, f7, f8, f9, f10, f11, g1, g2, g3, g4, g5, g6, w2, w4, w16, w32, w128, m1, m3, m15, m31, m127, maxes, o16, o32, o128, hq, hp, beq_self_eq_true, Int.reduceBEq, decide_true]; done))
      | (refine T.br_f ?_ ?_; focus (simp only [wn0, wn1, wn2, wn3, wn4, wn5, wn6, wn7, f9b, f10b, f1, f2, f3, f4, f5, f6, f7, f8, f9, f10, f11, g1, g2, g3, g4, g5, g6, w2, w4, w16, w32, w128, m1, m3, m15, m31, m127, maxes, o16, o32, o128, hq, hp, beq_self_eq_true, Int.reduceBEq, decide_false]; done))
    refine ⟨rfl, ?_⟩
    simp [beqd, AV.γ, V.γ, Sc.γ, Mb.wOn, Mb.wLow, Mb.wHigh, Mb.wMode, Mb.wLast, Mb.wHeld, wn0, wn1, wn2, wn3, wn4, wn5, wn6, wn7, f9b, f10b, f1, f2, f3, f4, f5, f6, f7, f8, f9, f10, f11, g1, g2, g3, g4, g5, g6, w2, w4, w16, w32, w128, m1, m3, m15, m31, m127, maxes, o16, o32, o128, hq, hp]
  · repeat' first
      | (refine T.br_t ?_ ?_; focus (simp [wn0, wn1, wn2, wn3, wn4, wn5, wn6, wn7, f9b, f10b, f1, f2, f3, f4, f5, f6, f7, f8, f9, f10, f11, g1, g2, g3, g4, g5, g6, w2, w4, w16, w32, w128, m1, m3, m15, m31, m127, maxes, o16, o32, o128, hq, hp]; done))
      | (refine T.br_f ?_ ?_; focus (simp [wn0, wn1, wn2, wn3, wn4, wn5, wn6, wn7, f9b, f10b, f1, f2, f3, f4, f5, f6, f7, f8, f9, f10, f11, g1, g2, g3, g4, g5, g6, w2, w4, w16, w32, w128, m1, m3, m15, m31, m127, maxes, o16, o32, o128, hq, hp]; done))
      | (refine T.br_t ?_ ?_; focus (simp only [wn0, wn1, wn2, wn3, wn4, wn5, wn6, wn7, f9b, f10b, f1, f2, f3, f4, f5, f6, f7, f8, f9, f10, f11, g1, g2, g3, g4, g5, g6, w2, w4, w16, w32, w128, m1, m3, m15, m31, m127, maxes, o16, o32, o128, hq, hp, beq_self_eq_true, Int.reduceBEq, decide_true]; done))
      | (refine T.br_f ?_ ?_; focus (simp only [wn0, wn1, wn2, wn3, wn4, wn5, wn6, wn7, f9b, f10b, f1, f2, f3, f4, f5, f6, f7, f8, f9, f10, f11, g1, g2, g3, g4, g5, g6, w2, w4, w16, w32, w128, m1, m3, m15, m31, m127, maxes, o16, o32, o128, hq, hp, beq_self_eq_true, Int.reduceBEq, decide_false]; done))
    refine ⟨rfl, ?_⟩
    simp [beqd, AV.γ, V.γ, Sc.γ, Mb.wOn, Mb.wLow, Mb.wHigh, Mb.wMode, Mb.wLast, Mb.wHeld, wn0, wn1, wn2, wn3, wn4, wn5, wn6, wn7, f9b, f10b, f1, f2, f3, f4, f5, f6, f7, f8, f9, f10, f11, g1, g2, g3, g4, g5, g6, w2, w4, w16, w32, w128, m1, m3, m15, m31, m127, maxes, o16, o32, o128, hq, hp]
  · repeat' first
      | (refine T.br_t ?_ ?_; focus (simp [wn0, wn1, wn2, wn3, wn4, wn5, wn6, wn7, f9b, f10b, f1, f2, f3, f4, f5, f6, f7, f8, f9, f10, f11, g1, g2, g3, g4, g5, g6, w2, w4, w16, w32, w128, m1, m3, m15, m31, m127, maxes, o16, o32, o128, hq, hp]; done))
      | (refine T.br_f ?_ ?_; focus (simp [wn0, wn1, wn2, wn3, wn4, wn5, wn6, wn7, f9b, f10b, f1, f2, f3, f4, f5, f6, f7, f8, f9, f10, f11, g1, g2, g3, g4, g5, g6, w2, w4, w16, w32, w128, m1, m3, m15, m31, m127, maxes, o16, o32, o128, hq, hp]; done))
      | (refine T.br_t ?_ ?_; focus (simp only [wn0, wn1, wn2, wn3, wn4, wn5, wn6, wn7, f9b, f10b, f1, f2, f3, f4, f5, f6, f7, f8, f9, f10, f11, g1, g2, g3, g4, g5, g6, w2, w4, w16, w32, w128, m1, m3, m15, m31, m127, maxes, o16, o32, o128, hq, hp, beq_self_eq_true, Int.reduceBEq, decide_true]; done))
      | (refine T.br_f ?_ ?_; focus (simp only [wn0, wn1, wn2, wn3, wn4, wn5, wn6, wn7, f9b, f10b, f1, f2, f3, f4, f5, f6, f7, f8, f9, f10, f11, g1, g2, g3, g4, g5, g6, w2, w4, w16, w32, w128, m1, m3, m15, m31, m127, maxes, o16, o32, o128, hq, hp, beq_self_eq_true, Int.reduceBEq, decide_false]; done))
    refine ⟨rfl, ?_⟩
    simp [beqd, AV.γ, V.γ, Sc.γ, Mb.wOn, Mb.wLow, Mb.wHigh, Mb.wMode, Mb.wLast, Mb.wHeld, wn0, wn1, wn2, wn3, wn4, wn5, wn6, wn7, f9b, f10b, f1, f2, f3, f4, f5, f6, f7, f8, f9, f10, f11, g1, g2, g3, g4, g5, g6, w2, w4, w16, w32, w128, m1, m3, m15, m31, m127, maxes, o16, o32, o128, hq, hp]
  · repeat' first
      | (refine T.br_t ?_ ?_; focus (simp [wn0, wn1, wn2, wn3, wn4, wn5, wn6, wn7, f9b, f10b, f1, f2, f3, f4, f5, f6, f7, f8, f9, f10, f11, g1, g2, g3, g4, g5, g6, w2, w4, w16, w32, w128, m1, m3, m15, m31, m127, maxes, o16, o32, o128, hq, hp]; done))
      | (refine T.br_f ?_ ?_; focus (simp [wn0, wn1, wn2, wn3, wn4, wn5, wn6, wn7, f9b, f10b, f1, f2, f3, f4, f5, f6, f7, f8, f9, f10, f11, g1, g2, g3, g4, g5, g6, w2, w4, w16, w32, w128, m1, m3, m15, m31, m127, maxes, o16, o32, o128, hq, hp]; done))
      | (refine T.br_t ?_ ?_; focus (simp only [wn0, wn1, wn2, wn3, wn4, wn5, wn6, wn7, f9b, f10b, f1, f2, f3, f4, f5, f6, f7, f8, f9, f10, f11, g1, g2, g3, g4, g5, g6, w2, w4, w16, w32, w128, m1, m3, m15, m31, m127, maxes, o16, o32, o128, hq, hp, beq_self_eq_true, Int.reduceBEq, decide_true]; done))
      | (refine T.br_f ?_ ?_; focus (simp only [wn0, wn1, wn2, wn3, wn4, wn5, wn6, wn7, f9b, f10b, f1, f2, f3, f4, f5, f6, f7, f8, f9, f10, f11, g1, g2, g3, g4, g5, g6, w2, w4, w16, w32, w128, m1, m3, m15, m31, m127, maxes, o16, o32, o128, hq, hp, beq_self_eq_true, Int.reduceBEq, decide_false]; done))
    refine ⟨rfl, ?_⟩
    simp [beqd, AV.γ, V.γ, Sc.γ, Mb.wOn, Mb.wLow, Mb.wHigh, Mb.wMode, Mb.wLast, Mb.wHeld, wn0, wn1, wn2, wn3, wn4, wn5, wn6, wn7, f9b, f10b, f1, f2, f3, f4, f5, f6, f7, f8, f9, f10, f11, g1, g2, g3, g4, g5, g6, w2, w4, w16, w32, w128, m1, m3, m15, m31, m127, maxes, o16, o32, o128, hq, hp]
  · repeat' first
      | (refine T.br_t ?_ ?_; focus (simp [wn0, wn1, wn2, wn3, wn4, wn5, wn6, wn7, f9b, f10b, f1, f2, f3, f4, f5, f6, f7, f8, f9, f10, f11, g1, g2, g3, g4, g5, g6, w2, w4, w16, w32, w128, m1, m3, m15, m31, m127, maxes, o16, o32, o128, hq, hp]; done))
      | (refine T.br_f ?_ ?_; focus (simp [wn0, wn1, wn2, wn3, wn4, wn5, wn6, wn7, f9b, f10b, f1, f2, f3, f4, f5, f6, f7, f8, f9, f10, f11, g1, g2, g3, g4, g5, g6, w2, w4, w16, w32, w128, m1, m3, m15, m31, m127, maxes, o16, o32, o128, hq, hp]; done))
      | (refine T.br_t ?_ ?_; focus (simp only [wn0, wn1, wn2, wn3, wn4, wn5, wn6, wn7, f9b, f10b, f1, f2, f3, f4, f5, f6, f7, f8, f9, f10, f11, g1, g2, g3, g4, g5, g6, w2, w4, w16, w32, w128, m1, m3, m15, m31, m127, maxes, o16, o32, o128, hq, hp, beq_self_eq_true, Int.reduceBEq, decide_true]; done))
      | (refine T.br_f ?_ ?_; focus (simp only [wn0, wn1, wn2, wn3, wn4, wn5, wn6, wn7, f9b, f10b, f1, f2, f3, f4, f5, f6, f7, f8, f9, f10, f11, g1, g2, g3, g4, g5, g6, w2, w4, w16, w32, w128, m1, m3, m15, m31, m127, maxes, o16, o32, o128, hq, hp, beq_self_eq_true, Int.reduceBEq, decide_false]; done))
    refine ⟨rfl, ?_⟩
    simp [beqd, AV.γ, V.γ, Sc.γ, Mb.wOn, Mb.wLow, Mb.wHigh, Mb.wMode, Mb.wLast, Mb.wHeld, wn0, wn1, wn2, wn3, wn4, wn5, wn6, wn7, f9b, f10b, f1, f2, f3, f4, f5, f6, f7, f8, f9, f10, f11, g1, g2, g3, g4, g5, g6, w2, w4, w16, w32, w128, m1, m3, m15, m31, m127, maxes, o16, o32, o128, hq, hp]
  · repeat' first
      | (refine T.br_t ?_ ?_; focus (simp [wn0, wn1, wn2, wn3, wn4, wn5, wn6, wn7, f9b, f10b, f1, f2, f3, f4, f5, f6, f7, f8, f9, f10, f11, g1, g2, g3, g4, g5, g6, w2, w4, w16, w32, w128, m1, m3, m15, m31, m127, maxes, o16, o32, o128, hq, hp]; done))
      | (refine T.br_f ?_ ?_; focus (simp [wn0, wn1, wn2, wn3, wn4, wn5, wn6, wn7, f9b, f10b, f1, f2, f3, f4, f5, f6, f7, f8, f9, f10, f11, g1, g2, g3, g4, g5, g6, w2, w4, w16, w32, w128, m1, m3, m15, m31, m127, maxes, o16, o32, o128, hq, hp]; done))
      | (refine T.br_t ?_ ?_; focus (simp only [wn0, wn1, wn2, wn3, wn4, wn5, wn6, wn7, f9b, f10b, f1, f2, f3, f4, f5, f6, f7, f8, f9, f10, f11, g1, g2, g3, g4, g5, g6, w2, w4, w16, w32, w128, m1, m3, m15, m31, m127, maxes, o16, o32, o128, hq, hp, beq_self_eq_true, Int.reduceBEq, decide_true]; done))
      | (refine T.br_f ?_ ?_; focus (simp only [wn0, wn1, wn2, wn3, wn4, wn5, wn6, wn7, f9b, f10b, f1, f2, f3, f4, f5, f6, f7, f8, f9, f10, f11, g1, g2, g3, g4, g5, g6, w2, w4, w16, w32, w128, m1, m3, m15, m31, m127, maxes, o16, o32, o128, hq, hp, beq_self_eq_true, Int.reduceBEq, decide_false]; done))
    refine ⟨rfl, ?_⟩
    simp [beqd, AV.γ, V.γ, Sc.γ, Mb.wOn, Mb.wLow, Mb.wHigh, Mb.wMode, Mb.wLast, Mb.wHeld, wn0, wn1, wn2, wn3, wn4, wn5, wn6, wn7, f9b, f10b, f1, f2, f3, f4, f5, f6, f7, f8, f9, f10, f11, g1, g2, g3, g4, g5, g6, w2, w4, w16, w32, w128, m1, m3, m15, m31, m127, maxes, o16, o32, o128, hq, hp]
  · repeat' first
      | (refine T.br_t ?_ ?_; focus (simp [wn0, wn1, wn2, wn3, wn4, wn5, wn6, wn7, f9b, f10b, f1, f2, f3, f4, f5, f6, f7, f8, f9, f10, f11, g1, g2, g3, g4, g5, g6, w2, w4, w16, w32, w128, m1, m3, m15, m31, m127, maxes, o16, o32, o128, hq, hp]; done))
      | (refine T.br_f ?_ ?_; focus (simp [wn0, wn1, wn2, wn3, wn4, wn5, wn6, wn7, f9b, f10b, f1, f2, f3, f4, f5, f6, f7, f8, f9, f10, f11, g1, g2, g3, g4, g5, g6, w2, w4, w16, w32, w128, m1, m3, m15, m31, m127, maxes, o16, o32, o128, hq, hp]; done))
      | (refine T.br_t ?_ ?_; focus (simp only [wn0, wn1, wn2, wn3, wn4, wn5, wn6, wn7, f9b, f10b, f1, f2, f3, f4, f5, f6, f7, f8, f9, f10, f11, g1, g2, g3, g4, g5, g6, w2, w4, w16, w32, w128, m1, m3, m15, m31, m127, maxes, o16, o32, o128, hq, hp, beq_self_eq_true, Int.reduceBEq, decide_true]; done))
      | (refine T.br_f ?_ ?_; focus (simp only [wn0, wn1, wn2, wn3, wn4, wn5, wn6, wn7, f9b, f10b, f1, f2, f3, f4, f5, f6, f7, f8, f9, f10, f11, g1, g2, g3, g4, g5, g6, w2, w4, w16, w32, w128, m1, m3, m15, m31, m127, maxes, o16, o32, o128, hq, hp, beq_self_eq_true, Int.reduceBEq, decide_false]; done))
    refine ⟨rfl, ?_⟩
    simp [beqd, AV.γ, V.γ, Sc.γ, Mb.wOn, Mb.wLow, Mb.wHigh, Mb.wMode, Mb.wLast, Mb.wHeld, wn0, wn1, wn2, wn3, wn4, wn5, wn6, wn7, f9b, f10b, f1, f2, f3, f4, f5, f6, f7, f8, f9, f10, f11, g1, g2, g3, g4, g5, g6, w2, w4, w16, w32, w128, m1, m3, m15, m31, m127, maxes, o16, o32, o128, hq, hp]
set_option maxHeartbeats 4000000 in
theorem write2_any (w : World) (banks ram : Int) (on mode : Bool) (low high last : Int) (a x : Int) (ba : Mb.W a) (bx : Mb.B x) (bl : 0 ≤ low ∧ low < 512) : Calls Try.prog 12 #[.agg #[.int .i64 2, .int .i64 banks, .int .i64 ram, .bool on, .bool mode, .int .i64 low, .int .i64 high, .int .u8 last], .int .u16 a, .int .u8 x] w fun e w' => e = .returned (.tuple #[.agg #[.int .i64 2, .int .i64 banks, .int .i64 ram, .bool (Mb.wOn 2 a x on), .bool (Mb.wMode 2 a x mode), .int .i64 (Mb.wLow 2 a x low), .int .i64 (Mb.wHigh 2 a x high), .int .u8 (Mb.wLast 2 a x last)], .bool (Mb.wHeld 2 a x last)]) ∧ Below w.heap.size w w' := by
  refine val_eq base2 (ctrs_none _ _) (loops_none _ _) (write2_tree w banks ram on mode low high last a x) rfl ?_
  have h2 : a / 256 % 2 = 0 ∨ a / 256 % 2 = 1 := by omega
  have h0 : (a % 32768 < 16384 ∧ ¬ 16384 ≤ a % 32768) ∨ (¬ a % 32768 < 16384 ∧ 16384 ≤ a % 32768) := by omega
  have f9b := fa_f9b ba
  have f10b := fa_f10b ba
  obtain ⟨m1, m3, m15, m31, m127⟩ := masks bx
  have f1 := fa_f1 ba
  have f2 := fa_f2 ba
  have f3 := fa_f3 ba
  have f4 := fa_f4 ba
  have f5 := fa_f5 ba
  have f6 := fa_f6 ba
  have f7 := fa_f7 ba
  have f8 := fa_f8 ba
  have f9 := fa_f9 ba
  have f10 := fa_f10 ba
  have f11 := mid8 ba
  have g1 := fa_g1 bx
  have g2 := fa_g2 bx
  have g3 := fa_g3 bx
  have g4 := fa_g4 bx
  have g5 := fa_g5 bx
  have g6 := fa_g6 bx
  have w2 := fa_w2 bx
  have w4 := fa_w4 bx
  have w16 := fa_w16 bx
  have w32 := fa_w32 bx
  have w128 := fa_w128 bx
  have o16 := fa_o16 bx
  have o32 := fa_o32 bx
  have o128 := fa_o128 bx
  rcases h0 with ⟨h1, h1'⟩ | ⟨h1, h1'⟩
  · rcases h2 with h2 | h2
    · repeat' first
        | (refine T.br_t ?_ ?_; focus (simp [wn0, wn1, wn2, wn3, wn4, wn5, wn6, wn7, f9b, f10b, f1, f2, f3, f4, f5, f6, f7, f8, f9, f10, f11, g1, g2, g3, g4, g5, g6, w2, w4, w16, w32, w128, m1, m3, m15, m31, m127, maxes, o16, o32, o128, h1, h1', h2]; done))
        | (refine T.br_f ?_ ?_; focus (simp [wn0, wn1, wn2, wn3, wn4, wn5, wn6, wn7, f9b, f10b, f1, f2, f3, f4, f5, f6, f7, f8, f9, f10, f11, g1, g2, g3, g4, g5, g6, w2, w4, w16, w32, w128, m1, m3, m15, m31, m127, maxes, o16, o32, o128, h1, h1', h2]; done))
        | (refine T.br_t ?_ ?_; focus (simp only [wn0, wn1, wn2, wn3, wn4, wn5, wn6, wn7, f9b, f10b, f1, f2, f3, f4, f5, f6, f7, f8, f9, f10, f11, g1, g2, g3, g4, g5, g6, w2, w4, w16, w32, w128, m1, m3, m15, m31, m127, maxes, o16, o32, o128, h1, h1', h2, beq_self_eq_true, Int.reduceBEq, decide_true]; done))
        | (refine T.br_f ?_ ?_; focus (simp only [wn0, wn1, wn2, wn3, wn4, wn5, wn6, wn7, f9b, f10b, f1, f2, f3, f4, f5, f6, f7, f8, f9, f10, f11, g1, g2, g3, g4, g5, g6, w2, w4, w16, w32, w128, m1, m3, m15, m31, m127, maxes, o16, o32, o128, h1, h1', h2, beq_self_eq_true, Int.reduceBEq, decide_false]; done))
      refine ⟨rfl, ?_⟩
      simp [beqd, AV.γ, V.γ, Sc.γ, Mb.wOn, Mb.wLow, Mb.wHigh, Mb.wMode, Mb.wLast, Mb.wHeld, wn0, wn1, wn2, wn3, wn4, wn5, wn6, wn7, f9b, f10b, f1, f2, f3, f4, f5, f6, f7, f8, f9, f10, f11, g1, g2, g3, g4, g5, g6, w2, w4, w16, w32, w128, m1, m3, m15, m31, m127, maxes, o16, o32, o128, h1, h1', h2]
    · repeat' first
        | (refine T.br_t ?_ ?_; focus (simp [wn0, wn1, wn2, wn3, wn4, wn5, wn6, wn7, f9b, f10b, f1, f2, f3, f4, f5, f6, f7, f8, f9, f10, f11, g1, g2, g3, g4, g5, g6, w2, w4, w16, w32, w128, m1, m3, m15, m31, m127, maxes, o16, o32, o128, h1, h1', h2]; done))
        | (refine T.br_f ?_ ?_; focus (simp [wn0, wn1, wn2, wn3, wn4, wn5, wn6, wn7, f9b, f10b, f1, f2, f3, f4, f5, f6, f7, f8, f9, f10, f11, g1, g2, g3, g4, g5, g6, w2, w4, w16, w32, w128, m1, m3, m15, m31, m127, maxes, o16, o32, o128, h1, h1', h2]; done))
        | (refine T.br_t ?_ ?_; focus (simp only [wn0, wn1, wn2, wn3, wn4, wn5, wn6, wn7, f9b, f10b, f1, f2, f3, f4, f5, f6, f7, f8, f9, f10, f11, g1, g2, g3, g4, g5, g6, w2, w4, w16, w32, w128, m1, m3, m15, m31, m127, maxes, o16, o32, o128, h1, h1', h2, beq_self_eq_true, Int.reduceBEq, decide_true]; done))
        | (refine T.br_f ?_ ?_; focus (simp only [wn0, wn1, wn2, wn3, wn4, wn5, wn6, wn7, f9b, f10b, f1, f2, f3, f4, f5, f6, f7, f8, f9, f10, f11, g1, g2, g3, g4, g5, g6, w2, w4, w16, w32, w128, m1, m3, m15, m31, m127, maxes, o16, o32, o128, h1, h1', h2, beq_self_eq_true, Int.reduceBEq, decide_false]; done))
      refine ⟨rfl, ?_⟩
      simp [beqd, AV.γ, V.γ, Sc.γ, Mb.wOn, Mb.wLow, Mb.wHigh, Mb.wMode, Mb.wLast, Mb.wHeld, wn0, wn1, wn2, wn3, wn4, wn5, wn6, wn7, f9b, f10b, f1, f2, f3, f4, f5, f6, f7, f8, f9, f10, f11, g1, g2, g3, g4, g5, g6, w2, w4, w16, w32, w128, m1, m3, m15, m31, m127, maxes, o16, o32, o128, h1, h1', h2]
  · repeat' first
      | (refine T.br_t ?_ ?_; focus (simp [wn0, wn1, wn2, wn3, wn4, wn5, wn6, wn7, f9b, f10b, f1, f2, f3, f4, f5, f6, f7, f8, f9, f10, f11, g1, g2, g3, g4, g5, g6, w2, w4, w16, w32, w128, m1, m3, m15, m31, m127, maxes, o16, o32, o128, h1, h1']; done))
      | (refine T.br_f ?_ ?_; focus (simp [wn0, wn1, wn2, wn3, wn4, wn5, wn6, wn7, f9b, f10b, f1, f2, f3, f4, f5, f6, f7, f8, f9, f10, f11, g1, g2, g3, g4, g5, g6, w2, w4, w16, w32, w128, m1, m3, m15, m31, m127, maxes, o16, o32, o128, h1, h1']; done))
      | (refine T.br_t ?_ ?_; focus (simp only [wn0, wn1, wn2, wn3, wn4, wn5, wn6, wn7, f9b, f10b, f1, f2, f3, f4, f5, f6, f7, f8, f9, f10, f11, g1, g2, g3, g4, g5, g6, w2, w4, w16, w32, w128, m1, m3, m15, m31, m127, maxes, o16, o32, o128, h1, h1', beq_self_eq_true, Int.reduceBEq, decide_true]; done))
      | (refine T.br_f ?_ ?_; focus (simp only [wn0, wn1, wn2, wn3, wn4, wn5, wn6, wn7, f9b, f10b, f1, f2, f3, f4, f5, f6, f7, f8, f9, f10, f11, g1, g2, g3, g4, g5, g6, w2, w4, w16, w32, w128, m1, m3, m15, m31, m127, maxes, o16, o32, o128, h1, h1', beq_self_eq_true, Int.reduceBEq, decide_false]; done))
    refine ⟨rfl, ?_⟩
    simp [beqd, AV.γ, V.γ, Sc.γ, Mb.wOn, Mb.wLow, Mb.wHigh, Mb.wMode, Mb.wLast, Mb.wHeld, wn0, wn1, wn2, wn3, wn4, wn5, wn6, wn7, f9b, f10b, f1, f2, f3, f4, f5, f6, f7, f8, f9, f10, f11, g1, g2, g3, g4, g5, g6, w2, w4, w16, w32, w128, m1, m3, m15, m31, m127, maxes, o16, o32, o128, h1, h1']
set_option maxHeartbeats 4000000 in
theorem write3_any (w : World) (banks ram : Int) (on mode : Bool) (low high last : Int) (a x : Int) (ba : Mb.W a) (bx : Mb.B x) (bl : 0 ≤ low ∧ low < 512) : Calls Try.prog 12 #[.agg #[.int .i64 3, .int .i64 banks, .int .i64 ram, .bool on, .bool mode, .int .i64 low, .int .i64 high, .int .u8 last], .int .u16 a, .int .u8 x] w fun e w' => e = .returned (.tuple #[.agg #[.int .i64 3, .int .i64 banks, .int .i64 ram, .bool (Mb.wOn 3 a x on), .bool (Mb.wMode 3 a x mode), .int .i64 (Mb.wLow 3 a x low), .int .i64 (Mb.wHigh 3 a x high), .int .u8 (Mb.wLast 3 a x last)], .bool (Mb.wHeld 3 a x last)]) ∧ Below w.heap.size w w' := by
  refine val_eq base2 (ctrs_none _ _) (loops_none _ _) (write3_tree w banks ram on mode low high last a x) rfl ?_
  have hq : (a / 4096 % 8 = 0 ∧ a / 8192 % 4 = 0) ∨ (a / 4096 % 8 = 1 ∧ a / 8192 % 4 = 0) ∨ (a / 4096 % 8 = 2 ∧ a / 8192 % 4 = 1) ∨ (a / 4096 % 8 = 3 ∧ a / 8192 % 4 = 1) ∨ (a / 4096 % 8 = 4 ∧ a / 8192 % 4 = 2) ∨ (a / 4096 % 8 = 5 ∧ a / 8192 % 4 = 2) ∨ (a / 4096 % 8 = 6 ∧ a / 8192 % 4 = 3) ∨ (a / 4096 % 8 = 7 ∧ a / 8192 % 4 = 3) := by omega
  have f9b := fa_f9b ba
  have f10b := fa_f10b ba
  obtain ⟨m1, m3, m15, m31, m127⟩ := masks bx
  have f1 := fa_f1 ba
  have f2 := fa_f2 ba
  have f3 := fa_f3 ba
  have f4 := fa_f4 ba
  have f5 := fa_f5 ba
  have f6 := fa_f6 ba
  have f7 := fa_f7 ba
  have f8 := fa_f8 ba
  have f9 := fa_f9 ba
  have f10 := fa_f10 ba
  have f11 := mid8 ba
  have g1 := fa_g1 bx
  have g2 := fa_g2 bx
  have g3 := fa_g3 bx
  have g4 := fa_g4 bx
  have g5 := fa_g5 bx
  have g6 := fa_g6 bx
  have w2 := fa_w2 bx
  have w4 := fa_w4 bx
  have w16 := fa_w16 bx
  have w32 := fa_w32 bx
  have w128 := fa_w128 bx
  have o16 := fa_o16 bx
  have o32 := fa_o32 bx
  have o128 := fa_o128 bx
  rcases hq with ⟨hq, hp⟩ | ⟨hq, hp⟩ | ⟨hq, hp⟩ | ⟨hq, hp⟩ | ⟨hq, hp⟩ | ⟨hq, hp⟩ | ⟨hq, hp⟩ | ⟨hq, hp⟩
  · repeat' first
      | (refine T.br_t ?_ ?_; focus (simp [wn0, wn1, wn2, wn3, wn4, wn5, wn6, wn7, f9b, f10b, f1, f2, f3, f4, f5, f6, f7, f8, f9, f10, f11, g1, g2, g3, g4, g5, g6, w2, w4, w16, w32, w128, m1, m3, m15, m31, m127, maxes, o16, o32, o128, hq, hp]; done))
      | (refine T.br_f ?_ ?_; focus (simp [wn0, wn1, wn2, wn3, wn4, wn5, wn6, wn7, f9b, f10b, f1, f2, f3, f4, f5, f6, f7, f8, f9, f10, f11, g1, g2, g3, g4, g5, g6, w2, w4, w16, w32, w128, m1, m3, m15, m31, m127, maxes, o16, o32, o128, hq, hp]; done))
      | (refine T.br_t ?_ ?_; focus (simp only [wn0, wn1, wn2, wn3, wn4, wn5, wn6, wn7, f9b, f10b, f1, f2, f3, f4, f5, f6, f7, f8, f9, f10, f11, g1, g2, g3, g4, g5, g6, w2, w4, w16, w32, w128, m1, m3, m15, m31, m127, maxes, o16, o32, o128, hq, hp, beq_self_eq_true, Int.reduceBEq, decide_true]; done))
      | (refine T.br_f ?_ ?_; focus (simp only [wn0, wn1, wn2, wn3, wn4, wn5, wn6, wn7, f9b, f10b, f1, f2, f3, f4, f5, f6, f7, f8, f9, f10, f11, g1, g2, g3, g4, g5, g6, w2, w4, w16, w32, w128, m1, m3, m15, m31, m127, maxes, o16, o32, o128, hq, hp, beq_self_eq_true, Int.reduceBEq, decide_false]; done))
    refine ⟨rfl, ?_⟩
    simp [beqd, AV.γ, V.γ, Sc.γ, Mb.wOn, Mb.wLow, Mb.wHigh, Mb.wMode, Mb.wLast, Mb.wHeld, wn0, wn1, wn2, wn3, wn4, wn5, wn6, wn7, f9b, f10b, f1, f2, f3, f4, f5, f6, f7, f8, f9, f10, f11, g1, g2, g3, g4, g5, g6, w2, w4, w16, w32, w128, m1, m3, m15, m31, m127, maxes, o16, o32, o128, hq, hp]
  · repeat' first
      | (refine T.br_t ?_ ?_; focus (simp [wn0, wn1, wn2, wn3, wn4, wn5, wn6, wn7, f9b, f10b, f1, f2, f3, f4, f5, f6, f7, f8, f9, f10, f11, g1, g2, g3, g4, g5, g6, w2, w4, w16, w32, w128, m1, m3, m15, m31, m127, maxes, o16, o32, o128, hq, hp]; done))
      | (refine T.br_f ?_ ?_; focus (simp [wn0, wn1, wn2, wn3, wn4, wn5, wn6, wn7, f9b, f10b, f1, f2, f3, f4, f5, f6, f7, f8, f9, f10, f11, g1, g2, g3, g4, g5, g6, w2, w4, w16, w32, w128, m1, m3, m15, m31, m127, maxes, o16, o32, o128, hq, hp]; done))
      | (refine T.br_t ?_ ?_; focus (simp only [wn0, wn1, wn2, wn3, wn4, wn5, wn6, wn7, f9b, f10b, f1, f2, f3, f4, f5, f6, f7, f8, f9, f10, f11, g1, g2, g3, g4, g5, g6, w2, w4, w16, w32, w128, m1, m3, m15, m31, m127, maxes, o16, o32, o128, hq, hp, beq_self_eq_true, Int.reduceBEq, decide_true]; done))
      | (refine T.br_f ?_ ?_; focus (simp only [wn0, wn1, wn2, wn3, wn4, wn5, wn6, wn7, f9b, f10b, f1, f2, f3, f4, f5, f6, f7, f8, f9, f10, f11, g1, g2, g3, g4, g5, g6, w2, w4, w16, w32, w128, m1, m3, m15, m31, m127, maxes, o16, o32, o128, hq, hp, beq_self_eq_true, Int.reduceBEq, decide_false]; done))
    refine ⟨rfl, ?_⟩
    simp [beqd, AV.γ, V.γ, Sc.γ, Mb.wOn, Mb.wLow, Mb.wHigh, Mb.wMode, Mb.wLast, Mb.wHeld, wn0, wn1, wn2, wn3, wn4, wn5, wn6, wn7, f9b, f10b, f1, f2, f3, f4, f5, f6, f7, f8, f9, f10, f11, g1, g2, g3, g4, g5, g6, w2, w4, w16, w32, w128, m1, m3, m15, m31, m127, maxes, o16, o32, o128, hq, hp]
  · repeat' first
      | (refine T.br_t ?_ ?_; focus (simp [wn0, wn1, wn2, wn3, wn4, wn5, wn6, wn7, f9b, f10b, f1, f2, f3, f4, f5, f6, f7, f8, f9, f10, f11, g1, g2, g3, g4, g5, g6, w2, w4, w16, w32, w128, m1, m3, m15, m31, m127, maxes, o16, o32, o128, hq, hp]; done))
      | (refine T.br_f ?_ ?_; focus (simp [wn0, wn1, wn2, wn3, wn4, wn5, wn6, wn7, f9b, f10b, f1, f2, f3, f4, f5, f6, f7, f8, f9, f10, f11, g1, g2, g3, g4, g5, g6, w2, w4, w16, w32, w128, m1, m3, m15, m31, m127, maxes, o16, o32, o128, hq, hp]; done))
      | (refine T.br_t ?_ ?_; focus (simp only [wn0, wn1, wn2, wn3, wn4, wn5, wn6, wn7, f9b, f10b, f1, f2, f3, f4, f5, f6, f7, f8, f9, f10, f11, g1, g2, g3, g4, g5, g6, w2, w4, w16, w32, w128, m1, m3, m15, m31, m127, maxes, o16, o32, o128, hq, hp, beq_self_eq_true, Int.reduceBEq, decide_true]; done))
      | (refine T.br_f ?_ ?_; focus (simp only [wn0, wn1, wn2, wn3, wn4, wn5, wn6, wn7, f9b, f10b, f1, f2, f3, f4, f5, f6, f7, f8, f9, f10, f11, g1, g2, g3, g4, g5, g6, w2, w4, w16, w32, w128, m1, m3, m15, m31, m127, maxes, o16, o32, o128, hq, hp, beq_self_eq_true, Int.reduceBEq, decide_false]; done))
    refine ⟨rfl, ?_⟩
    simp [beqd, AV.γ, V.γ, Sc.γ, Mb.wOn, Mb.wLow, Mb.wHigh, Mb.wMode, Mb.wLast, Mb.wHeld, wn0, wn1, wn2, wn3, wn4, wn5, wn6, wn7, f9b, f10b, f1, f2, f3, f4, f5, f6, f7, f8, f9, f10, f11, g1, g2, g3, g4, g5, g6, w2, w4, w16, w32, w128, m1, m3, m15, m31, m127, maxes, o16, o32, o128, hq, hp]
  · repeat' first
      | (refine T.br_t ?_ ?_; focus (simp [wn0, wn1, wn2, wn3, wn4, wn5, wn6, wn7, f9b, f10b, f1, f2, f3, f4, f5, f6, f7, f8, f9, f10, f11, g1, g2, g3, g4, g5, g6, w2, w4, w16, w32, w128, m1, m3, m15, m31, m127, maxes, o16, o32, o128, hq, hp]; done))
      | (refine T.br_f ?_ ?_; focus (simp [wn0, wn1, wn2, wn3, wn4, wn5, wn6, wn7, f9b, f10b, f1, f2, f3, f4, f5, f6, f7, f8, f9, f10, f11, g1, g2, g3, g4, g5, g6, w2, w4, w16, w32, w128, m1, m3, m15, m31, m127, maxes, o16, o32, o128, hq, hp]; done))
      | (refine T.br_t ?_ ?_; focus (simp only [wn0, wn1, wn2, wn3, wn4, wn5, wn6, wn7, f9b, f10b, f1, f2, f3, f4, f5, f6, f7, f8, f9, f10, f11, g1, g2, g3, g4, g5, g6, w2, w4, w16, w32, w128, m1, m3, m15, m31, m127, maxes, o16, o32, o128, hq, hp, beq_self_eq_true, Int.reduceBEq, decide_true]; done))
      | (refine T.br_f ?_ ?_; focus (simp only [wn0, wn1, wn2, wn3, wn4, wn5, wn6, wn7, f9b, f10b, f1, f2, f3, f4, f5, f6, f7, f8, f9, f10, f11, g1, g2, g3, g4, g5, g6, w2, w4, w16, w32, w128, m1, m3, m15, m31, m127, maxes, o16, o32, o128, hq, hp, beq_self_eq_true, Int.reduceBEq, decide_false]; done))
    refine ⟨rfl, ?_⟩
    simp [beqd, AV.γ, V.γ, Sc.γ, Mb.wOn, Mb.wLow, Mb.wHigh, Mb.wMode, Mb.wLast, Mb.wHeld, wn0, wn1, wn2, wn3, wn4, wn5, wn6, wn7, f9b, f10b, f1, f2, f3, f4, f5, f6, f7, f8, f9, f10, f11, g1, g2, g3, g4, g5, g6, w2, w4, w16, w32, w128, m1, m3, m15, m31, m127, maxes, o16, o32, o128, hq, hp]
  · repeat' first
      | (refine T.br_t ?_ ?_; focus (simp [wn0, wn1, wn2, wn3, wn4, wn5, wn6, wn7, f9b, f10b, f1, f2, f3, f4, f5, f6, f7, f8, f9, f10, f11, g1, g2, g3, g4, g5, g6, w2, w4, w16, w32, w128, m1, m3, m15, m31, m127, maxes, o16, o32, o128, hq, hp]; done))
      | (refine T.br_f ?_ ?_; focus (simp [wn0, wn1, wn2, wn3, wn4, wn5, wn6, wn7, f9b, f10b, f1, f2, f3, f4, f5, f6, f7, f8, f9, f10, f11, g1, g2, g3, g4, g5, g6, w2, w4, w16, w32, w128, m1, m3, m15, m31, m127, maxes, o16, o32, o128, hq, hp]; done))
      | (refine T.br_t ?_ ?_; focus (simp only [wn0, wn1, wn2, wn3, wn4, wn5, wn6, wn7, f9b, f10b, f1, f2, f3, f4, f5, f6, f7, f8, f9, f10, f11, g1, g2, g3, g4, g5, g6, w2, w4, w16, w32, w128, m1, m3, m15, m31, m127, maxes, o16, o32, o128, hq, hp, beq_self_eq_true, Int.reduceBEq, decide_true]; done))
      | (refine T.br_f ?_ ?_; focus (simp only [wn0, wn1, wn2, wn3, wn4, wn5, wn6, wn7, f9b, f10b, f1, f2, f3, f4, f5, f6, f7, f8, f9, f10, f11, g1, g2, g3, g4, g5, g6, w2, w4, w16, w32, w128, m1, m3, m15, m31, m127, maxes, o16, o32, o128, hq, hp, beq_self_eq_true, Int.reduceBEq, decide_false]; done))
    refine ⟨rfl, ?_⟩
    simp [beqd, AV.γ, V.γ, Sc.γ, Mb.wOn, Mb.wLow, Mb.wHigh, Mb.wMode, Mb.wLast, Mb.wHeld, wn0, wn1, wn2, wn3, wn4, wn5, wn6, wn7, f9b, f10b, f1, f2, f3, f4, f5, f6, f7, f8, f9, f10, f11, g1, g2, g3, g4, g5, g6, w2, w4, w16, w32, w128, m1, m3, m15, m31, m127, maxes, o16, o32, o128, hq, hp]
  · repeat' first
      | (refine T.br_t ?_ ?_; focus (simp [wn0, wn1, wn2, wn3, wn4, wn5, wn6, wn7, f9b, f10b, f1, f2, f3, f4, f5, f6, f7, f8, f9, f10, f11, g1, g2, g3, g4, g5, g6, w2, w4, w16, w32, w128, m1, m3, m15, m31, m127, maxes, o16, o32, o128, hq, hp]; done))
      | (refine T.br_f ?_ ?_; focus (simp [wn0, wn1, wn2, wn3, wn4, wn5, wn6, wn7, f9b, f10b, f1, f2, f3, f4, f5, f6, f7, f8, f9, f10, f11, g1, g2, g3, g4, g5, g6, w2, w4, w16, w32, w128, m1, m3, m15, m31, m127, maxes, o16, o32, o128, hq, hp]; done))
      | (refine T.br_t ?_ ?_; focus (simp only [wn0, wn1, wn2, wn3, wn4, wn5, wn6, wn7, f9b, f10b, f1, f2, f3, f4, f5, f6, f7, f8, f9, f10, f11, g1, g2, g3, g4, g5, g6, w2, w4, w16, w32, w128, m1, m3, m15, m31, m127, maxes, o16, o32, o128, hq, hp, beq_self_eq_true, Int.reduceBEq, decide_true]; done))
      | (refine T.br_f ?_ ?_; focus (simp only [wn0, wn1, wn2, wn3, wn4, wn5, wn6, wn7, f9b, f10b, f1, f2, f3, f4, f5, f6, f7, f8, f9, f10, f11, g1, g2, g3, g4, g5, g6, w2, w4, w16, w32, w128, m1, m3, m15, m31, m127, maxes, o16, o32, o128, hq, hp, beq_self_eq_true, Int.reduceBEq, decide_false]; done))
    refine ⟨rfl, ?_⟩
    simp [beqd, AV.γ, V.γ, Sc.γ, Mb.wOn, Mb.wLow, Mb.wHigh, Mb.wMode, Mb.wLast, Mb.wHeld, wn0, wn1, wn2, wn3, wn4, wn5, wn6, wn7, f9b, f10b, f1, f2, f3, f4, f5, f6, f7, f8, f9, f10, f11, g1, g2, g3, g4, g5, g6, w2, w4, w16, w32, w128, m1, m3, m15, m31, m127, maxes, o16, o32, o128, hq, hp]
  · by_cases hl : last = 0
    · repeat' first
        | (refine T.br_t ?_ ?_; focus (simp [wn0, wn1, wn2, wn3, wn4, wn5, wn6, wn7, f9b, f10b, f1, f2, f3, f4, f5, f6, f7, f8, f9, f10, f11, g1, g2, g3, g4, g5, g6, w2, w4, w16, w32, w128, m1, m3, m15, m31, m127, maxes, o16, o32, o128, hq, hp, hl]; done))
        | (refine T.br_f ?_ ?_; focus (simp [wn0, wn1, wn2, wn3, wn4, wn5, wn6, wn7, f9b, f10b, f1, f2, f3, f4, f5, f6, f7, f8, f9, f10, f11, g1, g2, g3, g4, g5, g6, w2, w4, w16, w32, w128, m1, m3, m15, m31, m127, maxes, o16, o32, o128, hq, hp, hl]; done))
        | (refine T.br_t ?_ ?_; focus (simp only [wn0, wn1, wn2, wn3, wn4, wn5, wn6, wn7, f9b, f10b, f1, f2, f3, f4, f5, f6, f7, f8, f9, f10, f11, g1, g2, g3, g4, g5, g6, w2, w4, w16, w32, w128, m1, m3, m15, m31, m127, maxes, o16, o32, o128, hq, hp, hl, beq_self_eq_true, Int.reduceBEq, decide_true]; done))
        | (refine T.br_f ?_ ?_; focus (simp only [wn0, wn1, wn2, wn3, wn4, wn5, wn6, wn7, f9b, f10b, f1, f2, f3, f4, f5, f6, f7, f8, f9, f10, f11, g1, g2, g3, g4, g5, g6, w2, w4, w16, w32, w128, m1, m3, m15, m31, m127, maxes, o16, o32, o128, hq, hp, hl, beq_self_eq_true, Int.reduceBEq, decide_false]; done))
      refine ⟨rfl, ?_⟩
      simp [beqd, AV.γ, V.γ, Sc.γ, Mb.wOn, Mb.wLow, Mb.wHigh, Mb.wMode, Mb.wLast, Mb.wHeld, wn0, wn1, wn2, wn3, wn4, wn5, wn6, wn7, f9b, f10b, f1, f2, f3, f4, f5, f6, f7, f8, f9, f10, f11, g1, g2, g3, g4, g5, g6, w2, w4, w16, w32, w128, m1, m3, m15, m31, m127, maxes, o16, o32, o128, hq, hp, hl]
    · repeat' first
        | (refine T.br_t ?_ ?_; focus (simp [wn0, wn1, wn2, wn3, wn4, wn5, wn6, wn7, f9b, f10b, f1, f2, f3, f4, f5, f6, f7, f8, f9, f10, f11, g1, g2, g3, g4, g5, g6, w2, w4, w16, w32, w128, m1, m3, m15, m31, m127, maxes, o16, o32, o128, hq, hp, hl]; done))
        | (refine T.br_f ?_ ?_; focus (simp [wn0, wn1, wn2, wn3, wn4, wn5, wn6, wn7, f9b, f10b, f1, f2, f3, f4, f5, f6, f7, f8, f9, f10, f11, g1, g2, g3, g4, g5, g6, w2, w4, w16, w32, w128, m1, m3, m15, m31, m127, maxes, o16, o32, o128, hq, hp, hl]; done))
        | (refine T.br_t ?_ ?_; focus (simp only [wn0, wn1, wn2, wn3, wn4, wn5, wn6, wn7, f9b, f10b, f1, f2, f3, f4, f5, f6, f7, f8, f9, f10, f11, g1, g2, g3, g4, g5, g6, w2, w4, w16, w32, w128, m1, m3, m15, m31, m127, maxes, o16, o32, o128, hq, hp, hl, beq_self_eq_true, Int.reduceBEq, decide_true]; done))
        | (refine T.br_f ?_ ?_; focus (simp only [wn0, wn1, wn2, wn3, wn4, wn5, wn6, wn7, f9b, f10b, f1, f2, f3, f4, f5, f6, f7, f8, f9, f10, f11, g1, g2, g3, g4, g5, g6, w2, w4, w16, w32, w128, m1, m3, m15, m31, m127, maxes, o16, o32, o128, hq, hp, hl, beq_self_eq_true, Int.reduceBEq, decide_false]; done))
      refine ⟨rfl, ?_⟩
      simp [beqd, AV.γ, V.γ, Sc.γ, Mb.wOn, Mb.wLow, Mb.wHigh, Mb.wMode, Mb.wLast, Mb.wHeld, wn0, wn1, wn2, wn3, wn4, wn5, wn6, wn7, f9b, f10b, f1, f2, f3, f4, f5, f6, f7, f8, f9, f10, f11, g1, g2, g3, g4, g5, g6, w2, w4, w16, w32, w128, m1, m3, m15, m31, m127, maxes, o16, o32, o128, hq, hp, hl]
  · by_cases hl : last = 0
    · repeat' first
        | (refine T.br_t ?_ ?_; focus (simp [wn0, wn1, wn2, wn3, wn4, wn5, wn6, wn7, f9b, f10b, f1, f2, f3, f4, f5, f6, f7, f8, f9, f10, f11, g1, g2, g3, g4, g5, g6, w2, w4, w16, w32, w128, m1, m3, m15, m31, m127, maxes, o16, o32, o128, hq, hp, hl]; done))
        | (refine T.br_f ?_ ?_; focus (simp [wn0, wn1, wn2, wn3, wn4, wn5, wn6, wn7, f9b, f10b, f1, f2, f3, f4, f5, f6, f7, f8, f9, f10, f11, g1, g2, g3, g4, g5, g6, w2, w4, w16, w32, w128, m1, m3, m15, m31, m127, maxes, o16, o32, o128, hq, hp, hl]; done))
        | (refine T.br_t ?_ ?_; focus (simp only [wn0, wn1, wn2, wn3, wn4, wn5, wn6, wn7, f9b, f10b, f1, f2, f3, f4, f5, f6, f7, f8, f9, f10, f11, g1, g2, g3, g4, g5, g6, w2, w4, w16, w32, w128, m1, m3, m15, m31, m127, maxes, o16, o32, o128, hq, hp, hl, beq_self_eq_true, Int.reduceBEq, decide_true]; done))
        | (refine T.br_f ?_ ?_; focus (simp only [wn0, wn1, wn2, wn3, wn4, wn5, wn6, wn7, f9b, f10b, f1, f2, f3, f4, f5, f6, f7, f8, f9, f10, f11, g1, g2, g3, g4, g5, g6, w2, w4, w16, w32, w128, m1, m3, m15, m31, m127, maxes, o16, o32, o128, hq, hp, hl, beq_self_eq_true, Int.reduceBEq, decide_false]; done))
      refine ⟨rfl, ?_⟩
      simp [beqd, AV.γ, V.γ, Sc.γ, Mb.wOn, Mb.wLow, Mb.wHigh, Mb.wMode, Mb.wLast, Mb.wHeld, wn0, wn1, wn2, wn3, wn4, wn5, wn6, wn7, f9b, f10b, f1, f2, f3, f4, f5, f6, f7, f8, f9, f10, f11, g1, g2, g3, g4, g5, g6, w2, w4, w16, w32, w128, m1, m3, m15, m31, m127, maxes, o16, o32, o128, hq, hp, hl]
    · repeat' first
        | (refine T.br_t ?_ ?_; focus (simp [wn0, wn1, wn2, wn3, wn4, wn5, wn6, wn7, f9b, f10b, f1, f2, f3, f4, f5, f6, f7, f8, f9, f10, f11, g1, g2, g3, g4, g5, g6, w2, w4, w16, w32, w128, m1, m3, m15, m31, m127, maxes, o16, o32, o128, hq, hp, hl]; done))
        | (refine T.br_f ?_ ?_; focus (simp [wn0, wn1, wn2, wn3, wn4, wn5, wn6, wn7, f9b, f10b, f1, f2, f3, f4, f5, f6, f7, f8, f9, f10, f11, g1, g2, g3, g4, g5, g6, w2, w4, w16, w32, w128, m1, m3, m15, m31, m127, maxes, o16, o32, o128, hq, hp, hl]; done))
        | (refine T.br_t ?_ ?_; focus (simp only [wn0, wn1, wn2, wn3, wn4, wn5, wn6, wn7, f9b, f10b, f1, f2, f3, f4, f5, f6, f7, f8, f9, f10, f11, g1, g2, g3, g4, g5, g6, w2, w4, w16, w32, w128, m1, m3, m15, m31, m127, maxes, o16, o32, o128, hq, hp, hl, beq_self_eq_true, Int.reduceBEq, decide_true]; done))
        | (refine T.br_f ?_ ?_; focus (simp only [wn0, wn1, wn2, wn3, wn4, wn5, wn6, wn7, f9b, f10b, f1, f2, f3, f4, f5, f6, f7, f8, f9, f10, f11, g1, g2, g3, g4, g5, g6, w2, w4, w16, w32, w128, m1, m3, m15, m31, m127, maxes, o16, o32, o128, hq, hp, hl, beq_self_eq_true, Int.reduceBEq, decide_false]; done))
      refine ⟨rfl, ?_⟩
      simp [beqd, AV.γ, V.γ, Sc.γ, Mb.wOn, Mb.wLow, Mb.wHigh, Mb.wMode, Mb.wLast, Mb.wHeld, wn0, wn1, wn2, wn3, wn4, wn5, wn6, wn7, f9b, f10b, f1, f2, f3, f4, f5, f6, f7, f8, f9, f10, f11, g1, g2, g3, g4, g5, g6, w2, w4, w16, w32, w128, m1, m3, m15, m31, m127, maxes, o16, o32, o128, hq, hp, hl]
set_option maxHeartbeats 4000000 in
theorem write5_any (w : World) (banks ram : Int) (on mode : Bool) (low high last : Int) (a x : Int) (ba : Mb.W a) (bx : Mb.B x) (bl : 0 ≤ low ∧ low < 512) : Calls Try.prog 12 #[.agg #[.int .i64 5, .int .i64 banks, .int .i64 ram, .bool on, .bool mode, .int .i64 low, .int .i64 high, .int .u8 last], .int .u16 a, .int .u8 x] w fun e w' => e = .returned (.tuple #[.agg #[.int .i64 5, .int .i64 banks, .int .i64 ram, .bool (Mb.wOn 5 a x on), .bool (Mb.wMode 5 a x mode), .int .i64 (Mb.wLow 5 a x low), .int .i64 (Mb.wHigh 5 a x high), .int .u8 (Mb.wLast 5 a x last)], .bool (Mb.wHeld 5 a x last)]) ∧ Below w.heap.size w w' := by
  refine val_eq base2 (ctrs_none _ _) (loops_none _ _) (write5_tree w banks ram on mode low high last a x) rfl ?_
  have hq : (a / 4096 % 8 = 0 ∧ a / 8192 % 4 = 0) ∨ (a / 4096 % 8 = 1 ∧ a / 8192 % 4 = 0) ∨ (a / 4096 % 8 = 2 ∧ a / 8192 % 4 = 1) ∨ (a / 4096 % 8 = 3 ∧ a / 8192 % 4 = 1) ∨ (a / 4096 % 8 = 4 ∧ a / 8192 % 4 = 2) ∨ (a / 4096 % 8 = 5 ∧ a / 8192 % 4 = 2) ∨ (a / 4096 % 8 = 6 ∧ a / 8192 % 4 = 3) ∨ (a / 4096 % 8 = 7 ∧ a / 8192 % 4 = 3) := by omega
  have f9b := fa_f9b ba
  have f10b := fa_f10b ba
  obtain ⟨m1, m3, m15, m31, m127⟩ := masks bx
  have f1 := fa_f1 ba
  have f2 := fa_f2 ba
  have f3 := fa_f3 ba
  have f4 := fa_f4 ba
  have f5 := fa_f5 ba
  have f6 := fa_f6 ba
  have f7 := fa_f7 ba
  have f8 := fa_f8 ba
  have f9 := fa_f9 ba
  have f10 := fa_f10 ba
  have f11 := mid8 ba
  have g1 := fa_g1 bx
  have g2 := fa_g2 bx
  have g3 := fa_g3 bx
  have g4 := fa_g4 bx
  have g5 := fa_g5 bx
  have g6 := fa_g6 bx
  have w2 := fa_w2 bx
  have w4 := fa_w4 bx
  have w16 := fa_w16 bx
  have w32 := fa_w32 bx
  have w128 := fa_w128 bx
  have o16 := fa_o16 bx
  have o32 := fa_o32 bx
  have o128 := fa_o128 bx
  obtain ⟨l1, l2⟩ := lows bl
  have e1 := fb_e1 bl bx
  have e2 := fb_e2 bl bx
  have e3 := fb_e3 bl bx
  have e4 := fb_e4 bl bx
  have e5 := fb_e5 bl bx
  have e6 := fb_e6 bl bx
  have e7 := fb_e7 bl bx
  have e8 := fb_e8 bl bx
  have e9 := fb_e9 bl bx
  rcases hq with ⟨hq, hp⟩ | ⟨hq, hp⟩ | ⟨hq, hp⟩ | ⟨hq, hp⟩ | ⟨hq, hp⟩ | ⟨hq, hp⟩ | ⟨hq, hp⟩ | ⟨hq, hp⟩
  · repeat' first
      | (refine T.br_t ?_ ?_; focus (simp [wn0, wn1, wn2, wn3, wn4, wn5, wn6, wn7, f9b, f10b, f1, f2, f3, f4, f5, f6, f7, f8, f9, f10, f11, g1, g2, g3, g4, g5, g6, w2, w4, w16, w32, w128, m1, m3, m15, m31, m127, maxes, o16, o32, o128, hq, hp, e1, e2, e3, e4, e5, e6, e7, e8, e9, l1, l2]; done))
      | (refine T.br_f ?_ ?_; focus (simp [wn0, wn1, wn2, wn3, wn4, wn5, wn6, wn7, f9b, f10b, f1, f2, f3, f4, f5, f6, f7, f8, f9, f10, f11, g1, g2, g3, g4, g5, g6, w2, w4, w16, w32, w128, m1, m3, m15, m31, m127, maxes, o16, o32, o128, hq, hp, e1, e2, e3, e4, e5, e6, e7, e8, e9, l1, l2]; done))
      | (refine T.br_t ?_ ?_; focus (simp only [wn0, wn1, wn2, wn3, wn4, wn5, wn6, wn7, f9b, f10b, f1, f2, f3, f4, f5, f6, f7, f8, f9, f10, f11, g1, g2, g3, g4, g5, g6, w2, w4, w16, w32, w128, m1, m3, m15, m31, m127, maxes, o16, o32, o128, hq, hp, e1, e2, e3, e4, e5, e6, e7, e8, e9, l1, l2, beq_self_eq_true, Int.reduceBEq, decide_true]; done))
      | (refine T.br_f ?_ ?_; focus (simp only [wn0, wn1, wn2, wn3, wn4, wn5, wn6, wn7, f9b, f10b, f1, f2, f3, f4, f5, f6, f7, f8, f9, f10, f11, g1, g2, g3, g4, g5, g6, w2, w4, w16, w32, w128, m1, m3, m15, m31, m127, maxes, o16, o32, o128, hq, hp, e1, e2, e3, e4, e5, e6, e7, e8, e9, l1, l2, beq_self_eq_true, Int.reduceBEq, decide_false]; done))
    refine ⟨rfl, ?_⟩
    simp [beqd, AV.γ, V.γ, Sc.γ, Mb.wOn, Mb.wLow, Mb.wHigh, Mb.wMode, Mb.wLast, Mb.wHeld, wn0, wn1, wn2, wn3, wn4, wn5, wn6, wn7, f9b, f10b, f1, f2, f3, f4, f5, f6, f7, f8, f9, f10, f11, g1, g2, g3, g4, g5, g6, w2, w4, w16, w32, w128, m1, m3, m15, m31, m127, maxes, o16, o32, o128, hq, hp, e1, e2, e3, e4, e5, e6, e7, e8, e9, l1, l2]
  · repeat' first
      | (refine T.br_t ?_ ?_; focus (simp [wn0, wn1, wn2, wn3, wn4, wn5, wn6, wn7, f9b, f10b, f1, f2, f3, f4, f5, f6, f7, f8, f9, f10, f11, g1, g2, g3, g4, g5, g6, w2, w4, w16, w32, w128, m1, m3, m15, m31, m127, maxes, o16, o32, o128, hq, hp, e1, e2, e3, e4, e5, e6, e7, e8, e9, l1, l2]; done))
      | (refine T.br_f ?_ ?_; focus (simp [wn0, wn1, wn2, wn3, wn4, wn5, wn6, wn7, f9b, f10b, f1, f2, f3, f4, f5, f6, f7, f8, f9, f10, f11, g1, g2, g3, g4, g5, g6, w2, w4, w16, w32, w128, m1, m3, m15, m31, m127, maxes, o16, o32, o128, hq, hp, e1, e2, e3, e4, e5, e6, e7, e8, e9, l1, l2]; done))
      | (refine T.br_t ?_ ?_; focus (simp only [wn0, wn1, wn2, wn3, wn4, wn5, wn6, wn7, f9b, f10b, f1, f2, f3, f4, f5, f6, f7, f8, f9, f10, f11, g1, g2, g3, g4, g5, g6, w2, w4, w16, w32, w128, m1, m3, m15, m31, m127, maxes, o16, o32, o128, hq, hp, e1, e2, e3, e4, e5, e6, e7, e8, e9, l1, l2, beq_self_eq_true, Int.reduceBEq, decide_true]; done))
      | (refine T.br_f ?_ ?_; focus (simp only [wn0, wn1, wn2, wn3, wn4, wn5, wn6, wn7, f9b, f10b, f1, f2, f3, f4, f5, f6, f7, f8, f9, f10, f11, g1, g2, g3, g4, g5, g6, w2, w4, w16, w32, w128, m1, m3, m15, m31, m127, maxes, o16, o32, o128, hq, hp, e1, e2, e3, e4, e5, e6, e7, e8, e9, l1, l2, beq_self_eq_true, Int.reduceBEq, decide_false]; done))
    refine ⟨rfl, ?_⟩
    simp [beqd, AV.γ, V.γ, Sc.γ, Mb.wOn, Mb.wLow, Mb.wHigh, Mb.wMode, Mb.wLast, Mb.wHeld, wn0, wn1, wn2, wn3, wn4, wn5, wn6, wn7, f9b, f10b, f1, f2, f3, f4, f5, f6, f7, f8, f9, f10, f11, g1, g2, g3, g4, g5, g6, w2, w4, w16, w32, w128, m1, m3, m15, m31, m127, maxes, o16, o32, o128, hq, hp, e1, e2, e3, e4, e5, e6, e7, e8, e9, l1, l2]
  · repeat' first
      | (refine T.br_t ?_ ?_; focus (simp [wn0, wn1, wn2, wn3, wn4, wn5, wn6, wn7, f9b, f10b, f1, f2, f3, f4, f5, f6, f7, f8, f9, f10, f11, g1, g2, g3, g4, g5, g6, w2, w4, w16, w32, w128, m1, m3, m15, m31, m127, maxes, o16, o32, o128, hq, hp, e1, e2, e3, e4, e5, e6, e7, e8, e9, l1, l2]; done))
      | (refine T.br_f ?_ ?_; focus (simp [wn0, wn1, wn2, wn3, wn4, wn5, wn6, wn7, f9b, f10b, f1, f2, f3, f4, f5, f6, f7, f8, f9, f10, f11, g1, g2, g3, g4, g5, g6, w2, w4, w16, w32, w128, m1, m3, m15, m31, m127, maxes, o16, o32, o128, hq, hp, e1, e2, e3, e4, e5, e6, e7, e8, e9, l1, l2]; done))
      | (refine T.br_t ?_ ?_; focus (simp only [wn0, wn1, wn2, wn3, wn4, wn5, wn6, wn7, f9b, f10b, f1, f2, f3, f4, f5, f6, f7, f8, f9, f10, f11, g1, g2, g3, g4, g5, g6, w2, w4, w16, w32, w128, m1, m3, m15, m31, m127, maxes, o16, o32, o128, hq, hp, e1, e2, e3, e4, e5, e6, e7, e8, e9, l1, l2, beq_self_eq_true, Int.reduceBEq, decide_true]; done))
      | (refine T.br_f ?_ ?_; focus (simp only [wn0, wn1, wn2, wn3, wn4, wn5, wn6, wn7, f9b, f10b, f1, f2, f3, f4, f5, f6, f7, f8, f9, f10, f11, g1, g2, g3, g4, g5, g6, w2, w4, w16, w32, w128, m1, m3, m15, m31, m127, maxes, o16, o32, o128, hq, hp, e1, e2, e3, e4, e5, e6, e7, e8, e9, l1, l2, beq_self_eq_true, Int.reduceBEq, decide_false]; done))
    refine ⟨rfl, ?_⟩
    simp [beqd, AV.γ, V.γ, Sc.γ, Mb.wOn, Mb.wLow, Mb.wHigh, Mb.wMode, Mb.wLast, Mb.wHeld, wn0, wn1, wn2, wn3, wn4, wn5, wn6, wn7, f9b, f10b, f1, f2, f3, f4, f5, f6, f7, f8, f9, f10, f11, g1, g2, g3, g4, g5, g6, w2, w4, w16, w32, w128, m1, m3, m15, m31, m127, maxes, o16, o32, o128, hq, hp, e1, e2, e3, e4, e5, e6, e7, e8, e9, l1, l2]
  · repeat' first
      | (refine T.br_t ?_ ?_; focus (simp [wn0, wn1, wn2, wn3, wn4, wn5, wn6, wn7, f9b, f10b, f1, f2, f3, f4, f5, f6, f7, f8, f9, f10, f11, g1, g2, g3, g4, g5, g6, w2, w4, w16, w32, w128, m1, m3, m15, m31, m127, maxes, o16, o32, o128, hq, hp, e1, e2, e3, e4, e5, e6, e7, e8, e9, l1, l2]; done))
      | (refine T.br_f ?_ ?_; focus (simp [wn0, wn1, wn2, wn3, wn4, wn5, wn6, wn7, f9b, f10b, f1, f2, f3, f4, f5, f6, f7, f8, f9, f10, f11, g1, g2, g3, g4, g5, g6, w2, w4, w16, w32, w128, m1, m3, m15, m31, m127, maxes, o16, o32, o128, hq, hp, e1, e2, e3, e4, e5, e6, e7, e8, e9, l1, l2]; done))
      | (refine T.br_t ?_ ?_; focus (simp only [wn0, wn1, wn2, wn3, wn4, wn5, wn6, wn7, f9b, f10b, f1, f2, f3, f4, f5, f6, f7, f8, f9, f10, f11, g1, g2, g3, g4, g5, g6, w2, w4, w16, w32, w128, m1, m3, m15, m31, m127, maxes, o16, o32, o128, hq, hp, e1, e2, e3, e4, e5, e6, e7, e8, e9, l1, l2, beq_self_eq_true, Int.reduceBEq, decide_true]; done))
      | (refine T.br_f ?_ ?_; focus (simp only [wn0, wn1, wn2, wn3, wn4, wn5, wn6, wn7, f9b, f10b, f1, f2, f3, f4, f5, f6, f7, f8, f9, f10, f11, g1, g2, g3, g4, g5, g6, w2, w4, w16, w32, w128, m1, m3, m15, m31, m127, maxes, o16, o32, o128, hq, hp, e1, e2, e3, e4, e5, e6, e7, e8, e9, l1, l2, beq_self_eq_true, Int.reduceBEq, decide_false]; done))
    refine ⟨rfl, ?_⟩
    simp [beqd, AV.γ, V.γ, Sc.γ, Mb.wOn, Mb.wLow, Mb.wHigh, Mb.wMode, Mb.wLast, Mb.wHeld, wn0, wn1, wn2, wn3, wn4, wn5, wn6, wn7, f9b, f10b, f1, f2, f3, f4, f5, f6, f7, f8, f9, f10, f11, g1, g2, g3, g4, g5, g6, w2, w4, w16, w32, w128, m1, m3, m15, m31, m127, maxes, o16, o32, o128, hq, hp, e1, e2, e3, e4, e5, e6, e7, e8, e9, l1, l2]
  · repeat' first
      | (refine T.br_t ?_ ?_; focus (simp [wn0, wn1, wn2, wn3, wn4, wn5, wn6, wn7, f9b, f10b, f1, f2, f3, f4, f5, f6, f7, f8, f9, f10, f11, g1, g2, g3, g4, g5, g6, w2, w4, w16, w32, w128, m1, m3, m15, m31, m127, maxes, o16, o32, o128, hq, hp, e1, e2, e3, e4, e5, e6, e7, e8, e9, l1, l2]; done))
      | (refine T.br_f ?_ ?_; focus (simp [wn0, wn1, wn2, wn3, wn4, wn5, wn6, wn7, f9b, f10b, f1, f2, f3, f4, f5, f6, f7, f8, f9, f10, f11, g1, g2, g3, g4, g5, g6, w2, w4, w16, w32, w128, m1, m3, m15, m31, m127, maxes, o16, o32, o128, hq, hp, e1, e2, e3, e4, e5, e6, e7, e8, e9, l1, l2]; done))
      | (refine T.br_t ?_ ?_; focus (simp only [wn0, wn1, wn2, wn3, wn4, wn5, wn6, wn7, f9b, f10b, f1, f2, f3, f4, f5, f6, f7, f8, f9, f10, f11, g1, g2, g3, g4, g5, g6, w2, w4, w16, w32, w128, m1, m3, m15, m31, m127, maxes, o16, o32, o128, hq, hp, e1, e2, e3, e4, e5, e6, e7, e8, e9, l1, l2, beq_self_eq_true, Int.reduceBEq, decide_true]; done))
      | (refine T.br_f ?_ ?_; focus (simp only [wn0, wn1, wn2, wn3, wn4, wn5, wn6, wn7, f9b, f10b, f1, f2, f3, f4, f5, f6, f7, f8, f9, f10, f11, g1, g2, g3, g4, g5, g6, w2, w4, w16, w32, w128, m1, m3, m15, m31, m127, maxes, o16, o32, o128, hq, hp, e1, e2, e3, e4, e5, e6, e7, e8, e9, l1, l2, beq_self_eq_true, Int.reduceBEq, decide_false]; done))
    refine ⟨rfl, ?_⟩
    simp [beqd, AV.γ, V.γ, Sc.γ, Mb.wOn, Mb.wLow, Mb.wHigh, Mb.wMode, Mb.wLast, Mb.wHeld, wn0, wn1, wn2, wn3, wn4, wn5, wn6, wn7, f9b, f10b, f1, f2, f3, f4, f5, f6, f7, f8, f9, f10, f11, g1, g2, g3, g4, g5, g6, w2, w4, w16, w32, w128, m1, m3, m15, m31, m127, maxes, o16, o32, o128, hq, hp, e1, e2, e3, e4, e5, e6, e7, e8, e9, l1, l2]
  · repeat' first
      | (refine T.br_t ?_ ?_; focus (simp [wn0, wn1, wn2, wn3, wn4, wn5, wn6, wn7, f9b, f10b, f1, f2, f3, f4, f5, f6, f7, f8, f9, f10, f11, g1, g2, g3, g4, g5, g6, w2, w4, w16, w32, w128, m1, m3, m15, m31, m127, maxes, o16, o32, o128, hq, hp, e1, e2, e3, e4, e5, e6, e7, e8, e9, l1, l2]; done))
      | (refine T.br_f ?_ ?_; focus (simp [wn0, wn1, wn2, wn3, wn4, wn5, wn6, wn7, f9b, f10b, f1, f2, f3, f4, f5, f6, f7, f8, f9, f10, f11, g1, g2, g3, g4, g5, g6, w2, w4, w16, w32, w128, m1, m3, m15, m31, m127, maxes, o16, o32, o128, hq, hp, e1, e2, e3, e4, e5, e6, e7, e8, e9, l1, l2]; done))
      | (refine T.br_t ?_ ?_; focus (simp only [wn0, wn1, wn2, wn3, wn4, wn5, wn6, wn7, f9b, f10b, f1, f2, f3, f4, f5, f6, f7, f8, f9, f10, f11, g1, g2, g3, g4, g5, g6, w2, w4, w16, w32, w128, m1, m3, m15, m31, m127, maxes, o16, o32, o128, hq, hp, e1, e2, e3, e4, e5, e6, e7, e8, e9, l1, l2, beq_self_eq_true, Int.reduceBEq, decide_true]; done))
      | (refine T.br_f ?_ ?_; focus (simp only [wn0, wn1, wn2, wn3, wn4, wn5, wn6, wn7, f9b, f10b, f1, f2, f3, f4, f5, f6, f7, f8, f9, f10, f11, g1, g2, g3, g4, g5, g6, w2, w4, w16, w32, w128, m1, m3, m15, m31, m127, maxes, o16, o32, o128, hq, hp, e1, e2, e3, e4, e5, e6, e7, e8, e9, l1, l2, beq_self_eq_true, Int.reduceBEq, decide_false]; done))
    refine ⟨rfl, ?_⟩
    simp [beqd, AV.γ, V.γ, Sc.γ, Mb.wOn, Mb.wLow, Mb.wHigh, Mb.wMode, Mb.wLast, Mb.wHeld, wn0, wn1, wn2, wn3, wn4, wn5, wn6, wn7, f9b, f10b, f1, f2, f3, f4, f5, f6, f7, f8, f9, f10, f11, g1, g2, g3, g4, g5, g6, w2, w4, w16, w32, w128, m1, m3, m15, m31, m127, maxes, o16, o32, o128, hq, hp, e1, e2, e3, e4, e5, e6, e7, e8, e9, l1, l2]
  · repeat' first
      | (refine T.br_t ?_ ?_; focus (simp [wn0, wn1, wn2, wn3, wn4, wn5, wn6, wn7, f9b, f10b, f1, f2, f3, f4, f5, f6, f7, f8, f9, f10, f11, g1, g2, g3, g4, g5, g6, w2, w4, w16, w32, w128, m1, m3, m15, m31, m127, maxes, o16, o32, o128, hq, hp, e1, e2, e3, e4, e5, e6, e7, e8, e9, l1, l2]; done))
      | (refine T.br_f ?_ ?_; focus (simp [wn0, wn1, wn2, wn3, wn4, wn5, wn6, wn7, f9b, f10b, f1, f2, f3, f4, f5, f6, f7, f8, f9, f10, f11, g1, g2, g3, g4, g5, g6, w2, w4, w16, w32, w128, m1, m3, m15, m31, m127, maxes, o16, o32, o128, hq, hp, e1, e2, e3, e4, e5, e6, e7, e8, e9, l1, l2]; done))
      | (refine T.br_t ?_ ?_; focus (simp only [wn0, wn1, wn2, wn3, wn4, wn5, wn6, wn7, f9b, f10b, f1, f2, f3, f4, f5, f6, f7, f8, f9, f10, f11, g1, g2, g3, g4, g5, g6, w2, w4, w16, w32, w128, m1, m3, m15, m31, m127, maxes, o16, o32, o128, hq, hp, e1, e2, e3, e4, e5, e6, e7, e8, e9, l1, l2, beq_self_eq_true, Int.reduceBEq, decide_true]; done))
      | (refine T.br_f ?_ ?_; focus (simp only [wn0, wn1, wn2, wn3, wn4, wn5, wn6, wn7, f9b, f10b, f1, f2, f3, f4, f5, f6, f7, f8, f9, f10, f11, g1, g2, g3, g4, g5, g6, w2, w4, w16, w32, w128, m1, m3, m15, m31, m127, maxes, o16, o32, o128, hq, hp, e1, e2, e3, e4, e5, e6, e7, e8, e9, l1, l2, beq_self_eq_true, Int.reduceBEq, decide_false]; done))
    refine ⟨rfl, ?_⟩
    simp [beqd, AV.γ, V.γ, Sc.γ, Mb.wOn, Mb.wLow, Mb.wHigh, Mb.wMode, Mb.wLast, Mb.wHeld, wn0, wn1, wn2, wn3, wn4, wn5, wn6, wn7, f9b, f10b, f1, f2, f3, f4, f5, f6, f7, f8, f9, f10, f11, g1, g2, g3, g4, g5, g6, w2, w4, w16, w32, w128, m1, m3, m15, m31, m127, maxes, o16, o32, o128, hq, hp, e1, e2, e3, e4, e5, e6, e7, e8, e9, l1, l2]
  · repeat' first
      | (refine T.br_t ?_ ?_; focus (simp [wn0, wn1, wn2, wn3, wn4, wn5, wn6, wn7, f9b, f10b, f1, f2, f3, f4, f5, f6, f7, f8, f9, f10, f11, g1, g2, g3, g4, g5, g6, w2, w4, w16, w32, w128, m1, m3, m15, m31, m127, maxes, o16, o32, o128, hq, hp, e1, e2, e3, e4, e5, e6, e7, e8, e9, l1, l2]; done))
      | (refine T.br_f ?_ ?_; focus (simp [wn0, wn1, wn2, wn3, wn4, wn5, wn6, wn7, f9b, f10b, f1, f2, f3, f4, f5, f6, f7, f8, f9, f10, f11, g1, g2, g3, g4, g5, g6, w2, w4, w16, w32, w128, m1, m3, m15, m31, m127, maxes, o16, o32, o128, hq, hp, e1, e2, e3, e4, e5, e6, e7, e8, e9, l1, l2]; done))
      | (refine T.br_t ?_ ?_; focus (simp only [wn0, wn1, wn2, wn3, wn4, wn5, wn6, wn7, f9b, f10b, f1, f2, f3, f4, f5, f6, f7, f8, f9, f10, f11, g1, g2, g3, g4, g5, g6, w2, w4, w16, w32, w128, m1, m3, m15, m31, m127, maxes, o16, o32, o128, hq, hp, e1, e2, e3, e4, e5, e6, e7, e8, e9, l1, l2, beq_self_eq_true, Int.reduceBEq, decide_true]; done))
      | (refine T.br_f ?_ ?_; focus (simp only [wn0, wn1, wn2, wn3, wn4, wn5, wn6, wn7, f9b, f10b, f1, f2, f3, f4, f5, f6, f7, f8, f9, f10, f11, g1, g2, g3, g4, g5, g6, w2, w4, w16, w32, w128, m1, m3, m15, m31, m127, maxes, o16, o32, o128, hq, hp, e1, e2, e3, e4, e5, e6, e7, e8, e9, l1, l2, beq_self_eq_true, Int.reduceBEq, decide_false]; done))
    refine ⟨rfl, ?_⟩
    simp [beqd, AV.γ, V.γ, Sc.γ, Mb.wOn, Mb.wLow, Mb.wHigh, Mb.wMode, Mb.wLast, Mb.wHeld, wn0, wn1, wn2, wn3, wn4, wn5, wn6, wn7, f9b, f10b, f1, f2, f3, f4, f5, f6, f7, f8, f9, f10, f11, g1, g2, g3, g4, g5, g6, w2, w4, w16, w32, w128, m1, m3, m15, m31, m127, maxes, o16, o32, o128, hq, hp, e1, e2, e3, e4, e5, e6, e7, e8, e9, l1, l2]
set_option maxHeartbeats 4000000 in
theorem writeo_any (w : World) (k banks ram : Int) (on mode : Bool) (low high last : Int) (a x : Int) (ba : Mb.W a) (bx : Mb.B x) (bl : 0 ≤ low ∧ low < 512) (h1 : ¬ k = 1) (h2 : ¬ k = 2) (h3 : ¬ k = 3) (h5 : ¬ k = 5) : Calls Try.prog 12 #[.agg #[.int .i64 k, .int .i64 banks, .int .i64 ram, .bool on, .bool mode, .int .i64 low, .int .i64 high, .int .u8 last], .int .u16 a, .int .u8 x] w fun e w' => e = .returned (.tuple #[.agg #[.int .i64 k, .int .i64 banks, .int .i64 ram, .bool (Mb.wOn k a x on), .bool (Mb.wMode k a x mode), .int .i64 (Mb.wLow k a x low), .int .i64 (Mb.wHigh k a x high), .int .u8 (Mb.wLast k a x last)], .bool (Mb.wHeld k a x last)]) ∧ Below w.heap.size w w' := by
  refine val_eq base2 (ctrs_none _ _) (loops_none _ _) (writeo_tree w k banks ram on mode low high last a x) rfl ?_
  refine T.br_f ?_ (T.br_f ?_ (T.br_f ?_ (T.br_f ?_ (?_))))
  rotate_right
  · simp [T.holds, h1, h2, h3, h5, Mb.wOn, Mb.wLow, Mb.wHigh, Mb.wMode, Mb.wLast, Mb.wHeld, Mb.one, AV.own, AV.wf, V.wf, Sc.wf, AV.γ, V.γ, Sc.γ]
  all_goals simp [h1, h2, h3, h5]
set_option maxHeartbeats 4000000 in
theorem write_any (w : World) (k banks ram : Int) (on mode : Bool) (low high last : Int) (a x : Int) (ba : Mb.W a) (bx : Mb.B x) (bl : 0 ≤ low ∧ low < 512) : Calls Try.prog 12 #[.agg #[.int .i64 k, .int .i64 banks, .int .i64 ram, .bool on, .bool mode, .int .i64 low, .int .i64 high, .int .u8 last], .int .u16 a, .int .u8 x] w fun e w' => e = .returned (.tuple #[.agg #[.int .i64 k, .int .i64 banks, .int .i64 ram, .bool (Mb.wOn k a x on), .bool (Mb.wMode k a x mode), .int .i64 (Mb.wLow k a x low), .int .i64 (Mb.wHigh k a x high), .int .u8 (Mb.wLast k a x last)], .bool (Mb.wHeld k a x last)]) ∧ Below w.heap.size w w' := by
  by_cases h1 : k = 1
  · subst h1; exact write1_any w banks ram on mode low high last a x ba bx bl
  by_cases h2 : k = 2
  · subst h2; exact write2_any w banks ram on mode low high last a x ba bx bl
  by_cases h3 : k = 3
  · subst h3; exact write3_any w banks ram on mode low high last a x ba bx bl
  by_cases h5 : k = 5
  · subst h5; exact write5_any w banks ram on mode low high last a x ba bx bl
  exact writeo_any w k banks ram on mode low high last a x ba bx bl h1 h2 h3 h5
set_option maxHeartbeats 4000000 in
theorem rwrite1_any (w : World) (banks ram : Int) (on mode : Bool) (low high last : Int) (a x : Int) (ba : Mb.W a) (bx : Mb.B x) (bl : 0 ≤ low ∧ low < 512) : Calls Try.prog 15 #[.agg #[.int .i64 1, .int .i64 banks, .int .i64 ram, .bool on, .bool mode, .int .i64 low, .int .i64 high, .int .u8 last], .int .u16 a, .int .u8 x] w fun e w' => e = .returned (.tuple #[.agg #[.int .i64 1, .int .i64 banks, .int .i64 ram, .bool (Mb.wOn 1 a x on), .bool (Mb.wMode 1 a x mode), .int .i64 (Mb.wLow 1 a x low), .int .i64 (Mb.wHigh 1 a x high), .int .u8 (Mb.wLast 1 a x last)], .bool (Mb.wHeld 1 a x last)]) ∧ Below w.heap.size w w' := by
  refine val_eq base2 (ctrs_none _ _) (loops_none _ _) (rwrite1_tree w banks ram on mode low high last a x) rfl ?_
  have hq : (a / 4096 % 8 = 0 ∧ a / 8192 % 4 = 0) ∨ (a / 4096 % 8 = 1 ∧ a / 8192 % 4 = 0) ∨ (a / 4096 % 8 = 2 ∧ a / 8192 % 4 = 1) ∨ (a / 4096 % 8 = 3 ∧ a / 8192 % 4 = 1) ∨ (a / 4096 % 8 = 4 ∧ a / 8192 % 4 = 2) ∨ (a / 4096 % 8 = 5 ∧ a / 8192 % 4 = 2) ∨ (a / 4096 % 8 = 6 ∧ a / 8192 % 4 = 3) ∨ (a / 4096 % 8 = 7 ∧ a / 8192 % 4 = 3) := by omega
  have f9b := fa_f9b ba
  have f10b := fa_f10b ba
  obtain ⟨m1, m3, m15, m31, m127⟩ := masks bx
  have f1 := fa_f1 ba
  have f2 := fa_f2 ba
  have f3 := fa_f3 ba
  have f4 := fa_f4 ba
  have f5 := fa_f5 ba
  have f6 := fa_f6 ba
  have f7 := fa_f7 ba
  have f8 := fa_f8 ba
  have f9 := fa_f9 ba
  have f10 := fa_f10 ba
  have f11 := mid8 ba
  have g1 := fa_g1 bx
  have g2 := fa_g2 bx
  have g3 := fa_g3 bx
  have g4 := fa_g4 bx
  have g5 := fa_g5 bx
  have g6 := fa_g6 bx
  have w2 := fa_w2 bx
  have w4 := fa_w4 bx
  have w16 := fa_w16 bx
  have w32 := fa_w32 bx
  have w128 := fa_w128 bx
  have o16 := fa_o16 bx
  have o32 := fa_o32 bx
  have o128 := fa_o128 bx
  rcases hq with ⟨hq, hp⟩ | ⟨hq, hp⟩ | ⟨hq, hp⟩ | ⟨hq, hp⟩ | ⟨hq, hp⟩ | ⟨hq, hp⟩ | ⟨hq, hp⟩ | ⟨hq, hp⟩
  · repeat' first
      | (refine T.br_t ?_ ?_; focus (simp [wn0, wn1, wn2, wn3, wn4, wn5, wn6, wn7, f9b, f10b, f1, f2, f3, f4, f5, f6, f7, f8, f9, f10, f11, g1, g2, g3, g4, g5, g6, w2, w4, w16, w32, w128, m1, m3, m15, m31, m127, maxes, o16, o32, o128, hq, hp]; done))
      | (refine T.br_f ?_ ?_; focus (simp [wn0, wn1, wn2, wn3, wn4, wn5, wn6, wn7, f9b, f10b, f1, f2, f3, f4, f5, f6, f7, f8, f9, f10, f11, g1, g2, g3, g4, g5, g6, w2, w4, w16, w32, w128, m1, m3, m15, m31, m127, maxes, o16, o32, o128, hq, hp]; done))
      | (refine T.br_t ?_ ?_; focus (simp only [wn0, wn1, wn2, wn3, wn4, wn5, wn6, wn7, f9b, f10b, f1, f2, f3, f4, f5, f6, f7, f8, f9, f10, f11, g1, g2, g3, g4, g5, g6, w2, w4, w16, w32, w128, m1, m3, m15, m31, m127, maxes, o16, o32, o128, hq, hp, beq_self_eq_true, Int.reduceBEq, decide_true]; done))
      | (refine T.br_f ?_ ?_; focus (simp only [wn0, wn1, wn2, wn3, wn4, wn5, wn6, wn7, f9b, f10b, f1, f2, f3, f4, f5, f6, f7, f8, f9, f10, f11, g1, g2, g3, g4, g5, g6, w2, w4, w16, w32, w128, m1, m3, m15, m31, m127, maxes, o16, o32, o128, hq, hp, beq_self_eq_true, Int.reduceBEq, decide_false]; done))
    refine ⟨rfl, ?_⟩
    simp [Mb.one, beqd, AV.γ, V.γ, Sc.γ, Mb.wOn, Mb.wLow, Mb.wHigh, Mb.wMode, Mb.wLast, Mb.wHeld, wn0, wn1, wn2, wn3, wn4, wn5, wn6, wn7, f9b, f10b, f1, f2, f3, f4, f5, f6, f7, f8, f9, f10, f11, g1, g2, g3, g4, g5, g6, w2, w4, w16, w32, w128, m1, m3, m15, m31, m127, maxes, o16, o32, o128, hq, hp]
  · repeat' first
      | (refine T.br_t ?_ ?_; focus (simp [wn0, wn1, wn2, wn3, wn4, wn5, wn6, wn7, f9b, f10b, f1, f2, f3, f4, f5, f6, f7, f8, f9, f10, f11, g1, g2, g3, g4, g5, g6, w2, w4, w16, w32, w128, m1, m3, m15, m31, m127, maxes, o16, o32, o128, hq, hp]; done))
      | (refine T.br_f ?_ ?_; focus (simp [wn0, wn1, wn2, wn3, wn4, wn5, wn6, wn7, f9b, f10b, f1, f2, f3, f4, f5, f6, f7, f8, f9, f10, f11, g1, g2, g3, g4, g5, g6, w2, w4, w16, w32, w128, m1, m3, m15, m31, m127, maxes, o16, o32, o128, hq, hp]; done))
      | (refine T.br_t ?_ ?_; focus (simp only [wn0, wn1, wn2, wn3, wn4, wn5, wn6, wn7, f9b, f10b, f1, f2, f3, f4, f5, f6, f7, f8, f9, f10, f11, g1, g2, g3, g4, g5, g6, w2, w4, w16, w32, w128, m1, m3, m15, m31, m127, maxes, o16, o32, o128, hq, hp, beq_self_eq_true, Int.reduceBEq, decide_true]; done))
      | (refine T.br_f ?_ ?_; focus (simp only [wn0, wn1, wn2, wn3, wn4, wn5, wn6, wn7, f9b, f10b, f1, f2, f3, f4, f5, f6, f7, f8, f9, f10, f11, g1, g2, g3, g4, g5, g6, w2, w4, w16, w32, w128, m1, m3, m15, m31, m127, maxes, o16, o32, o128, hq, hp, beq_self_eq_true, Int.reduceBEq, decide_false]; done))
    refine ⟨rfl, ?_⟩
    simp [Mb.one, beqd, AV.γ, V.γ, Sc.γ, Mb.wOn, Mb.wLow, Mb.wHigh, Mb.wMode, Mb.wLast, Mb.wHeld, wn0, wn1, wn2, wn3, wn4, wn5, wn6, wn7, f9b, f10b, f1, f2, f3, f4, f5, f6, f7, f8, f9, f10, f11, g1, g2, g3, g4, g5, g6, w2, w4, w16, w32, w128, m1, m3, m15, m31, m127, maxes, o16, o32, o128, hq, hp]
  · by_cases hl : x % 32 = 0
    · repeat' first
        | (refine T.br_t ?_ ?_; focus (simp [wn0, wn1, wn2, wn3, wn4, wn5, wn6, wn7, f9b, f10b, f1, f2, f3, f4, f5, f6, f7, f8, f9, f10, f11, g1, g2, g3, g4, g5, g6, w2, w4, w16, w32, w128, m1, m3, m15, m31, m127, maxes, o16, o32, o128, hq, hp, hl]; done))
        | (refine T.br_f ?_ ?_; focus (simp [wn0, wn1, wn2, wn3, wn4, wn5, wn6, wn7, f9b, f10b, f1, f2, f3, f4, f5, f6, f7, f8, f9, f10, f11, g1, g2, g3, g4, g5, g6, w2, w4, w16, w32, w128, m1, m3, m15, m31, m127, maxes, o16, o32, o128, hq, hp, hl]; done))
        | (refine T.br_t ?_ ?_; focus (simp only [wn0, wn1, wn2, wn3, wn4, wn5, wn6, wn7, f9b, f10b, f1, f2, f3, f4, f5, f6, f7, f8, f9, f10, f11, g1, g2, g3, g4, g5, g6, w2, w4, w16, w32, w128, m1, m3, m15, m31, m127, maxes, o16, o32, o128, hq, hp, hl, beq_self_eq_true, Int.reduceBEq, decide_true]; done))
        | (refine T.br_f ?_ ?_; focus (simp only [wn0, wn1, wn2, wn3, wn4, wn5, wn6, wn7, f9b, f10b, f1, f2, f3, f4, f5, f6, f7, f8, f9, f10, f11, g1, g2, g3, g4, g5, g6, w2, w4, w16, w32, w128, m1, m3, m15, m31, m127, maxes, o16, o32, o128, hq, hp, hl, beq_self_eq_true, Int.reduceBEq, decide_false]; done))
      refine ⟨rfl, ?_⟩
      simp [Mb.one, beqd, AV.γ, V.γ, Sc.γ, Mb.wOn, Mb.wLow, Mb.wHigh, Mb.wMode, Mb.wLast, Mb.wHeld, wn0, wn1, wn2, wn3, wn4, wn5, wn6, wn7, f9b, f10b, f1, f2, f3, f4, f5, f6, f7, f8, f9, f10, f11, g1, g2, g3, g4, g5, g6, w2, w4, w16, w32, w128, m1, m3, m15, m31, m127, maxes, o16, o32, o128, hq, hp, hl]
    · repeat' first
        | (refine T.br_t ?_ ?_; focus (simp [wn0, wn1, wn2, wn3, wn4, wn5, wn6, wn7, f9b, f10b, f1, f2, f3, f4, f5, f6, f7, f8, f9, f10, f11, g1, g2, g3, g4, g5, g6, w2, w4, w16, w32, w128, m1, m3, m15, m31, m127, maxes, o16, o32, o128, hq, hp, hl]; done))
        | (refine T.br_f ?_ ?_; focus (simp [wn0, wn1, wn2, wn3, wn4, wn5, wn6, wn7, f9b, f10b, f1, f2, f3, f4, f5, f6, f7, f8, f9, f10, f11, g1, g2, g3, g4, g5, g6, w2, w4, w16, w32, w128, m1, m3, m15, m31, m127, maxes, o16, o32, o128, hq, hp, hl]; done))
        | (refine T.br_t ?_ ?_; focus (simp only [wn0, wn1, wn2, wn3, wn4, wn5, wn6, wn7, f9b, f10b, f1, f2, f3, f4, f5, f6, f7, f8, f9, f10, f11, g1, g2, g3, g4, g5, g6, w2, w4, w16, w32, w128, m1, m3, m15, m31, m127, maxes, o16, o32, o128, hq, hp, hl, beq_self_eq_true, Int.reduceBEq, decide_true]; done))
        | (refine T.br_f ?_ ?_; focus (simp only [wn0, wn1, wn2, wn3, wn4, wn5, wn6, wn7, f9b, f10b, f1, f2, f3, f4, f5, f6, f7, f8, f9, f10, f11, g1, g2, g3, g4, g5, g6, w2, w4, w16, w32, w128, m1, m3, m15, m31, m127, maxes, o16, o32, o128, hq, hp, hl, beq_self_eq_true, Int.reduceBEq, decide_false]; done))
      refine ⟨rfl, ?_⟩
      simp [Mb.one, beqd, AV.γ, V.γ, Sc.γ, Mb.wOn, Mb.wLow, Mb.wHigh, Mb.wMode, Mb.wLast, Mb.wHeld, wn0, wn1, wn2, wn3, wn4, wn5, wn6, wn7, f9b, f10b, f1, f2, f3, f4, f5, f6, f7, f8, f9, f10, f11, g1, g2, g3, g4, g5, g6, w2, w4, w16, w32, w128, m1, m3, m15, m31, m127, maxes, o16, o32, o128, hq, hp, hl]
  · by_cases hl : x % 32 = 0
    · repeat' first
        | (refine T.br_t ?_ ?_; focus (simp [wn0, wn1, wn2, wn3, wn4, wn5, wn6, wn7, f9b, f10b, f1, f2, f3, f4, f5, f6, f7, f8, f9, f10, f11, g1, g2, g3, g4, g5, g6, w2, w4, w16, w32, w128, m1, m3, m15, m31, m127, maxes, o16, o32, o128, hq, hp, hl]; done))
        | (refine T.br_f ?_ ?_; focus (simp [wn0, wn1, wn2, wn3, wn4, wn5, wn6, wn7, f9b, f10b, f1, f2, f3, f4, f5, f6, f7, f8, f9, f10, f11, g1, g2, g3, g4, g5, g6, w2, w4, w16, w32, w128, m1, m3, m15, m31, m127, maxes, o16, o32, o128, hq, hp, hl]; done))
        | (refine T.br_t ?_ ?_; focus (simp only [wn0, wn1, wn2, wn3, wn4, wn5, wn6, wn7, f9b, f10b, f1, f2, f3, f4, f5, f6, f7, f8, f9, f10, f11, g1, g2, g3, g4, g5, g6, w2, w4, w16, w32, w128, m1, m3, m15, m31, m127, maxes, o16, o32, o128, hq, hp, hl, beq_self_eq_true, Int.reduceBEq, decide_true]; done))
        | (refine T.br_f ?_ ?_; focus (simp only [wn0, wn1, wn2, wn3, wn4, wn5, wn6, wn7, f9b, f10b, f1, f2, f3, f4, f5, f6, f7, f8, f9, f10, f11, g1, g2, g3, g4, g5, g6, w2, w4, w16, w32, w128, m1, m3, m15, m31, m127, maxes, o16, o32, o128, hq, hp, hl, beq_self_eq_true, Int.reduceBEq, decide_false]; done))
      refine ⟨rfl, ?_⟩
      simp [Mb.one, beqd, AV.γ, V.γ, Sc.γ, Mb.wOn, Mb.wLow, Mb.wHigh, Mb.wMode, Mb.wLast, Mb.wHeld, wn0, wn1, wn2, wn3, wn4, wn5, wn6, wn7, f9b, f10b, f1, f2, f3, f4, f5, f6, f7, f8, f9, f10, f11, g1, g2, g3, g4, g5, g6, w2, w4, w16, w32, w128, m1, m3, m15, m31, m127, maxes, o16, o32, o128, hq, hp, hl]
    · repeat' first
        | (refine T.br_t ?_ ?_; focus (simp [wn0, wn1, wn2, wn3, wn4, wn5, wn6, wn7, f9b, f10b, f1, f2, f3, f4, f5, f6, f7, f8, f9, f10, f11, g1, g2, g3, g4, g5, g6, w2, w4, w16, w32, w128, m1, m3, m15, m31, m127, maxes, o16, o32, o128, hq, hp, hl]; done))
        | (refine T.br_f ?_ ?_; focus (simp [wn0, wn1, wn2, wn3, wn4, wn5, wn6, wn7, f9b, f10b, f1, f2, f3, f4, f5, f6, f7, f8, f9, f10, f11, g1, g2, g3, g4, g5, g6, w2, w4, w16, w32, w128, m1, m3, m15, m31, m127, maxes, o16, o32, o128, hq, hp, hl]; done))
        | (refine T.br_t ?_ ?_; focus (simp only [wn0, wn1, wn2, wn3, wn4, wn5, wn6, wn7, f9b, f10b, f1, f2, f3, f4, f5, f6, f7, f8, f9, f10, f11, g1, g2, g3, g4, g5, g6, w2, w4, w16, w32, w128, m1, m3, m15, m31, m127, maxes, o16, o32, o128, hq, hp, hl, beq_self_eq_true, Int.reduceBEq, decide_true]; done))
        | (refine T.br_f ?_ ?_; focus (simp only [wn0, wn1, wn2, wn3, wn4, wn5, wn6, wn7, f9b, f10b, f1, f2, f3, f4, f5, f6, f7, f8, f9, f10, f11, g1, g2, g3, g4, g5, g6, w2, w4, w16, w32, w128, m1, m3, m15, m31, m127, maxes, o16, o32, o128, hq, hp, hl, beq_self_eq_true, Int.reduceBEq, decide_false]; done))
      refine ⟨rfl, ?_⟩
      simp [Mb.one, beqd, AV.γ, V.γ, Sc.γ, Mb.wOn, Mb.wLow, Mb.wHigh, Mb.wMode, Mb.wLast, Mb.wHeld, wn0, wn1, wn2, wn3, wn4, wn5, wn6, wn7, f9b, f10b, f1, f2, f3, f4, f5, f6, f7, f8, f9, f10, f11, g1, g2, g3, g4, g5, g6, w2, w4, w16, w32, w128, m1, m3, m15, m31, m127, maxes, o16, o32, o128, hq, hp, hl]
  · repeat' first
      | (refine T.br_t ?_ ?_; focus (simp [wn0, wn1, wn2, wn3, wn4, wn5, wn6, wn7, f9b, f10b, f1, f2, f3, f4, f5, f6, f7, f8, f9, f10, f11, g1, g2, g3, g4, g5, g6, w2, w4, w16, w32, w128, m1, m3, m15, m31, m127, maxes, o16, o32, o128, hq, hp]; done))
      | (refine T.br_f ?_ ?_; focus (simp [wn0, wn1, wn2, wn3, wn4, wn5, wn6, wn7, f9b, f10b, f1, f2, f3, f4, f5, f6, f7, f8, f9, f10, f11, g1, g2, g3, g4, g5, g6, w2, w4, w16, w32, w128, m1, m3, m15, m31, m127, maxes, o16, o32, o128, hq, hp]; done))
      | (refine T.br_t ?_ ?_; focus (simp only [wn0, wn1, wn2, wn3, wn4, wn5, wn6, wn7, f9b, f10b, f1, f2, f3, f4, f5, f6, f7, f8, f9, f10, f11, g1, g2, g3, g4, g5, g6, w2, w4, w16, w32, w128, m1, m3, m15, m31, m127, maxes, o16, o32, o128, hq, hp, beq_self_eq_true, Int.reduceBEq, decide_true]; done))
      | (refine T.br_f ?_ ?_; focus (simp only [wn0, wn1, wn2, wn3, wn4, wn5, wn6, wn7, f9b, f10b, f1, f2, f3, f4, f5, f6, f7, f8, f9, f10, f11, g1, g2, g3, g4, g5, g6, w2, w4, w16, w32, w128, m1, m3, m15, m31, m127, maxes, o16, o32, o128, hq, hp, beq_self_eq_true, Int.reduceBEq, decide_false]; done))
    refine ⟨rfl, ?_⟩
    simp [Mb.one, beqd, AV.γ, V.γ, Sc.γ, Mb.wOn, Mb.wLow, Mb.wHigh, Mb.wMode, Mb.wLast, Mb.wHeld, wn0, wn1, wn2, wn3, wn4, wn5, wn6, wn7, f9b, f10b, f1, f2, f3, f4, f5, f6, f7, f8, f9, f10, f11, g1, g2, g3, g4, g5, g6, w2, w4, w16, w32, w128, m1, m3, m15, m31, m127, maxes, o16, o32, o128, hq, hp]
  · repeat' first
      | (refine T.br_t ?_ ?_; focus (simp [wn0, wn1, wn2, wn3, wn4, wn5, wn6, wn7, f9b, f10b, f1, f2, f3, f4, f5, f6, f7, f8, f9, f10, f11, g1, g2, g3, g4, g5, g6, w2, w4, w16, w32, w128, m1, m3, m15, m31, m127, maxes, o16, o32, o128, hq, hp]; done))
      | (refine T.br_f ?_ ?_; focus (simp [wn0, wn1, wn2, wn3, wn4, wn5, wn6, wn7, f9b, f10b, f1, f2, f3, f4, f5, f6, f7, f8, f9, f10, f11, g1, g2, g3, g4, g5, g6, w2, w4, w16, w32, w128, m1, m3, m15, m31, m127, maxes, o16, o32, o128, hq, hp]; done))
      | (refine T.br_t ?_ ?_; focus (simp only [wn0, wn1, wn2, wn3, wn4, wn5, wn6, wn7, f9b, f10b, f1, f2, f3, f4, f5, f6, f7, f8, f9, f10, f11, g1, g2, g3, g4, g5, g6, w2, w4, w16, w32, w128, m1, m3, m15, m31, m127, maxes, o16, o32, o128, hq, hp, beq_self_eq_true, Int.reduceBEq, decide_true]; done))
      | (refine T.br_f ?_ ?_; focus (simp only [wn0, wn1, wn2, wn3, wn4, wn5, wn6, wn7, f9b, f10b, f1, f2, f3, f4, f5, f6, f7, f8, f9, f10, f11, g1, g2, g3, g4, g5, g6, w2, w4, w16, w32, w128, m1, m3, m15, m31, m127, maxes, o16, o32, o128, hq, hp, beq_self_eq_true, Int.reduceBEq, decide_false]; done))
    refine ⟨rfl, ?_⟩
    simp [Mb.one, beqd, AV.γ, V.γ, Sc.γ, Mb.wOn, Mb.wLow, Mb.wHigh, Mb.wMode, Mb.wLast, Mb.wHeld, wn0, wn1, wn2, wn3, wn4, wn5, wn6, wn7, f9b, f10b, f1, f2, f3, f4, f5, f6, f7, f8, f9, f10, f11, g1, g2, g3, g4, g5, g6, w2, w4, w16, w32, w128, m1, m3, m15, m31, m127, maxes, o16, o32, o128, hq, hp]
  · repeat' first
      | (refine T.br_t ?_ ?_; focus (simp [wn0, wn1, wn2, wn3, wn4, wn5, wn6, wn7, f9b, f10b, f1, f2, f3, f4, f5, f6, f7, f8, f9, f10, f11, g1, g2, g3, g4, g5, g6, w2, w4, w16, w32, w128, m1, m3, m15, m31, m127, maxes, o16, o32, o128, hq, hp]; done))
      | (refine T.br_f ?_ ?_; focus (simp [wn0, wn1, wn2, wn3, wn4, wn5, wn6, wn7, f9b, f10b, f1, f2, f3, f4, f5, f6, f7, f8, f9, f10, f11, g1, g2, g3, g4, g5, g6, w2, w4, w16, w32, w128, m1, m3, m15, m31, m127, maxes, o16, o32, o128, hq, hp]; done))
      | (refine T.br_t ?_ ?_; focus (simp only [wn0, wn1, wn2, wn3, wn4, wn5, wn6, wn7, f9b, f10b, f1, f2, f3, f4, f5, f6, f7, f8, f9, f10, f11, g1, g2, g3, g4, g5, g6, w2, w4, w16, w32, w128, m1, m3, m15, m31, m127, maxes, o16, o32, o128, hq, hp, beq_self_eq_true, Int.reduceBEq, decide_true]; done))
      | (refine T.br_f ?_ ?_; focus (simp only [wn0, wn1, wn2, wn3, wn4, wn5, wn6, wn7, f9b, f10b, f1, f2, f3, f4, f5, f6, f7, f8, f9, f10, f11, g1, g2, g3, g4, g5, g6, w2, w4, w16, w32, w128, m1, m3, m15, m31, m127, maxes, o16, o32, o128, hq, hp, beq_self_eq_true, Int.reduceBEq, decide_false]; done))
    refine ⟨rfl, ?_⟩
    simp [Mb.one, beqd, AV.γ, V.γ, Sc.γ, Mb.wOn, Mb.wLow, Mb.wHigh, Mb.wMode, Mb.wLast, Mb.wHeld, wn0, wn1, wn2, wn3, wn4, wn5, wn6, wn7, f9b, f10b, f1, f2, f3, f4, f5, f6, f7, f8, f9, f10, f11, g1, g2, g3, g4, g5, g6, w2, w4, w16, w32, w128, m1, m3, m15, m31, m127, maxes, o16, o32, o128, hq, hp]
  · repeat' first
      | (refine T.br_t ?_ ?_; focus (simp [wn0, wn1, wn2, wn3, wn4, wn5, wn6, wn7, f9b, f10b, f1, f2, f3, f4, f5, f6, f7, f8, f9, f10, f11, g1, g2, g3, g4, g5, g6, w2, w4, w16, w32, w128, m1, m3, m15, m31, m127, maxes, o16, o32, o128, hq, hp]; done))
      | (refine T.br_f ?_ ?_; focus (simp [wn0, wn1, wn2, wn3, wn4, wn5, wn6, wn7, f9b, f10b, f1, f2, f3, f4, f5, f6, f7, f8, f9, f10, f11, g1, g2, g3, g4, g5, g6, w2, w4, w16, w32, w128, m1, m3, m15, m31, m127, maxes, o16, o32, o128, hq, hp]; done))
      | (refine T.br_t ?_ ?_; focus (simp only [wn0, wn1, wn2, wn3, wn4, wn5, wn6, wn7, f9b, f10b, f1, f2, f3, f4, f5, f6, f7, f8, f9, f10, f11, g1, g2, g3, g4, g5, g6, w2, w4, w16, w32, w128, m1, m3, m15, m31, m127, maxes, o16, o32, o128, hq, hp, beq_self_eq_true, Int.reduceBEq, decide_true]; done))
      | (refine T.br_f ?_ ?_; focus (simp only [wn0, wn1, wn2, wn3, wn4, wn5, wn6, wn7, f9b, f10b, f1, f2, f3, f4, f5, f6, f7, f8, f9, f10, f11, g1, g2, g3, g4, g5, g6, w2, w4, w16, w32, w128, m1, m3, m15, m31, m127, maxes, o16, o32, o128, hq, hp, beq_self_eq_true, Int.reduceBEq, decide_false]; done))
    refine ⟨rfl, ?_⟩
    simp [Mb.one, beqd, AV.γ, V.γ, Sc.γ, Mb.wOn, Mb.wLow, Mb.wHigh, Mb.wMode, Mb.wLast, Mb.wHeld, wn0, wn1, wn2, wn3, wn4, wn5, wn6, wn7, f9b, f10b, f1, f2, f3, f4, f5, f6, f7, f8, f9, f10, f11, g1, g2, g3, g4, g5, g6, w2, w4, w16, w32, w128, m1, m3, m15, m31, m127, maxes, o16, o32, o128, hq, hp]
set_option maxHeartbeats 4000000 in
theorem rwrite2_any (w : World) (banks ram : Int) (on mode : Bool) (low high last : Int) (a x : Int) (ba : Mb.W a) (bx : Mb.B x) (bl : 0 ≤ low ∧ low < 512) : Calls Try.prog 15 #[.agg #[.int .i64 2, .int .i64 banks, .int .i64 ram, .bool on, .bool mode, .int .i64 low, .int .i64 high, .int .u8 last], .int .u16 a, .int .u8 x] w fun e w' => e = .returned (.tuple #[.agg #[.int .i64 2, .int .i64 banks, .int .i64 ram, .bool (Mb.wOn 2 a x on), .bool (Mb.wMode 2 a x mode), .int .i64 (Mb.wLow 2 a x low), .int .i64 (Mb.wHigh 2 a x high), .int .u8 (Mb.wLast 2 a x last)], .bool (Mb.wHeld 2 a x last)]) ∧ Below w.heap.size w w' := by
  refine val_eq base2 (ctrs_none _ _) (loops_none _ _) (rwrite2_tree w banks ram on mode low high last a x) rfl ?_
  have h2 : a / 256 % 2 = 0 ∨ a / 256 % 2 = 1 := by omega
  have h0 : (a % 32768 < 16384 ∧ ¬ 16384 ≤ a % 32768) ∨ (¬ a % 32768 < 16384 ∧ 16384 ≤ a % 32768) := by omega
  have f9b := fa_f9b ba
  have f10b := fa_f10b ba
  obtain ⟨m1, m3, m15, m31, m127⟩ := masks bx
  have f1 := fa_f1 ba
  have f2 := fa_f2 ba
  have f3 := fa_f3 ba
  have f4 := fa_f4 ba
  have f5 := fa_f5 ba
  have f6 := fa_f6 ba
  have f7 := fa_f7 ba
  have f8 := fa_f8 ba
  have f9 := fa_f9 ba
  have f10 := fa_f10 ba
  have f11 := mid8 ba
  have g1 := fa_g1 bx
  have g2 := fa_g2 bx
  have g3 := fa_g3 bx
  have g4 := fa_g4 bx
  have g5 := fa_g5 bx
  have g6 := fa_g6 bx
  have w2 := fa_w2 bx
  have w4 := fa_w4 bx
  have w16 := fa_w16 bx
  have w32 := fa_w32 bx
  have w128 := fa_w128 bx
  have o16 := fa_o16 bx
  have o32 := fa_o32 bx
  have o128 := fa_o128 bx
  rcases h0 with ⟨h1, h1'⟩ | ⟨h1, h1'⟩
  · rcases h2 with h2 | h2
    · repeat' first
        | (refine T.br_t ?_ ?_; focus (simp [wn0, wn1, wn2, wn3, wn4, wn5, wn6, wn7, f9b, f10b, f1, f2, f3, f4, f5, f6, f7, f8, f9, f10, f11, g1, g2, g3, g4, g5, g6, w2, w4, w16, w32, w128, m1, m3, m15, m31, m127, maxes, o16, o32, o128, h1, h1', h2]; done))
        | (refine T.br_f ?_ ?_; focus (simp [wn0, wn1, wn2, wn3, wn4, wn5, wn6, wn7, f9b, f10b, f1, f2, f3, f4, f5, f6, f7, f8, f9, f10, f11, g1, g2, g3, g4, g5, g6, w2, w4, w16, w32, w128, m1, m3, m15, m31, m127, maxes, o16, o32, o128, h1, h1', h2]; done))
        | (refine T.br_t ?_ ?_; focus (simp only [wn0, wn1, wn2, wn3, wn4, wn5, wn6, wn7, f9b, f10b, f1, f2, f3, f4, f5, f6, f7, f8, f9, f10, f11, g1, g2, g3, g4, g5, g6, w2, w4, w16, w32, w128, m1, m3, m15, m31, m127, maxes, o16, o32, o128, h1, h1', h2, beq_self_eq_true, Int.reduceBEq, decide_true]; done))
        | (refine T.br_f ?_ ?_; focus (simp only [wn0, wn1, wn2, wn3, wn4, wn5, wn6, wn7, f9b, f10b, f1, f2, f3, f4, f5, f6, f7, f8, f9, f10, f11, g1, g2, g3, g4, g5, g6, w2, w4, w16, w32, w128, m1, m3, m15, m31, m127, maxes, o16, o32, o128, h1, h1', h2, beq_self_eq_true, Int.reduceBEq, decide_false]; done))
      refine ⟨rfl, ?_⟩
      simp [Mb.one, beqd, AV.γ, V.γ, Sc.γ, Mb.wOn, Mb.wLow, Mb.wHigh, Mb.wMode, Mb.wLast, Mb.wHeld, wn0, wn1, wn2, wn3, wn4, wn5, wn6, wn7, f9b, f10b, f1, f2, f3, f4, f5, f6, f7, f8, f9, f10, f11, g1, g2, g3, g4, g5, g6, w2, w4, w16, w32, w128, m1, m3, m15, m31, m127, maxes, o16, o32, o128, h1, h1', h2]
    · by_cases hl : x % 16 = 0
      · repeat' first
          | (refine T.br_t ?_ ?_; focus (simp [wn0, wn1, wn2, wn3, wn4, wn5, wn6, wn7, f9b, f10b, f1, f2, f3, f4, f5, f6, f7, f8, f9, f10, f11, g1, g2, g3, g4, g5, g6, w2, w4, w16, w32, w128, m1, m3, m15, m31, m127, maxes, o16, o32, o128, h1, h1', h2, hl]; done))
          | (refine T.br_f ?_ ?_; focus (simp [wn0, wn1, wn2, wn3, wn4, wn5, wn6, wn7, f9b, f10b, f1, f2, f3, f4, f5, f6, f7, f8, f9, f10, f11, g1, g2, g3, g4, g5, g6, w2, w4, w16, w32, w128, m1, m3, m15, m31, m127, maxes, o16, o32, o128, h1, h1', h2, hl]; done))
          | (refine T.br_t ?_ ?_; focus (simp only [wn0, wn1, wn2, wn3, wn4, wn5, wn6, wn7, f9b, f10b, f1, f2, f3, f4, f5, f6, f7, f8, f9, f10, f11, g1, g2, g3, g4, g5, g6, w2, w4, w16, w32, w128, m1, m3, m15, m31, m127, maxes, o16, o32, o128, h1, h1', h2, hl, beq_self_eq_true, Int.reduceBEq, decide_true]; done))
          | (refine T.br_f ?_ ?_; focus (simp only [wn0, wn1, wn2, wn3, wn4, wn5, wn6, wn7, f9b, f10b, f1, f2, f3, f4, f5, f6, f7, f8, f9, f10, f11, g1, g2, g3, g4, g5, g6, w2, w4, w16, w32, w128, m1, m3, m15, m31, m127, maxes, o16, o32, o128, h1, h1', h2, hl, beq_self_eq_true, Int.reduceBEq, decide_false]; done))
        refine ⟨rfl, ?_⟩
        simp [Mb.one, beqd, AV.γ, V.γ, Sc.γ, Mb.wOn, Mb.wLow, Mb.wHigh, Mb.wMode, Mb.wLast, Mb.wHeld, wn0, wn1, wn2, wn3, wn4, wn5, wn6, wn7, f9b, f10b, f1, f2, f3, f4, f5, f6, f7, f8, f9, f10, f11, g1, g2, g3, g4, g5, g6, w2, w4, w16, w32, w128, m1, m3, m15, m31, m127, maxes, o16, o32, o128, h1, h1', h2, hl]
      · repeat' first
          | (refine T.br_t ?_ ?_; focus (simp [wn0, wn1, wn2, wn3, wn4, wn5, wn6, wn7, f9b, f10b, f1, f2, f3, f4, f5, f6, f7, f8, f9, f10, f11, g1, g2, g3, g4, g5, g6, w2, w4, w16, w32, w128, m1, m3, m15, m31, m127, maxes, o16, o32, o128, h1, h1', h2, hl]; done))
          | (refine T.br_f ?_ ?_; focus (simp [wn0, wn1, wn2, wn3, wn4, wn5, wn6, wn7, f9b, f10b, f1, f2, f3, f4, f5, f6, f7, f8, f9, f10, f11, g1, g2, g3, g4, g5, g6, w2, w4, w16, w32, w128, m1, m3, m15, m31, m127, maxes, o16, o32, o128, h1, h1', h2, hl]; done))
          | (refine T.br_t ?_ ?_; focus (simp only [wn0, wn1, wn2, wn3, wn4, wn5, wn6, wn7, f9b, f10b, f1, f2, f3, f4, f5, f6, f7, f8, f9, f10, f11, g1, g2, g3, g4, g5, g6, w2, w4, w16, w32, w128, m1, m3, m15, m31, m127, maxes, o16, o32, o128, h1, h1', h2, hl, beq_self_eq_true, Int.reduceBEq, decide_true]; done))
          | (refine T.br_f ?_ ?_; focus (simp only [wn0, wn1, wn2, wn3, wn4, wn5, wn6, wn7, f9b, f10b, f1, f2, f3, f4, f5, f6, f7, f8, f9, f10, f11, g1, g2, g3, g4, g5, g6, w2, w4, w16, w32, w128, m1, m3, m15, m31, m127, maxes, o16, o32, o128, h1, h1', h2, hl, beq_self_eq_true, Int.reduceBEq, decide_false]; done))
        refine ⟨rfl, ?_⟩
        simp [Mb.one, beqd, AV.γ, V.γ, Sc.γ, Mb.wOn, Mb.wLow, Mb.wHigh, Mb.wMode, Mb.wLast, Mb.wHeld, wn0, wn1, wn2, wn3, wn4, wn5, wn6, wn7, f9b, f10b, f1, f2, f3, f4, f5, f6, f7, f8, f9, f10, f11, g1, g2, g3, g4, g5, g6, w2, w4, w16, w32, w128, m1, m3, m15, m31, m127, maxes, o16, o32, o128, h1, h1', h2, hl]
  · repeat' first
      | (refine T.br_t ?_ ?_; focus (simp [wn0, wn1, wn2, wn3, wn4, wn5, wn6, wn7, f9b, f10b, f1, f2, f3, f4, f5, f6, f7, f8, f9, f10, f11, g1, g2, g3, g4, g5, g6, w2, w4, w16, w32, w128, m1, m3, m15, m31, m127, maxes, o16, o32, o128, h1, h1']; done))
      | (refine T.br_f ?_ ?_; focus (simp [wn0, wn1, wn2, wn3, wn4, wn5, wn6, wn7, f9b, f10b, f1, f2, f3, f4, f5, f6, f7, f8, f9, f10, f11, g1, g2, g3, g4, g5, g6, w2, w4, w16, w32, w128, m1, m3, m15, m31, m127, maxes, o16, o32, o128, h1, h1']; done))
      | (refine T.br_t ?_ ?_; focus (simp only [wn0, wn1, wn2, wn3, wn4, wn5, wn6, wn7, f9b, f10b, f1, f2, f3, f4, f5, f6, f7, f8, f9, f10, f11, g1, g2, g3, g4, g5, g6, w2, w4, w16, w32, w128, m1, m3, m15, m31, m127, maxes, o16, o32, o128, h1, h1', beq_self_eq_true, Int.reduceBEq, decide_true]; done))
      | (refine T.br_f ?_ ?_; focus (simp only [wn0, wn1, wn2, wn3, wn4, wn5, wn6, wn7, f9b, f10b, f1, f2, f3, f4, f5, f6, f7, f8, f9, f10, f11, g1, g2, g3, g4, g5, g6, w2, w4, w16, w32, w128, m1, m3, m15, m31, m127, maxes, o16, o32, o128, h1, h1', beq_self_eq_true, Int.reduceBEq, decide_false]; done))
    refine ⟨rfl, ?_⟩
    simp [Mb.one, beqd, AV.γ, V.γ, Sc.γ, Mb.wOn, Mb.wLow, Mb.wHigh, Mb.wMode, Mb.wLast, Mb.wHeld, wn0, wn1, wn2, wn3, wn4, wn5, wn6, wn7, f9b, f10b, f1, f2, f3, f4, f5, f6, f7, f8, f9, f10, f11, g1, g2, g3, g4, g5, g6, w2, w4, w16, w32, w128, m1, m3, m15, m31, m127, maxes, o16, o32, o128, h1, h1']
set_option maxHeartbeats 4000000 in
theorem rwrite3_any (w : World) (banks ram : Int) (on mode : Bool) (low high last : Int) (a x : Int) (ba : Mb.W a) (bx : Mb.B x) (bl : 0 ≤ low ∧ low < 512) : Calls Try.prog 15 #[.agg #[.int .i64 3, .int .i64 banks, .int .i64 ram, .bool on, .bool mode, .int .i64 low, .int .i64 high, .int .u8 last], .int .u16 a, .int .u8 x] w fun e w' => e = .returned (.tuple #[.agg #[.int .i64 3, .int .i64 banks, .int .i64 ram, .bool (Mb.wOn 3 a x on), .bool (Mb.wMode 3 a x mode), .int .i64 (Mb.wLow 3 a x low), .int .i64 (Mb.wHigh 3 a x high), .int .u8 (Mb.wLast 3 a x last)], .bool (Mb.wHeld 3 a x last)]) ∧ Below w.heap.size w w' := by
  refine val_eq base2 (ctrs_none _ _) (loops_none _ _) (rwrite3_tree w banks ram on mode low high last a x) rfl ?_
  have hq : (a / 4096 % 8 = 0 ∧ a / 8192 % 4 = 0) ∨ (a / 4096 % 8 = 1 ∧ a / 8192 % 4 = 0) ∨ (a / 4096 % 8 = 2 ∧ a / 8192 % 4 = 1) ∨ (a / 4096 % 8 = 3 ∧ a / 8192 % 4 = 1) ∨ (a / 4096 % 8 = 4 ∧ a / 8192 % 4 = 2) ∨ (a / 4096 % 8 = 5 ∧ a / 8192 % 4 = 2) ∨ (a / 4096 % 8 = 6 ∧ a / 8192 % 4 = 3) ∨ (a / 4096 % 8 = 7 ∧ a / 8192 % 4 = 3) := by omega
  have f9b := fa_f9b ba
  have f10b := fa_f10b ba
  obtain ⟨m1, m3, m15, m31, m127⟩ := masks bx
  have f1 := fa_f1 ba
  have f2 := fa_f2 ba
  have f3 := fa_f3 ba
  have f4 := fa_f4 ba
  have f5 := fa_f5 ba
  have f6 := fa_f6 ba
  have f7 := fa_f7 ba
  have f8 := fa_f8 ba
  have f9 := fa_f9 ba
  have f10 := fa_f10 ba
  have f11 := mid8 ba
  have g1 := fa_g1 bx
  have g2 := fa_g2 bx
  have g3 := fa_g3 bx
  have g4 := fa_g4 bx
  have g5 := fa_g5 bx
  have g6 := fa_g6 bx
  have w2 := fa_w2 bx
  have w4 := fa_w4 bx
  have w16 := fa_w16 bx
  have w32 := fa_w32 bx
  have w128 := fa_w128 bx
  have o16 := fa_o16 bx
  have o32 := fa_o32 bx
  have o128 := fa_o128 bx
  rcases hq with ⟨hq, hp⟩ | ⟨hq, hp⟩ | ⟨hq, hp⟩ | ⟨hq, hp⟩ | ⟨hq, hp⟩ | ⟨hq, hp⟩ | ⟨hq, hp⟩ | ⟨hq, hp⟩
  · repeat' first
      | (refine T.br_t ?_ ?_; focus (simp [wn0, wn1, wn2, wn3, wn4, wn5, wn6, wn7, f9b, f10b, f1, f2, f3, f4, f5, f6, f7, f8, f9, f10, f11, g1, g2, g3, g4, g5, g6, w2, w4, w16, w32, w128, m1, m3, m15, m31, m127, maxes, o16, o32, o128, hq, hp]; done))
      | (refine T.br_f ?_ ?_; focus (simp [wn0, wn1, wn2, wn3, wn4, wn5, wn6, wn7, f9b, f10b, f1, f2, f3, f4, f5, f6, f7, f8, f9, f10, f11, g1, g2, g3, g4, g5, g6, w2, w4, w16, w32, w128, m1, m3, m15, m31, m127, maxes, o16, o32, o128, hq, hp]; done))
      | (refine T.br_t ?_ ?_; focus (simp only [wn0, wn1, wn2, wn3, wn4, wn5, wn6, wn7, f9b, f10b, f1, f2, f3, f4, f5, f6, f7, f8, f9, f10, f11, g1, g2, g3, g4, g5, g6, w2, w4, w16, w32, w128, m1, m3, m15, m31, m127, maxes, o16, o32, o128, hq, hp, beq_self_eq_true, Int.reduceBEq, decide_true]; done))
      | (refine T.br_f ?_ ?_; focus (simp only [wn0, wn1, wn2, wn3, wn4, wn5, wn6, wn7, f9b, f10b, f1, f2, f3, f4, f5, f6, f7, f8, f9, f10, f11, g1, g2, g3, g4, g5, g6, w2, w4, w16, w32, w128, m1, m3, m15, m31, m127, maxes, o16, o32, o128, hq, hp, beq_self_eq_true, Int.reduceBEq, decide_false]; done))
    refine ⟨rfl, ?_⟩
    simp [Mb.one, beqd, AV.γ, V.γ, Sc.γ, Mb.wOn, Mb.wLow, Mb.wHigh, Mb.wMode, Mb.wLast, Mb.wHeld, wn0, wn1, wn2, wn3, wn4, wn5, wn6, wn7, f9b, f10b, f1, f2, f3, f4, f5, f6, f7, f8, f9, f10, f11, g1, g2, g3, g4, g5, g6, w2, w4, w16, w32, w128, m1, m3, m15, m31, m127, maxes, o16, o32, o128, hq, hp]
  · repeat' first
      | (refine T.br_t ?_ ?_; focus (simp [wn0, wn1, wn2, wn3, wn4, wn5, wn6, wn7, f9b, f10b, f1, f2, f3, f4, f5, f6, f7, f8, f9, f10, f11, g1, g2, g3, g4, g5, g6, w2, w4, w16, w32, w128, m1, m3, m15, m31, m127, maxes, o16, o32, o128, hq, hp]; done))
      | (refine T.br_f ?_ ?_; focus (simp [wn0, wn1, wn2, wn3, wn4, wn5, wn6, wn7, f9b, f10b, f1, f2, f3, f4, f5, f6, f7, f8, f9, f10, f11, g1, g2, g3, g4, g5, g6, w2, w4, w16, w32, w128, m1, m3, m15, m31, m127, maxes, o16, o32, o128, hq, hp]; done))
      | (refine T.br_t ?_ ?_; focus (simp only [wn0, wn1, wn2, wn3, wn4, wn5, wn6, wn7, f9b, f10b, f1, f2, f3, f4, f5, f6, f7, f8, f9, f10, f11, g1, g2, g3, g4, g5, g6, w2, w4, w16, w32, w128, m1, m3, m15, m31, m127, maxes, o16, o32, o128, hq, hp, beq_self_eq_true, Int.reduceBEq, decide_true]; done))
      | (refine T.br_f ?_ ?_; focus (simp only [wn0, wn1, wn2, wn3, wn4, wn5, wn6, wn7, f9b, f10b, f1, f2, f3, f4, f5, f6, f7, f8, f9, f10, f11, g1, g2, g3, g4, g5, g6, w2, w4, w16, w32, w128, m1, m3, m15, m31, m127, maxes, o16, o32, o128, hq, hp, beq_self_eq_true, Int.reduceBEq, decide_false]; done))
    refine ⟨rfl, ?_⟩
    simp [Mb.one, beqd, AV.γ, V.γ, Sc.γ, Mb.wOn, Mb.wLow, Mb.wHigh, Mb.wMode, Mb.wLast, Mb.wHeld, wn0, wn1, wn2, wn3, wn4, wn5, wn6, wn7, f9b, f10b, f1, f2, f3, f4, f5, f6, f7, f8, f9, f10, f11, g1, g2, g3, g4, g5, g6, w2, w4, w16, w32, w128, m1, m3, m15, m31, m127, maxes, o16, o32, o128, hq, hp]
  · by_cases hl : x % 128 = 0
    · repeat' first
        | (refine T.br_t ?_ ?_; focus (simp [wn0, wn1, wn2, wn3, wn4, wn5, wn6, wn7, f9b, f10b, f1, f2, f3, f4, f5, f6, f7, f8, f9, f10, f11, g1, g2, g3, g4, g5, g6, w2, w4, w16, w32, w128, m1, m3, m15, m31, m127, maxes, o16, o32, o128, hq, hp, hl]; done))
        | (refine T.br_f ?_ ?_; focus (simp [wn0, wn1, wn2, wn3, wn4, wn5, wn6, wn7, f9b, f10b, f1, f2, f3, f4, f5, f6, f7, f8, f9, f10, f11, g1, g2, g3, g4, g5, g6, w2, w4, w16, w32, w128, m1, m3, m15, m31, m127, maxes, o16, o32, o128, hq, hp, hl]; done))
        | (refine T.br_t ?_ ?_; focus (simp only [wn0, wn1, wn2, wn3, wn4, wn5, wn6, wn7, f9b, f10b, f1, f2, f3, f4, f5, f6, f7, f8, f9, f10, f11, g1, g2, g3, g4, g5, g6, w2, w4, w16, w32, w128, m1, m3, m15, m31, m127, maxes, o16, o32, o128, hq, hp, hl, beq_self_eq_true, Int.reduceBEq, decide_true]; done))
        | (refine T.br_f ?_ ?_; focus (simp only [wn0, wn1, wn2, wn3, wn4, wn5, wn6, wn7, f9b, f10b, f1, f2, f3, f4, f5, f6, f7, f8, f9, f10, f11, g1, g2, g3, g4, g5, g6, w2, w4, w16, w32, w128, m1, m3, m15, m31, m127, maxes, o16, o32, o128, hq, hp, hl, beq_self_eq_true, Int.reduceBEq, decide_false]; done))
      refine ⟨rfl, ?_⟩
      simp [Mb.one, beqd, AV.γ, V.γ, Sc.γ, Mb.wOn, Mb.wLow, Mb.wHigh, Mb.wMode, Mb.wLast, Mb.wHeld, wn0, wn1, wn2, wn3, wn4, wn5, wn6, wn7, f9b, f10b, f1, f2, f3, f4, f5, f6, f7, f8, f9, f10, f11, g1, g2, g3, g4, g5, g6, w2, w4, w16, w32, w128, m1, m3, m15, m31, m127, maxes, o16, o32, o128, hq, hp, hl]
    · repeat' first
        | (refine T.br_t ?_ ?_; focus (simp [wn0, wn1, wn2, wn3, wn4, wn5, wn6, wn7, f9b, f10b, f1, f2, f3, f4, f5, f6, f7, f8, f9, f10, f11, g1, g2, g3, g4, g5, g6, w2, w4, w16, w32, w128, m1, m3, m15, m31, m127, maxes, o16, o32, o128, hq, hp, hl]; done))
        | (refine T.br_f ?_ ?_; focus (simp [wn0, wn1, wn2, wn3, wn4, wn5, wn6, wn7, f9b, f10b, f1, f2, f3, f4, f5, f6, f7, f8, f9, f10, f11, g1, g2, g3, g4, g5, g6, w2, w4, w16, w32, w128, m1, m3, m15, m31, m127, maxes, o16, o32, o128, hq, hp, hl]; done))
        | (refine T.br_t ?_ ?_; focus (simp only [wn0, wn1, wn2, wn3, wn4, wn5, wn6, wn7, f9b, f10b, f1, f2, f3, f4, f5, f6, f7, f8, f9, f10, f11, g1, g2, g3, g4, g5, g6, w2, w4, w16, w32, w128, m1, m3, m15, m31, m127, maxes, o16, o32, o128, hq, hp, hl, beq_self_eq_true, Int.reduceBEq, decide_true]; done))
        | (refine T.br_f ?_ ?_; focus (simp only [wn0, wn1, wn2, wn3, wn4, wn5, wn6, wn7, f9b, f10b, f1, f2, f3, f4, f5, f6, f7, f8, f9, f10, f11, g1, g2, g3, g4, g5, g6, w2, w4, w16, w32, w128, m1, m3, m15, m31, m127, maxes, o16, o32, o128, hq, hp, hl, beq_self_eq_true, Int.reduceBEq, decide_false]; done))
      refine ⟨rfl, ?_⟩
      simp [Mb.one, beqd, AV.γ, V.γ, Sc.γ, Mb.wOn, Mb.wLow, Mb.wHigh, Mb.wMode, Mb.wLast, Mb.wHeld, wn0, wn1, wn2, wn3, wn4, wn5, wn6, wn7, f9b, f10b, f1, f2, f3, f4, f5, f6, f7, f8, f9, f10, f11, g1, g2, g3, g4, g5, g6, w2, w4, w16, w32, w128, m1, m3, m15, m31, m127, maxes, o16, o32, o128, hq, hp, hl]
  · by_cases hl : x % 128 = 0
    · repeat' first
        | (refine T.br_t ?_ ?_; focus (simp [wn0, wn1, wn2, wn3, wn4, wn5, wn6, wn7, f9b, f10b, f1, f2, f3, f4, f5, f6, f7, f8, f9, f10, f11, g1, g2, g3, g4, g5, g6, w2, w4, w16, w32, w128, m1, m3, m15, m31, m127, maxes, o16, o32, o128, hq, hp, hl]; done))
        | (refine T.br_f ?_ ?_; focus (simp [wn0, wn1, wn2, wn3, wn4, wn5, wn6, wn7, f9b, f10b, f1, f2, f3, f4, f5, f6, f7, f8, f9, f10, f11, g1, g2, g3, g4, g5, g6, w2, w4, w16, w32, w128, m1, m3, m15, m31, m127, maxes, o16, o32, o128, hq, hp, hl]; done))
        | (refine T.br_t ?_ ?_; focus (simp only [wn0, wn1, wn2, wn3, wn4, wn5, wn6, wn7, f9b, f10b, f1, f2, f3, f4, f5, f6, f7, f8, f9, f10, f11, g1, g2, g3, g4, g5, g6, w2, w4, w16, w32, w128, m1, m3, m15, m31, m127, maxes, o16, o32, o128, hq, hp, hl, beq_self_eq_true, Int.reduceBEq, decide_true]; done))
        | (refine T.br_f ?_ ?_; focus (simp only [wn0, wn1, wn2, wn3, wn4, wn5, wn6, wn7, f9b, f10b, f1, f2, f3, f4, f5, f6, f7, f8, f9, f10, f11, g1, g2, g3, g4, g5, g6, w2, w4, w16, w32, w128, m1, m3, m15, m31, m127, maxes, o16, o32, o128, hq, hp, hl, beq_self_eq_true, Int.reduceBEq, decide_false]; done))
      refine ⟨rfl, ?_⟩
      simp [Mb.one, beqd, AV.γ, V.γ, Sc.γ, Mb.wOn, Mb.wLow, Mb.wHigh, Mb.wMode, Mb.wLast, Mb.wHeld, wn0, wn1, wn2, wn3, wn4, wn5, wn6, wn7, f9b, f10b, f1, f2, f3, f4, f5, f6, f7, f8, f9, f10, f11, g1, g2, g3, g4, g5, g6, w2, w4, w16, w32, w128, m1, m3, m15, m31, m127, maxes, o16, o32, o128, hq, hp, hl]
    · repeat' first
        | (refine T.br_t ?_ ?_; focus (simp [wn0, wn1, wn2, wn3, wn4, wn5, wn6, wn7, f9b, f10b, f1, f2, f3, f4, f5, f6, f7, f8, f9, f10, f11, g1, g2, g3, g4, g5, g6, w2, w4, w16, w32, w128, m1, m3, m15, m31, m127, maxes, o16, o32, o128, hq, hp, hl]; done))
        | (refine T.br_f ?_ ?_; focus (simp [wn0, wn1, wn2, wn3, wn4, wn5, wn6, wn7, f9b, f10b, f1, f2, f3, f4, f5, f6, f7, f8, f9, f10, f11, g1, g2, g3, g4, g5, g6, w2, w4, w16, w32, w128, m1, m3, m15, m31, m127, maxes, o16, o32, o128, hq, hp, hl]; done))
        | (refine T.br_t ?_ ?_; focus (simp only [wn0, wn1, wn2, wn3, wn4, wn5, wn6, wn7, f9b, f10b, f1, f2, f3, f4, f5, f6, f7, f8, f9, f10, f11, g1, g2, g3, g4, g5, g6, w2, w4, w16, w32, w128, m1, m3, m15, m31, m127, maxes, o16, o32, o128, hq, hp, hl, beq_self_eq_true, Int.reduceBEq, decide_true]; done))
        | (refine T.br_f ?_ ?_; focus (simp only [wn0, wn1, wn2, wn3, wn4, wn5, wn6, wn7, f9b, f10b, f1, f2, f3, f4, f5, f6, f7, f8, f9, f10, f11, g1, g2, g3, g4, g5, g6, w2, w4, w16, w32, w128, m1, m3, m15, m31, m127, maxes, o16, o32, o128, hq, hp, hl, beq_self_eq_true, Int.reduceBEq, decide_false]; done))
      refine ⟨rfl, ?_⟩
      simp [Mb.one, beqd, AV.γ, V.γ, Sc.γ, Mb.wOn, Mb.wLow, Mb.wHigh, Mb.wMode, Mb.wLast, Mb.wHeld, wn0, wn1, wn2, wn3, wn4, wn5, wn6, wn7, f9b, f10b, f1, f2, f3, f4, f5, f6, f7, f8, f9, f10, f11, g1, g2, g3, g4, g5, g6, w2, w4, w16, w32, w128, m1, m3, m15, m31, m127, maxes, o16, o32, o128, hq, hp, hl]
  · repeat' first
      | (refine T.br_t ?_ ?_; focus (simp [wn0, wn1, wn2, wn3, wn4, wn5, wn6, wn7, f9b, f10b, f1, f2, f3, f4, f5, f6, f7, f8, f9, f10, f11, g1, g2, g3, g4, g5, g6, w2, w4, w16, w32, w128, m1, m3, m15, m31, m127, maxes, o16, o32, o128, hq, hp]; done))
      | (refine T.br_f ?_ ?_; focus (simp [wn0, wn1, wn2, wn3, wn4, wn5, wn6, wn7, f9b, f10b, f1, f2, f3, f4, f5, f6, f7, f8, f9, f10, f11, g1, g2, g3, g4, g5, g6, w2, w4, w16, w32, w128, m1, m3, m15, m31, m127, maxes, o16, o32, o128, hq, hp]; done))
      | (refine T.br_t ?_ ?_; focus (simp only [wn0, wn1, wn2, wn3, wn4, wn5, wn6, wn7, f9b, f10b, f1, f2, f3, f4, f5, f6, f7, f8, f9, f10, f11, g1, g2, g3, g4, g5, g6, w2, w4, w16, w32, w128, m1, m3, m15, m31, m127, maxes, o16, o32, o128, hq, hp, beq_self_eq_true, Int.reduceBEq, decide_true]; done))
      | (refine T.br_f ?_ ?_; focus (simp only [wn0, wn1, wn2, wn3, wn4, wn5, wn6, wn7, f9b, f10b, f1, f2, f3, f4, f5, f6, f7, f8, f9, f10, f11, g1, g2, g3, g4, g5, g6, w2, w4, w16, w32, w128, m1, m3, m15, m31, m127, maxes, o16, o32, o128, hq, hp, beq_self_eq_true, Int.reduceBEq, decide_false]; done))
    refine ⟨rfl, ?_⟩
    simp [Mb.one, beqd, AV.γ, V.γ, Sc.γ, Mb.wOn, Mb.wLow, Mb.wHigh, Mb.wMode, Mb.wLast, Mb.wHeld, wn0, wn1, wn2, wn3, wn4, wn5, wn6, wn7, f9b, f10b, f1, f2, f3, f4, f5, f6, f7, f8, f9, f10, f11, g1, g2, g3, g4, g5, g6, w2, w4, w16, w32, w128, m1, m3, m15, m31, m127, maxes, o16, o32, o128, hq, hp]
  · repeat' first
      | (refine T.br_t ?_ ?_; focus (simp [wn0, wn1, wn2, wn3, wn4, wn5, wn6, wn7, f9b, f10b, f1, f2, f3, f4, f5, f6, f7, f8, f9, f10, f11, g1, g2, g3, g4, g5, g6, w2, w4, w16, w32, w128, m1, m3, m15, m31, m127, maxes, o16, o32, o128, hq, hp]; done))
      | (refine T.br_f ?_ ?_; focus (simp [wn0, wn1, wn2, wn3, wn4, wn5, wn6, wn7, f9b, f10b, f1, f2, f3, f4, f5, f6, f7, f8, f9, f10, f11, g1, g2, g3, g4, g5, g6, w2, w4, w16, w32, w128, m1, m3, m15, m31, m127, maxes, o16, o32, o128, hq, hp]; done))
      | (refine T.br_t ?_ ?_; focus (simp only [wn0, wn1, wn2, wn3, wn4, wn5, wn6, wn7, f9b, f10b, f1, f2, f3, f4, f5, f6, f7, f8, f9, f10, f11, g1, g2, g3, g4, g5, g6, w2, w4, w16, w32, w128, m1, m3, m15, m31, m127, maxes, o16, o32, o128, hq, hp, beq_self_eq_true, Int.reduceBEq, decide_true]; done))
      | (refine T.br_f ?_ ?_; focus (simp only [wn0, wn1, wn2, wn3, wn4, wn5, wn6, wn7, f9b, f10b, f1, f2, f3, f4, f5, f6, f7, f8, f9, f10, f11, g1, g2, g3, g4, g5, g6, w2, w4, w16, w32, w128, m1, m3, m15, m31, m127, maxes, o16, o32, o128, hq, hp, beq_self_eq_true, Int.reduceBEq, decide_false]; done))
    refine ⟨rfl, ?_⟩
    simp [Mb.one, beqd, AV.γ, V.γ, Sc.γ, Mb.wOn, Mb.wLow, Mb.wHigh, Mb.wMode, Mb.wLast, Mb.wHeld, wn0, wn1, wn2, wn3, wn4, wn5, wn6, wn7, f9b, f10b, f1, f2, f3, f4, f5, f6, f7, f8, f9, f10, f11, g1, g2, g3, g4, g5, g6, w2, w4, w16, w32, w128, m1, m3, m15, m31, m127, maxes, o16, o32, o128, hq, hp]
  · by_cases hl : last = 0
    · repeat' first
        | (refine T.br_t ?_ ?_; focus (simp [wn0, wn1, wn2, wn3, wn4, wn5, wn6, wn7, f9b, f10b, f1, f2, f3, f4, f5, f6, f7, f8, f9, f10, f11, g1, g2, g3, g4, g5, g6, w2, w4, w16, w32, w128, m1, m3, m15, m31, m127, maxes, o16, o32, o128, hq, hp, hl]; done))
        | (refine T.br_f ?_ ?_; focus (simp [wn0, wn1, wn2, wn3, wn4, wn5, wn6, wn7, f9b, f10b, f1, f2, f3, f4, f5, f6, f7, f8, f9, f10, f11, g1, g2, g3, g4, g5, g6, w2, w4, w16, w32, w128, m1, m3, m15, m31, m127, maxes, o16, o32, o128, hq, hp, hl]; done))
        | (refine T.br_t ?_ ?_; focus (simp only [wn0, wn1, wn2, wn3, wn4, wn5, wn6, wn7, f9b, f10b, f1, f2, f3, f4, f5, f6, f7, f8, f9, f10, f11, g1, g2, g3, g4, g5, g6, w2, w4, w16, w32, w128, m1, m3, m15, m31, m127, maxes, o16, o32, o128, hq, hp, hl, beq_self_eq_true, Int.reduceBEq, decide_true]; done))
        | (refine T.br_f ?_ ?_; focus (simp only [wn0, wn1, wn2, wn3, wn4, wn5, wn6, wn7, f9b, f10b, f1, f2, f3, f4, f5, f6, f7, f8, f9, f10, f11, g1, g2, g3, g4, g5, g6, w2, w4, w16, w32, w128, m1, m3, m15, m31, m127, maxes, o16, o32, o128, hq, hp, hl, beq_self_eq_true, Int.reduceBEq, decide_false]; done))
      refine ⟨rfl, ?_⟩
      simp [Mb.one, beqd, AV.γ, V.γ, Sc.γ, Mb.wOn, Mb.wLow, Mb.wHigh, Mb.wMode, Mb.wLast, Mb.wHeld, wn0, wn1, wn2, wn3, wn4, wn5, wn6, wn7, f9b, f10b, f1, f2, f3, f4, f5, f6, f7, f8, f9, f10, f11, g1, g2, g3, g4, g5, g6, w2, w4, w16, w32, w128, m1, m3, m15, m31, m127, maxes, o16, o32, o128, hq, hp, hl]
    · repeat' first
        | (refine T.br_t ?_ ?_; focus (simp [wn0, wn1, wn2, wn3, wn4, wn5, wn6, wn7, f9b, f10b, f1, f2, f3, f4, f5, f6, f7, f8, f9, f10, f11, g1, g2, g3, g4, g5, g6, w2, w4, w16, w32, w128, m1, m3, m15, m31, m127, maxes, o16, o32, o128, hq, hp, hl]; done))
        | (refine T.br_f ?_ ?_; focus (simp [wn0, wn1, wn2, wn3, wn4, wn5, wn6, wn7, f9b, f10b, f1, f2, f3, f4, f5, f6, f7, f8, f9, f10, f11, g1, g2, g3, g4, g5, g6, w2, w4, w16, w32, w128, m1, m3, m15, m31, m127, maxes, o16, o32, o128, hq, hp, hl]; done))
        | (refine T.br_t ?_ ?_; focus (simp only [wn0, wn1, wn2, wn3, wn4, wn5, wn6, wn7, f9b, f10b, f1, f2, f3, f4, f5, f6, f7, f8, f9, f10, f11, g1, g2, g3, g4, g5, g6, w2, w4, w16, w32, w128, m1, m3, m15, m31, m127, maxes, o16, o32, o128, hq, hp, hl, beq_self_eq_true, Int.reduceBEq, decide_true]; done))
        | (refine T.br_f ?_ ?_; focus (simp only [wn0, wn1, wn2, wn3, wn4, wn5, wn6, wn7, f9b, f10b, f1, f2, f3, f4, f5, f6, f7, f8, f9, f10, f11, g1, g2, g3, g4, g5, g6, w2, w4, w16, w32, w128, m1, m3, m15, m31, m127, maxes, o16, o32, o128, hq, hp, hl, beq_self_eq_true, Int.reduceBEq, decide_false]; done))
      refine ⟨rfl, ?_⟩
      simp [Mb.one, beqd, AV.γ, V.γ, Sc.γ, Mb.wOn, Mb.wLow, Mb.wHigh, Mb.wMode, Mb.wLast, Mb.wHeld, wn0, wn1, wn2, wn3, wn4, wn5, wn6, wn7, f9b, f10b, f1, f2, f3, f4, f5, f6, f7, f8, f9, f10, f11, g1, g2, g3, g4, g5, g6, w2, w4, w16, w32, w128, m1, m3, m15, m31, m127, maxes, o16, o32, o128, hq, hp, hl]
  · by_cases hl : last = 0
    · repeat' first
        | (refine T.br_t ?_ ?_; focus (simp [wn0, wn1, wn2, wn3, wn4, wn5, wn6, wn7, f9b, f10b, f1, f2, f3, f4, f5, f6, f7, f8, f9, f10, f11, g1, g2, g3, g4, g5, g6, w2, w4, w16, w32, w128, m1, m3, m15, m31, m127, maxes, o16, o32, o128, hq, hp, hl]; done))
        | (refine T.br_f ?_ ?_; focus (simp [wn0, wn1, wn2, wn3, wn4, wn5, wn6, wn7, f9b, f10b, f1, f2, f3, f4, f5, f6, f7, f8, f9, f10, f11, g1, g2, g3, g4, g5, g6, w2, w4, w16, w32, w128, m1, m3, m15, m31, m127, maxes, o16, o32, o128, hq, hp, hl]; done))
        | (refine T.br_t ?_ ?_; focus (simp only [wn0, wn1, wn2, wn3, wn4, wn5, wn6, wn7, f9b, f10b, f1, f2, f3, f4, f5, f6, f7, f8, f9, f10, f11, g1, g2, g3, g4, g5, g6, w2, w4, w16, w32, w128, m1, m3, m15, m31, m127, maxes, o16, o32, o128, hq, hp, hl, beq_self_eq_true, Int.reduceBEq, decide_true]; done))
        | (refine T.br_f ?_ ?_; focus (simp only [wn0, wn1, wn2, wn3, wn4, wn5, wn6, wn7, f9b, f10b, f1, f2, f3, f4, f5, f6, f7, f8, f9, f10, f11, g1, g2, g3, g4, g5, g6, w2, w4, w16, w32, w128, m1, m3, m15, m31, m127, maxes, o16, o32, o128, hq, hp, hl, beq_self_eq_true, Int.reduceBEq, decide_false]; done))
      refine ⟨rfl, ?_⟩
      simp [Mb.one, beqd, AV.γ, V.γ, Sc.γ, Mb.wOn, Mb.wLow, Mb.wHigh, Mb.wMode, Mb.wLast, Mb.wHeld, wn0, wn1, wn2, wn3, wn4, wn5, wn6, wn7, f9b, f10b, f1, f2, f3, f4, f5, f6, f7, f8, f9, f10, f11, g1, g2, g3, g4, g5, g6, w2, w4, w16, w32, w128, m1, m3, m15, m31, m127, maxes, o16, o32, o128, hq, hp, hl]
    · repeat' first
        | (refine T.br_t ?_ ?_; focus (simp [wn0, wn1, wn2, wn3, wn4, wn5, wn6, wn7, f9b, f10b, f1, f2, f3, f4, f5, f6, f7, f8, f9, f10, f11, g1, g2, g3, g4, g5, g6, w2, w4, w16, w32, w128, m1, m3, m15, m31, m127, maxes, o16, o32, o128, hq, hp, hl]; done))
        | (refine T.br_f ?_ ?_; focus (simp [wn0, wn1, wn2, wn3, wn4, wn5, wn6, wn7, f9b, f10b, f1, f2, f3, f4, f5, f6, f7, f8, f9, f10, f11, g1, g2, g3, g4, g5, g6, w2, w4, w16, w32, w128, m1, m3, m15, m31, m127, maxes, o16, o32, o128, hq, hp, hl]; done))
        | (refine T.br_t ?_ ?_; focus (simp only [wn0, wn1, wn2, wn3, wn4, wn5, wn6, wn7, f9b, f10b, f1, f2, f3, f4, f5, f6, f7, f8, f9, f10, f11, g1, g2, g3, g4, g5, g6, w2, w4, w16, w32, w128, m1, m3, m15, m31, m127, maxes, o16, o32, o128, hq, hp, hl, beq_self_eq_true, Int.reduceBEq, decide_true]; done))
        | (refine T.br_f ?_ ?_; focus (simp only [wn0, wn1, wn2, wn3, wn4, wn5, wn6, wn7, f9b, f10b, f1, f2, f3, f4, f5, f6, f7, f8, f9, f10, f11, g1, g2, g3, g4, g5, g6, w2, w4, w16, w32, w128, m1, m3, m15, m31, m127, maxes, o16, o32, o128, hq, hp, hl, beq_self_eq_true, Int.reduceBEq, decide_false]; done))
      refine ⟨rfl, ?_⟩
      simp [Mb.one, beqd, AV.γ, V.γ, Sc.γ, Mb.wOn, Mb.wLow, Mb.wHigh, Mb.wMode, Mb.wLast, Mb.wHeld, wn0, wn1, wn2, wn3, wn4, wn5, wn6, wn7, f9b, f10b, f1, f2, f3, f4, f5, f6, f7, f8, f9, f10, f11, g1, g2, g3, g4, g5, g6, w2, w4, w16, w32, w128, m1, m3, m15, m31, m127, maxes, o16, o32, o128, hq, hp, hl]
set_option maxHeartbeats 4000000 in
theorem rwrite5_any (w : World) (banks ram : Int) (on mode : Bool) (low high last : Int) (a x : Int) (ba : Mb.W a) (bx : Mb.B x) (bl : 0 ≤ low ∧ low < 512) : Calls Try.prog 15 #[.agg #[.int .i64 5, .int .i64 banks, .int .i64 ram, .bool on, .bool mode, .int .i64 low, .int .i64 high, .int .u8 last], .int .u16 a, .int .u8 x] w fun e w' => e = .returned (.tuple #[.agg #[.int .i64 5, .int .i64 banks, .int .i64 ram, .bool (Mb.wOn 5 a x on), .bool (Mb.wMode 5 a x mode), .int .i64 (Mb.wLow 5 a x low), .int .i64 (Mb.wHigh 5 a x high), .int .u8 (Mb.wLast 5 a x last)], .bool (Mb.wHeld 5 a x last)]) ∧ Below w.heap.size w w' := by
  refine val_eq base2 (ctrs_none _ _) (loops_none _ _) (rwrite5_tree w banks ram on mode low high last a x) rfl ?_
  have hq : (a / 4096 % 8 = 0 ∧ a / 8192 % 4 = 0) ∨ (a / 4096 % 8 = 1 ∧ a / 8192 % 4 = 0) ∨ (a / 4096 % 8 = 2 ∧ a / 8192 % 4 = 1) ∨ (a / 4096 % 8 = 3 ∧ a / 8192 % 4 = 1) ∨ (a / 4096 % 8 = 4 ∧ a / 8192 % 4 = 2) ∨ (a / 4096 % 8 = 5 ∧ a / 8192 % 4 = 2) ∨ (a / 4096 % 8 = 6 ∧ a / 8192 % 4 = 3) ∨ (a / 4096 % 8 = 7 ∧ a / 8192 % 4 = 3) := by omega
  have f9b := fa_f9b ba
  have f10b := fa_f10b ba
  obtain ⟨m1, m3, m15, m31, m127⟩ := masks bx
  have f1 := fa_f1 ba
  have f2 := fa_f2 ba
  have f3 := fa_f3 ba
  have f4 := fa_f4 ba
  have f5 := fa_f5 ba
  have f6 := fa_f6 ba
  have f7 := fa_f7 ba
  have f8 := fa_f8 ba
  have f9 := fa_f9 ba
  have f10 := fa_f10 ba
  have f11 := mid8 ba
  have g1 := fa_g1 bx
  have g2 := fa_g2 bx
  have g3 := fa_g3 bx
  have g4 := fa_g4 bx
  have g5 := fa_g5 bx
  have g6 := fa_g6 bx
  have w2 := fa_w2 bx
  have w4 := fa_w4 bx
  have w16 := fa_w16 bx
  have w32 := fa_w32 bx
  have w128 := fa_w128 bx
  have o16 := fa_o16 bx
  have o32 := fa_o32 bx
  have o128 := fa_o128 bx
  obtain ⟨l1, l2⟩ := lows bl
  have e1 := fb_e1 bl bx
  have e2 := fb_e2 bl bx
  have e3 := fb_e3 bl bx
  have e4 := fb_e4 bl bx
  have e5 := fb_e5 bl bx
  have e6 := fb_e6 bl bx
  have e7 := fb_e7 bl bx
  have e8 := fb_e8 bl bx
  have e9 := fb_e9 bl bx
  rcases hq with ⟨hq, hp⟩ | ⟨hq, hp⟩ | ⟨hq, hp⟩ | ⟨hq, hp⟩ | ⟨hq, hp⟩ | ⟨hq, hp⟩ | ⟨hq, hp⟩ | ⟨hq, hp⟩
  · repeat' first
      | (refine T.br_t ?_ ?_; focus (simp [wn0, wn1, wn2, wn3, wn4, wn5, wn6, wn7, f9b, f10b, f1, f2, f3, f4, f5, f6, f7, f8, f9, f10, f11, g1, g2, g3, g4, g5, g6, w2, w4, w16, w32, w128, m1, m3, m15, m31, m127, maxes, o16, o32, o128, hq, hp, e1, e2, e3, e4, e5, e6, e7, e8, e9, l1, l2]; done))
      | (refine T.br_f ?_ ?_; focus (simp [wn0, wn1, wn2, wn3, wn4, wn5, wn6, wn7, f9b, f10b, f1, f2, f3, f4, f5, f6, f7, f8, f9, f10, f11, g1, g2, g3, g4, g5, g6, w2, w4, w16, w32, w128, m1, m3, m15, m31, m127, maxes, o16, o32, o128, hq, hp, e1, e2, e3, e4, e5, e6, e7, e8, e9, l1, l2]; done))
      | (refine T.br_t ?_ ?_; focus (simp only [wn0, wn1, wn2, wn3, wn4, wn5, wn6, wn7, f9b, f10b, f1, f2, f3, f4, f5, f6, f7, f8, f9, f10, f11, g1, g2, g3, g4, g5, g6, w2, w4, w16, w32, w128, m1, m3, m15, m31, m127, maxes, o16, o32, o128, hq, hp, e1, e2, e3, e4, e5, e6, e7, e8, e9, l1, l2, beq_self_eq_true, Int.reduceBEq, decide_true]; done))
      | (refine T.br_f ?_ ?_; focus (simp only [wn0, wn1, wn2, wn3, wn4, wn5, wn6, wn7, f9b, f10b, f1, f2, f3, f4, f5, f6, f7, f8, f9, f10, f11, g1, g2, g3, g4, g5, g6, w2, w4, w16, w32, w128, m1, m3, m15, m31, m127, maxes, o16, o32, o128, hq, hp, e1, e2, e3, e4, e5, e6, e7, e8, e9, l1, l2, beq_self_eq_true, Int.reduceBEq, decide_false]; done))
    refine ⟨rfl, ?_⟩
    simp [Mb.one, beqd, AV.γ, V.γ, Sc.γ, Mb.wOn, Mb.wLow, Mb.wHigh, Mb.wMode, Mb.wLast, Mb.wHeld, wn0, wn1, wn2, wn3, wn4, wn5, wn6, wn7, f9b, f10b, f1, f2, f3, f4, f5, f6, f7, f8, f9, f10, f11, g1, g2, g3, g4, g5, g6, w2, w4, w16, w32, w128, m1, m3, m15, m31, m127, maxes, o16, o32, o128, hq, hp, e1, e2, e3, e4, e5, e6, e7, e8, e9, l1, l2]
  · repeat' first
      | (refine T.br_t ?_ ?_; focus (simp [wn0, wn1, wn2, wn3, wn4, wn5, wn6, wn7, f9b, f10b, f1, f2, f3, f4, f5, f6, f7, f8, f9, f10, f11, g1, g2, g3, g4, g5, g6, w2, w4, w16, w32, w128, m1, m3, m15, m31, m127, maxes, o16, o32, o128, hq, hp, e1, e2, e3, e4, e5, e6, e7, e8, e9, l1, l2]; done))
      | (refine T.br_f ?_ ?_; focus (simp [wn0, wn1, wn2, wn3, wn4, wn5, wn6, wn7, f9b, f10b, f1, f2, f3, f4, f5, f6, f7, f8, f9, f10, f11, g1, g2, g3, g4, g5, g6, w2, w4, w16, w32, w128, m1, m3, m15, m31, m127, maxes, o16, o32, o128, hq, hp, e1, e2, e3, e4, e5, e6, e7, e8, e9, l1, l2]; done))
      | (refine T.br_t ?_ ?_; focus (simp only [wn0, wn1, wn2, wn3, wn4, wn5, wn6, wn7, f9b, f10b, f1, f2, f3, f4, f5, f6, f7, f8, f9, f10, f11, g1, g2, g3, g4, g5, g6, w2, w4, w16, w32, w128, m1, m3, m15, m31, m127, maxes, o16, o32, o128, hq, hp, e1, e2, e3, e4, e5, e6, e7, e8, e9, l1, l2, beq_self_eq_true, Int.reduceBEq, decide_true]; done))
      | (refine T.br_f ?_ ?_; focus (simp only [wn0, wn1, wn2, wn3, wn4, wn5, wn6, wn7, f9b, f10b, f1, f2, f3, f4, f5, f6, f7, f8, f9, f10, f11, g1, g2, g3, g4, g5, g6, w2, w4, w16, w32, w128, m1, m3, m15, m31, m127, maxes, o16, o32, o128, hq, hp, e1, e2, e3, e4, e5, e6, e7, e8, e9, l1, l2, beq_self_eq_true, Int.reduceBEq, decide_false]; done))
    refine ⟨rfl, ?_⟩
    simp [Mb.one, beqd, AV.γ, V.γ, Sc.γ, Mb.wOn, Mb.wLow, Mb.wHigh, Mb.wMode, Mb.wLast, Mb.wHeld, wn0, wn1, wn2, wn3, wn4, wn5, wn6, wn7, f9b, f10b, f1, f2, f3, f4, f5, f6, f7, f8, f9, f10, f11, g1, g2, g3, g4, g5, g6, w2, w4, w16, w32, w128, m1, m3, m15, m31, m127, maxes, o16, o32, o128, hq, hp, e1, e2, e3, e4, e5, e6, e7, e8, e9, l1, l2]
  · repeat' first
      | (refine T.br_t ?_ ?_; focus (simp [wn0, wn1, wn2, wn3, wn4, wn5, wn6, wn7, f9b, f10b, f1, f2, f3, f4, f5, f6, f7, f8, f9, f10, f11, g1, g2, g3, g4, g5, g6, w2, w4, w16, w32, w128, m1, m3, m15, m31, m127, maxes, o16, o32, o128, hq, hp, e1, e2, e3, e4, e5, e6, e7, e8, e9, l1, l2]; done))
      | (refine T.br_f ?_ ?_; focus (simp [wn0, wn1, wn2, wn3, wn4, wn5, wn6, wn7, f9b, f10b, f1, f2, f3, f4, f5, f6, f7, f8, f9, f10, f11, g1, g2, g3, g4, g5, g6, w2, w4, w16, w32, w128, m1, m3, m15, m31, m127, maxes, o16, o32, o128, hq, hp, e1, e2, e3, e4, e5, e6, e7, e8, e9, l1, l2]; done))
      | (refine T.br_t ?_ ?_; focus (simp only [wn0, wn1, wn2, wn3, wn4, wn5, wn6, wn7, f9b, f10b, f1, f2, f3, f4, f5, f6, f7, f8, f9, f10, f11, g1, g2, g3, g4, g5, g6, w2, w4, w16, w32, w128, m1, m3, m15, m31, m127, maxes, o16, o32, o128, hq, hp, e1, e2, e3, e4, e5, e6, e7, e8, e9, l1, l2, beq_self_eq_true, Int.reduceBEq, decide_true]; done))
      | (refine T.br_f ?_ ?_; focus (simp only [wn0, wn1, wn2, wn3, wn4, wn5, wn6, wn7, f9b, f10b, f1, f2, f3, f4, f5, f6, f7, f8, f9, f10, f11, g1, g2, g3, g4, g5, g6, w2, w4, w16, w32, w128, m1, m3, m15, m31, m127, maxes, o16, o32, o128, hq, hp, e1, e2, e3, e4, e5, e6, e7, e8, e9, l1, l2, beq_self_eq_true, Int.reduceBEq, decide_false]; done))
    refine ⟨rfl, ?_⟩
    simp [Mb.one, beqd, AV.γ, V.γ, Sc.γ, Mb.wOn, Mb.wLow, Mb.wHigh, Mb.wMode, Mb.wLast, Mb.wHeld, wn0, wn1, wn2, wn3, wn4, wn5, wn6, wn7, f9b, f10b, f1, f2, f3, f4, f5, f6, f7, f8, f9, f10, f11, g1, g2, g3, g4, g5, g6, w2, w4, w16, w32, w128, m1, m3, m15, m31, m127, maxes, o16, o32, o128, hq, hp, e1, e2, e3, e4, e5, e6, e7, e8, e9, l1, l2]
  · repeat' first
      | (refine T.br_t ?_ ?_; focus (simp [wn0, wn1, wn2, wn3, wn4, wn5, wn6, wn7, f9b, f10b, f1, f2, f3, f4, f5, f6, f7, f8, f9, f10, f11, g1, g2, g3, g4, g5, g6, w2, w4, w16, w32, w128, m1, m3, m15, m31, m127, maxes, o16, o32, o128, hq, hp, e1, e2, e3, e4, e5, e6, e7, e8, e9, l1, l2]; done))
      | (refine T.br_f ?_ ?_; focus (simp [wn0, wn1, wn2, wn3, wn4, wn5, wn6, wn7, f9b, f10b, f1, f2, f3, f4, f5, f6, f7, f8, f9, f10, f11, g1, g2, g3, g4, g5, g6, w2, w4, w16, w32, w128, m1, m3, m15, m31, m127, maxes, o16, o32, o128, hq, hp, e1, e2, e3, e4, e5, e6, e7, e8, e9, l1, l2]; done))
      | (refine T.br_t ?_ ?_; focus (simp only [wn0, wn1, wn2, wn3, wn4, wn5, wn6, wn7, f9b, f10b, f1, f2, f3, f4, f5, f6, f7, f8, f9, f10, f11, g1, g2, g3, g4, g5, g6, w2, w4, w16, w32, w128, m1, m3, m15, m31, m127, maxes, o16, o32, o128, hq, hp, e1, e2, e3, e4, e5, e6, e7, e8, e9, l1, l2, beq_self_eq_true, Int.reduceBEq, decide_true]; done))
      | (refine T.br_f ?_ ?_; focus (simp only [wn0, wn1, wn2, wn3, wn4, wn5, wn6, wn7, f9b, f10b, f1, f2, f3, f4, f5, f6, f7, f8, f9, f10, f11, g1, g2, g3, g4, g5, g6, w2, w4, w16, w32, w128, m1, m3, m15, m31, m127, maxes, o16, o32, o128, hq, hp, e1, e2, e3, e4, e5, e6, e7, e8, e9, l1, l2, beq_self_eq_true, Int.reduceBEq, decide_false]; done))
    refine ⟨rfl, ?_⟩
    simp [Mb.one, beqd, AV.γ, V.γ, Sc.γ, Mb.wOn, Mb.wLow, Mb.wHigh, Mb.wMode, Mb.wLast, Mb.wHeld, wn0, wn1, wn2, wn3, wn4, wn5, wn6, wn7, f9b, f10b, f1, f2, f3, f4, f5, f6, f7, f8, f9, f10, f11, g1, g2, g3, g4, g5, g6, w2, w4, w16, w32, w128, m1, m3, m15, m31, m127, maxes, o16, o32, o128, hq, hp, e1, e2, e3, e4, e5, e6, e7, e8, e9, l1, l2]
  · repeat' first
      | (refine T.br_t ?_ ?_; focus (simp [wn0, wn1, wn2, wn3, wn4, wn5, wn6, wn7, f9b, f10b, f1, f2, f3, f4, f5, f6, f7, f8, f9, f10, f11, g1, g2, g3, g4, g5, g6, w2, w4, w16, w32, w128, m1, m3, m15, m31, m127, maxes, o16, o32, o128, hq, hp, e1, e2, e3, e4, e5, e6, e7, e8, e9, l1, l2]; done))
      | (refine T.br_f ?_ ?_; focus (simp [wn0, wn1, wn2, wn3, wn4, wn5, wn6, wn7, f9b, f10b, f1, f2, f3, f4, f5, f6, f7, f8, f9, f10, f11, g1, g2, g3, g4, g5, g6, w2, w4, w16, w32, w128, m1, m3, m15, m31, m127, maxes, o16, o32, o128, hq, hp, e1, e2, e3, e4, e5, e6, e7, e8, e9, l1, l2]; done))
      | (refine T.br_t ?_ ?_; focus (simp only [wn0, wn1, wn2, wn3, wn4, wn5, wn6, wn7, f9b, f10b, f1, f2, f3, f4, f5, f6, f7, f8, f9, f10, f11, g1, g2, g3, g4, g5, g6, w2, w4, w16, w32, w128, m1, m3, m15, m31, m127, maxes, o16, o32, o128, hq, hp, e1, e2, e3, e4, e5, e6, e7, e8, e9, l1, l2, beq_self_eq_true, Int.reduceBEq, decide_true]; done))
      | (refine T.br_f ?_ ?_; focus (simp only [wn0, wn1, wn2, wn3, wn4, wn5, wn6, wn7, f9b, f10b, f1, f2, f3, f4, f5, f6, f7, f8, f9, f10, f11, g1, g2, g3, g4, g5, g6, w2, w4, w16, w32, w128, m1, m3, m15, m31, m127, maxes, o16, o32, o128, hq, hp, e1, e2, e3, e4, e5, e6, e7, e8, e9, l1, l2, beq_self_eq_true, Int.reduceBEq, decide_false]; done))
    refine ⟨rfl, ?_⟩
    simp [Mb.one, beqd, AV.γ, V.γ, Sc.γ, Mb.wOn, Mb.wLow, Mb.wHigh, Mb.wMode, Mb.wLast, Mb.wHeld, wn0, wn1, wn2, wn3, wn4, wn5, wn6, wn7, f9b, f10b, f1, f2, f3, f4, f5, f6, f7, f8, f9, f10, f11, g1, g2, g3, g4, g5, g6, w2, w4, w16, w32, w128, m1, m3, m15, m31, m127, maxes, o16, o32, o128, hq, hp, e1, e2, e3, e4, e5, e6, e7, e8, e9, l1, l2]
  · repeat' first
      | (refine T.br_t ?_ ?_; focus (simp [wn0, wn1, wn2, wn3, wn4, wn5, wn6, wn7, f9b, f10b, f1, f2, f3, f4, f5, f6, f7, f8, f9, f10, f11, g1, g2, g3, g4, g5, g6, w2, w4, w16, w32, w128, m1, m3, m15, m31, m127, maxes, o16, o32, o128, hq, hp, e1, e2, e3, e4, e5, e6, e7, e8, e9, l1, l2]; done))
      | (refine T.br_f ?_ ?_; focus (simp [wn0, wn1, wn2, wn3, wn4, wn5, wn6, wn7, f9b, f10b, f1, f2, f3, f4, f5, f6, f7, f8, f9, f10, f11, g1, g2, g3, g4, g5, g6, w2, w4, w16, w32, w128, m1, m3, m15, m31, m127, maxes, o16, o32, o128, hq, hp, e1, e2, e3, e4, e5, e6, e7, e8, e9, l1, l2]; done))
      | (refine T.br_t ?_ ?_; focus (simp only [wn0, wn1, wn2, wn3, wn4, wn5, wn6, wn7, f9b, f10b, f1, f2, f3, f4, f5, f6, f7, f8, f9, f10, f11, g1, g2, g3, g4, g5, g6, w2, w4, w16, w32, w128, m1, m3, m15, m31, m127, maxes, o16, o32, o128, hq, hp, e1, e2, e3, e4, e5, e6, e7, e8, e9, l1, l2, beq_self_eq_true, Int.reduceBEq, decide_true]; done))
      | (refine T.br_f ?_ ?_; focus (simp only [wn0, wn1, wn2, wn3, wn4, wn5, wn6, wn7, f9b, f10b, f1, f2, f3, f4, f5, f6, f7, f8, f9, f10, f11, g1, g2, g3, g4, g5, g6, w2, w4, w16, w32, w128, m1, m3, m15, m31, m127, maxes, o16, o32, o128, hq, hp, e1, e2, e3, e4, e5, e6, e7, e8, e9, l1, l2, beq_self_eq_true, Int.reduceBEq, decide_false]; done))
    refine ⟨rfl, ?_⟩
    simp [Mb.one, beqd, AV.γ, V.γ, Sc.γ, Mb.wOn, Mb.wLow, Mb.wHigh, Mb.wMode, Mb.wLast, Mb.wHeld, wn0, wn1, wn2, wn3, wn4, wn5, wn6, wn7, f9b, f10b, f1, f2, f3, f4, f5, f6, f7, f8, f9, f10, f11, g1, g2, g3, g4, g5, g6, w2, w4, w16, w32, w128, m1, m3, m15, m31, m127, maxes, o16, o32, o128, hq, hp, e1, e2, e3, e4, e5, e6, e7, e8, e9, l1, l2]
  · repeat' first
      | (refine T.br_t ?_ ?_; focus (simp [wn0, wn1, wn2, wn3, wn4, wn5, wn6, wn7, f9b, f10b, f1, f2, f3, f4, f5, f6, f7, f8, f9, f10, f11, g1, g2, g3, g4, g5, g6, w2, w4, w16, w32, w128, m1, m3, m15, m31, m127, maxes, o16, o32, o128, hq, hp, e1, e2, e3, e4, e5, e6, e7, e8, e9, l1, l2]; done))
      | (refine T.br_f ?_ ?_; focus (simp [wn0, wn1, wn2, wn3, wn4, wn5, wn6, wn7, f9b, f10b, f1, f2, f3, f4, f5, f6, f7, f8, f9, f10, f11, g1, g2, g3, g4, g5, g6, w2, w4, w16, w32, w128, m1, m3, m15, m31, m127, maxes, o16, o32, o128, hq, hp, e1, e2, e3, e4, e5, e6, e7, e8, e9, l1, l2]; done))
      | (refine T.br_t ?_ ?_; focus (simp only [wn0, wn1, wn2, wn3, wn4, wn5, wn6, wn7, f9b, f10b, f1, f2, f3, f4, f5, f6, f7, f8, f9, f10, f11, g1, g2, g3, g4, g5, g6, w2, w4, w16, w32, w128, m1, m3, m15, m31, m127, maxes, o16, o32, o128, hq, hp, e1, e2, e3, e4, e5, e6, e7, e8, e9, l1, l2, beq_self_eq_true, Int.reduceBEq, decide_true]; done))
      | (refine T.br_f ?_ ?_; focus (simp only [wn0, wn1, wn2, wn3, wn4, wn5, wn6, wn7, f9b, f10b, f1, f2, f3, f4, f5, f6, f7, f8, f9, f10, f11, g1, g2, g3, g4, g5, g6, w2, w4, w16, w32, w128, m1, m3, m15, m31, m127, maxes, o16, o32, o128, hq, hp, e1, e2, e3, e4, e5, e6, e7, e8, e9, l1, l2, beq_self_eq_true, Int.reduceBEq, decide_false]; done))
    refine ⟨rfl, ?_⟩
    simp [Mb.one, beqd, AV.γ, V.γ, Sc.γ, Mb.wOn, Mb.wLow, Mb.wHigh, Mb.wMode, Mb.wLast, Mb.wHeld, wn0, wn1, wn2, wn3, wn4, wn5, wn6, wn7, f9b, f10b, f1, f2, f3, f4, f5, f6, f7, f8, f9, f10, f11, g1, g2, g3, g4, g5, g6, w2, w4, w16, w32, w128, m1, m3, m15, m31, m127, maxes, o16, o32, o128, hq, hp, e1, e2, e3, e4, e5, e6, e7, e8, e9, l1, l2]
  · repeat' first
      | (refine T.br_t ?_ ?_; focus (simp [wn0, wn1, wn2, wn3, wn4, wn5, wn6, wn7, f9b, f10b, f1, f2, f3, f4, f5, f6, f7, f8, f9, f10, f11, g1, g2, g3, g4, g5, g6, w2, w4, w16, w32, w128, m1, m3, m15, m31, m127, maxes, o16, o32, o128, hq, hp, e1, e2, e3, e4, e5, e6, e7, e8, e9, l1, l2]; done))
      | (refine T.br_f ?_ ?_; focus (simp [wn0, wn1, wn2, wn3, wn4, wn5, wn6, wn7, f9b, f10b, f1, f2, f3, f4, f5, f6, f7, f8, f9, f10, f11, g1, g2, g3, g4, g5, g6, w2, w4, w16, w32, w128, m1, m3, m15, m31, m127, maxes, o16, o32, o128, hq, hp, e1, e2, e3, e4, e5, e6, e7, e8, e9, l1, l2]; done))
      | (refine T.br_t ?_ ?_; focus (simp only [wn0, wn1, wn2, wn3, wn4, wn5, wn6, wn7, f9b, f10b, f1, f2, f3, f4, f5, f6, f7, f8, f9, f10, f11, g1, g2, g3, g4, g5, g6, w2, w4, w16, w32, w128, m1, m3, m15, m31, m127, maxes, o16, o32, o128, hq, hp, e1, e2, e3, e4, e5, e6, e7, e8, e9, l1, l2, beq_self_eq_true, Int.reduceBEq, decide_true]; done))
      | (refine T.br_f ?_ ?_; focus (simp only [wn0, wn1, wn2, wn3, wn4, wn5, wn6, wn7, f9b, f10b, f1, f2, f3, f4, f5, f6, f7, f8, f9, f10, f11, g1, g2, g3, g4, g5, g6, w2, w4, w16, w32, w128, m1, m3, m15, m31, m127, maxes, o16, o32, o128, hq, hp, e1, e2, e3, e4, e5, e6, e7, e8, e9, l1, l2, beq_self_eq_true, Int.reduceBEq, decide_false]; done))
    refine ⟨rfl, ?_⟩
    simp [Mb.one, beqd, AV.γ, V.γ, Sc.γ, Mb.wOn, Mb.wLow, Mb.wHigh, Mb.wMode, Mb.wLast, Mb.wHeld, wn0, wn1, wn2, wn3, wn4, wn5, wn6, wn7, f9b, f10b, f1, f2, f3, f4, f5, f6, f7, f8, f9, f10, f11, g1, g2, g3, g4, g5, g6, w2, w4, w16, w32, w128, m1, m3, m15, m31, m127, maxes, o16, o32, o128, hq, hp, e1, e2, e3, e4, e5, e6, e7, e8, e9, l1, l2]
set_option maxHeartbeats 4000000 in
theorem rwriteo_any (w : World) (k banks ram : Int) (on mode : Bool) (low high last : Int) (a x : Int) (ba : Mb.W a) (bx : Mb.B x) (bl : 0 ≤ low ∧ low < 512) (h1 : ¬ k = 1) (h2 : ¬ k = 2) (h3 : ¬ k = 3) (h5 : ¬ k = 5) : Calls Try.prog 15 #[.agg #[.int .i64 k, .int .i64 banks, .int .i64 ram, .bool on, .bool mode, .int .i64 low, .int .i64 high, .int .u8 last], .int .u16 a, .int .u8 x] w fun e w' => e = .returned (.tuple #[.agg #[.int .i64 k, .int .i64 banks, .int .i64 ram, .bool (Mb.wOn k a x on), .bool (Mb.wMode k a x mode), .int .i64 (Mb.wLow k a x low), .int .i64 (Mb.wHigh k a x high), .int .u8 (Mb.wLast k a x last)], .bool (Mb.wHeld k a x last)]) ∧ Below w.heap.size w w' := by
  refine val_eq base2 (ctrs_none _ _) (loops_none _ _) (rwriteo_tree w k banks ram on mode low high last a x) rfl ?_
  refine T.br_f ?_ (T.br_t ?_ (T.br_t ?_ (T.br_t ?_ (?_))))
  rotate_right
  · simp [T.holds, h1, h2, h3, h5, Mb.wOn, Mb.wLow, Mb.wHigh, Mb.wMode, Mb.wLast, Mb.wHeld, Mb.one, AV.own, AV.wf, V.wf, Sc.wf, AV.γ, V.γ, Sc.γ]
  all_goals simp [h1, h2, h3, h5]
set_option maxHeartbeats 4000000 in
theorem rwrite_any (w : World) (k banks ram : Int) (on mode : Bool) (low high last : Int) (a x : Int) (ba : Mb.W a) (bx : Mb.B x) (bl : 0 ≤ low ∧ low < 512) : Calls Try.prog 15 #[.agg #[.int .i64 k, .int .i64 banks, .int .i64 ram, .bool on, .bool mode, .int .i64 low, .int .i64 high, .int .u8 last], .int .u16 a, .int .u8 x] w fun e w' => e = .returned (.tuple #[.agg #[.int .i64 k, .int .i64 banks, .int .i64 ram, .bool (Mb.wOn k a x on), .bool (Mb.wMode k a x mode), .int .i64 (Mb.wLow k a x low), .int .i64 (Mb.wHigh k a x high), .int .u8 (Mb.wLast k a x last)], .bool (Mb.wHeld k a x last)]) ∧ Below w.heap.size w w' := by
  by_cases h1 : k = 1
  · subst h1; exact rwrite1_any w banks ram on mode low high last a x ba bx bl
  by_cases h2 : k = 2
  · subst h2; exact rwrite2_any w banks ram on mode low high last a x ba bx bl
  by_cases h3 : k = 3
  · subst h3; exact rwrite3_any w banks ram on mode low high last a x ba bx bl
  by_cases h5 : k = 5
  · subst h5; exact rwrite5_any w banks ram on mode low high last a x ba bx bl
  exact rwriteo_any w k banks ram on mode low high last a x ba bx bl h1 h2 h3 h5
end Go.Proofs.Ythfloebldapfbaa
