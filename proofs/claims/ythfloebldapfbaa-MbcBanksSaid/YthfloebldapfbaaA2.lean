/-
  Walks of what a map tells, by computing: a bank, a place, a part of the clock, and a cartridge. Bytes are below 256, places below 65536, the lower number below 512, the higher below 16; no other condition.
-/
import Derived.Test.YthfloebldapfbaaA1
namespace Go.Proofs.Ythfloebldapfbaa
open Go.RowKit sym
set_option linter.unusedVariables false
set_option linter.unusedSimpArgs false
set_option maxRecDepth 100000
theorem cart_tree (w : World) (a b c : Int) :
    callV Try.prog w (flatT Try.prog) noCtr noLoop 20 10 [.v (.one (.int false .u8 a)), .v (.one (.int false .u8 b)), .v (.one (.int false .u8 c))] =
(.chk ((0 : Int) ≤ a.tmod (6 : Int) ∧ a.tmod (6 : Int) < ↑(6 : Nat))
(.br (a.tmod (6 : Int) == ↑(0 : Nat))
 (.chk ((0 : Int) ≤ b.tmod (9 : Int))
 (.chk ((0 : Int) ≤ c.tmod (6 : Int) ∧ c.tmod (6 : Int) < ↑(6 : Nat))
 (.br (c.tmod (6 : Int) == ↑(0 : Nat))
  (.leaf (.v (.agg [(.val (Go.Value.string { data := #[] })), (.int true .i64 (0)), (.bool true false), (.bool true false), (.int false .i64 (IntKind.i64.wrap ((2 : Int) * (2 : Int) ^ Min.min (b.tmod (9 : Int)).toNat IntKind.i64.bits))), (.int true .i64 (0)), (.bool true false)])))
  (.br (c.tmod (6 : Int) == ↑(1 : Nat))
   (.leaf (.v (.agg [(.val (Go.Value.string { data := #[] })), (.int true .i64 (0)), (.bool true false), (.bool true false), (.int false .i64 (IntKind.i64.wrap ((2 : Int) * (2 : Int) ^ Min.min (b.tmod (9 : Int)).toNat IntKind.i64.bits))), (.int true .i64 (2048)), (.bool true false)])))
   (.br (c.tmod (6 : Int) == ↑(2 : Nat))
    (.leaf (.v (.agg [(.val (Go.Value.string { data := #[] })), (.int true .i64 (0)), (.bool true false), (.bool true false), (.int false .i64 (IntKind.i64.wrap ((2 : Int) * (2 : Int) ^ Min.min (b.tmod (9 : Int)).toNat IntKind.i64.bits))), (.int true .i64 (8192)), (.bool true false)])))
    (.br (c.tmod (6 : Int) == ↑(3 : Nat))
     (.leaf (.v (.agg [(.val (Go.Value.string { data := #[] })), (.int true .i64 (0)), (.bool true false), (.bool true false), (.int false .i64 (IntKind.i64.wrap ((2 : Int) * (2 : Int) ^ Min.min (b.tmod (9 : Int)).toNat IntKind.i64.bits))), (.int true .i64 (32768)), (.bool true false)])))
     (.br (c.tmod (6 : Int) == ↑(4 : Nat))
      (.leaf (.v (.agg [(.val (Go.Value.string { data := #[] })), (.int true .i64 (0)), (.bool true false), (.bool true false), (.int false .i64 (IntKind.i64.wrap ((2 : Int) * (2 : Int) ^ Min.min (b.tmod (9 : Int)).toNat IntKind.i64.bits))), (.int true .i64 (131072)), (.bool true false)])))
      (.leaf (.v (.agg [(.val (Go.Value.string { data := #[] })), (.int true .i64 (0)), (.bool true false), (.bool true false), (.int false .i64 (IntKind.i64.wrap ((2 : Int) * (2 : Int) ^ Min.min (b.tmod (9 : Int)).toNat IntKind.i64.bits))), (.int true .i64 (65536)), (.bool true false)]))))))))))
 (.br (a.tmod (6 : Int) == ↑(1 : Nat))
  (.chk ((0 : Int) ≤ b.tmod (9 : Int))
  (.chk ((0 : Int) ≤ c.tmod (6 : Int) ∧ c.tmod (6 : Int) < ↑(6 : Nat))
  (.br (c.tmod (6 : Int) == ↑(0 : Nat))
   (.leaf (.v (.agg [(.val (Go.Value.string { data := #[] })), (.int true .i64 (1)), (.bool true false), (.bool true false), (.int false .i64 (IntKind.i64.wrap ((2 : Int) * (2 : Int) ^ Min.min (b.tmod (9 : Int)).toNat IntKind.i64.bits))), (.int true .i64 (0)), (.bool true false)])))
   (.br (c.tmod (6 : Int) == ↑(1 : Nat))
    (.leaf (.v (.agg [(.val (Go.Value.string { data := #[] })), (.int true .i64 (1)), (.bool true false), (.bool true false), (.int false .i64 (IntKind.i64.wrap ((2 : Int) * (2 : Int) ^ Min.min (b.tmod (9 : Int)).toNat IntKind.i64.bits))), (.int true .i64 (2048)), (.bool true false)])))
    (.br (c.tmod (6 : Int) == ↑(2 : Nat))
     (.leaf (.v (.agg [(.val (Go.Value.string { data := #[] })), (.int true .i64 (1)), (.bool true false), (.bool true false), (.int false .i64 (IntKind.i64.wrap ((2 : Int) * (2 : Int) ^ Min.min (b.tmod (9 : Int)).toNat IntKind.i64.bits))), (.int true .i64 (8192)), (.bool true false)])))
     (.br (c.tmod (6 : Int) == ↑(3 : Nat))
      (.leaf (.v (.agg [(.val (Go.Value.string { data := #[] })), (.int true .i64 (1)), (.bool true false), (.bool true false), (.int false .i64 (IntKind.i64.wrap ((2 : Int) * (2 : Int) ^ Min.min (b.tmod (9 : Int)).toNat IntKind.i64.bits))), (.int true .i64 (32768)), (.bool true false)])))
      (.br (c.tmod (6 : Int) == ↑(4 : Nat))
       (.leaf (.v (.agg [(.val (Go.Value.string { data := #[] })), (.int true .i64 (1)), (.bool true false), (.bool true false), (.int false .i64 (IntKind.i64.wrap ((2 : Int) * (2 : Int) ^ Min.min (b.tmod (9 : Int)).toNat IntKind.i64.bits))), (.int true .i64 (131072)), (.bool true false)])))
       (.leaf (.v (.agg [(.val (Go.Value.string { data := #[] })), (.int true .i64 (1)), (.bool true false), (.bool true false), (.int false .i64 (IntKind.i64.wrap ((2 : Int) * (2 : Int) ^ Min.min (b.tmod (9 : Int)).toNat IntKind.i64.bits))), (.int true .i64 (65536)), (.bool true false)]))))))))))
  (.br (a.tmod (6 : Int) == ↑(2 : Nat))
   (.chk ((0 : Int) ≤ b.tmod (9 : Int))
   (.chk ((0 : Int) ≤ c.tmod (6 : Int) ∧ c.tmod (6 : Int) < ↑(6 : Nat))
   (.br (c.tmod (6 : Int) == ↑(0 : Nat))
    (.leaf (.v (.agg [(.val (Go.Value.string { data := #[] })), (.int true .i64 (2)), (.bool true false), (.bool true false), (.int false .i64 (IntKind.i64.wrap ((2 : Int) * (2 : Int) ^ Min.min (b.tmod (9 : Int)).toNat IntKind.i64.bits))), (.int true .i64 (512)), (.bool true false)])))
    (.br (c.tmod (6 : Int) == ↑(1 : Nat))
     (.leaf (.v (.agg [(.val (Go.Value.string { data := #[] })), (.int true .i64 (2)), (.bool true false), (.bool true false), (.int false .i64 (IntKind.i64.wrap ((2 : Int) * (2 : Int) ^ Min.min (b.tmod (9 : Int)).toNat IntKind.i64.bits))), (.int true .i64 (512)), (.bool true false)])))
     (.br (c.tmod (6 : Int) == ↑(2 : Nat))
      (.leaf (.v (.agg [(.val (Go.Value.string { data := #[] })), (.int true .i64 (2)), (.bool true false), (.bool true false), (.int false .i64 (IntKind.i64.wrap ((2 : Int) * (2 : Int) ^ Min.min (b.tmod (9 : Int)).toNat IntKind.i64.bits))), (.int true .i64 (512)), (.bool true false)])))
      (.br (c.tmod (6 : Int) == ↑(3 : Nat))
       (.leaf (.v (.agg [(.val (Go.Value.string { data := #[] })), (.int true .i64 (2)), (.bool true false), (.bool true false), (.int false .i64 (IntKind.i64.wrap ((2 : Int) * (2 : Int) ^ Min.min (b.tmod (9 : Int)).toNat IntKind.i64.bits))), (.int true .i64 (512)), (.bool true false)])))
       (.br (c.tmod (6 : Int) == ↑(4 : Nat))
        (.leaf (.v (.agg [(.val (Go.Value.string { data := #[] })), (.int true .i64 (2)), (.bool true false), (.bool true false), (.int false .i64 (IntKind.i64.wrap ((2 : Int) * (2 : Int) ^ Min.min (b.tmod (9 : Int)).toNat IntKind.i64.bits))), (.int true .i64 (512)), (.bool true false)])))
        (.leaf (.v (.agg [(.val (Go.Value.string { data := #[] })), (.int true .i64 (2)), (.bool true false), (.bool true false), (.int false .i64 (IntKind.i64.wrap ((2 : Int) * (2 : Int) ^ Min.min (b.tmod (9 : Int)).toNat IntKind.i64.bits))), (.int true .i64 (512)), (.bool true false)]))))))))))
   (.br (a.tmod (6 : Int) == ↑(3 : Nat))
    (.chk ((0 : Int) ≤ b.tmod (9 : Int))
    (.chk ((0 : Int) ≤ c.tmod (6 : Int) ∧ c.tmod (6 : Int) < ↑(6 : Nat))
    (.br (c.tmod (6 : Int) == ↑(0 : Nat))
     (.leaf (.v (.agg [(.val (Go.Value.string { data := #[] })), (.int true .i64 (3)), (.bool true false), (.bool true false), (.int false .i64 (IntKind.i64.wrap ((2 : Int) * (2 : Int) ^ Min.min (b.tmod (9 : Int)).toNat IntKind.i64.bits))), (.int true .i64 (0)), (.bool true false)])))
     (.br (c.tmod (6 : Int) == ↑(1 : Nat))
      (.leaf (.v (.agg [(.val (Go.Value.string { data := #[] })), (.int true .i64 (3)), (.bool true false), (.bool true false), (.int false .i64 (IntKind.i64.wrap ((2 : Int) * (2 : Int) ^ Min.min (b.tmod (9 : Int)).toNat IntKind.i64.bits))), (.int true .i64 (2048)), (.bool true false)])))
      (.br (c.tmod (6 : Int) == ↑(2 : Nat))
       (.leaf (.v (.agg [(.val (Go.Value.string { data := #[] })), (.int true .i64 (3)), (.bool true false), (.bool true false), (.int false .i64 (IntKind.i64.wrap ((2 : Int) * (2 : Int) ^ Min.min (b.tmod (9 : Int)).toNat IntKind.i64.bits))), (.int true .i64 (8192)), (.bool true false)])))
       (.br (c.tmod (6 : Int) == ↑(3 : Nat))
        (.leaf (.v (.agg [(.val (Go.Value.string { data := #[] })), (.int true .i64 (3)), (.bool true false), (.bool true false), (.int false .i64 (IntKind.i64.wrap ((2 : Int) * (2 : Int) ^ Min.min (b.tmod (9 : Int)).toNat IntKind.i64.bits))), (.int true .i64 (32768)), (.bool true false)])))
        (.br (c.tmod (6 : Int) == ↑(4 : Nat))
         (.leaf (.v (.agg [(.val (Go.Value.string { data := #[] })), (.int true .i64 (3)), (.bool true false), (.bool true false), (.int false .i64 (IntKind.i64.wrap ((2 : Int) * (2 : Int) ^ Min.min (b.tmod (9 : Int)).toNat IntKind.i64.bits))), (.int true .i64 (131072)), (.bool true false)])))
         (.leaf (.v (.agg [(.val (Go.Value.string { data := #[] })), (.int true .i64 (3)), (.bool true false), (.bool true false), (.int false .i64 (IntKind.i64.wrap ((2 : Int) * (2 : Int) ^ Min.min (b.tmod (9 : Int)).toNat IntKind.i64.bits))), (.int true .i64 (65536)), (.bool true false)]))))))))))
    (.br (a.tmod (6 : Int) == ↑(4 : Nat))
     (.chk ((0 : Int) ≤ b.tmod (9 : Int))
     (.chk ((0 : Int) ≤ c.tmod (6 : Int) ∧ c.tmod (6 : Int) < ↑(6 : Nat))
     (.br (c.tmod (6 : Int) == ↑(0 : Nat))
      (.leaf (.v (.agg [(.val (Go.Value.string { data := #[] })), (.int true .i64 (5)), (.bool true false), (.bool true false), (.int false .i64 (IntKind.i64.wrap ((2 : Int) * (2 : Int) ^ Min.min (b.tmod (9 : Int)).toNat IntKind.i64.bits))), (.int true .i64 (0)), (.bool true false)])))
      (.br (c.tmod (6 : Int) == ↑(1 : Nat))
       (.leaf (.v (.agg [(.val (Go.Value.string { data := #[] })), (.int true .i64 (5)), (.bool true false), (.bool true false), (.int false .i64 (IntKind.i64.wrap ((2 : Int) * (2 : Int) ^ Min.min (b.tmod (9 : Int)).toNat IntKind.i64.bits))), (.int true .i64 (2048)), (.bool true false)])))
       (.br (c.tmod (6 : Int) == ↑(2 : Nat))
        (.leaf (.v (.agg [(.val (Go.Value.string { data := #[] })), (.int true .i64 (5)), (.bool true false), (.bool true false), (.int false .i64 (IntKind.i64.wrap ((2 : Int) * (2 : Int) ^ Min.min (b.tmod (9 : Int)).toNat IntKind.i64.bits))), (.int true .i64 (8192)), (.bool true false)])))
        (.br (c.tmod (6 : Int) == ↑(3 : Nat))
         (.leaf (.v (.agg [(.val (Go.Value.string { data := #[] })), (.int true .i64 (5)), (.bool true false), (.bool true false), (.int false .i64 (IntKind.i64.wrap ((2 : Int) * (2 : Int) ^ Min.min (b.tmod (9 : Int)).toNat IntKind.i64.bits))), (.int true .i64 (32768)), (.bool true false)])))
         (.br (c.tmod (6 : Int) == ↑(4 : Nat))
          (.leaf (.v (.agg [(.val (Go.Value.string { data := #[] })), (.int true .i64 (5)), (.bool true false), (.bool true false), (.int false .i64 (IntKind.i64.wrap ((2 : Int) * (2 : Int) ^ Min.min (b.tmod (9 : Int)).toNat IntKind.i64.bits))), (.int true .i64 (131072)), (.bool true false)])))
          (.leaf (.v (.agg [(.val (Go.Value.string { data := #[] })), (.int true .i64 (5)), (.bool true false), (.bool true false), (.int false .i64 (IntKind.i64.wrap ((2 : Int) * (2 : Int) ^ Min.min (b.tmod (9 : Int)).toNat IntKind.i64.bits))), (.int true .i64 (65536)), (.bool true false)]))))))))))
     (.chk ((0 : Int) ≤ b.tmod (9 : Int))
     (.chk ((0 : Int) ≤ c.tmod (6 : Int) ∧ c.tmod (6 : Int) < ↑(6 : Nat))
     (.br (c.tmod (6 : Int) == ↑(0 : Nat))
      (.leaf (.v (.agg [(.val (Go.Value.string { data := #[] })), (.int true .i64 (4)), (.bool true false), (.bool true false), (.int false .i64 (IntKind.i64.wrap ((2 : Int) * (2 : Int) ^ Min.min (b.tmod (9 : Int)).toNat IntKind.i64.bits))), (.int true .i64 (0)), (.bool true false)])))
      (.br (c.tmod (6 : Int) == ↑(1 : Nat))
       (.leaf (.v (.agg [(.val (Go.Value.string { data := #[] })), (.int true .i64 (4)), (.bool true false), (.bool true false), (.int false .i64 (IntKind.i64.wrap ((2 : Int) * (2 : Int) ^ Min.min (b.tmod (9 : Int)).toNat IntKind.i64.bits))), (.int true .i64 (2048)), (.bool true false)])))
       (.br (c.tmod (6 : Int) == ↑(2 : Nat))
        (.leaf (.v (.agg [(.val (Go.Value.string { data := #[] })), (.int true .i64 (4)), (.bool true false), (.bool true false), (.int false .i64 (IntKind.i64.wrap ((2 : Int) * (2 : Int) ^ Min.min (b.tmod (9 : Int)).toNat IntKind.i64.bits))), (.int true .i64 (8192)), (.bool true false)])))
        (.br (c.tmod (6 : Int) == ↑(3 : Nat))
         (.leaf (.v (.agg [(.val (Go.Value.string { data := #[] })), (.int true .i64 (4)), (.bool true false), (.bool true false), (.int false .i64 (IntKind.i64.wrap ((2 : Int) * (2 : Int) ^ Min.min (b.tmod (9 : Int)).toNat IntKind.i64.bits))), (.int true .i64 (32768)), (.bool true false)])))
         (.br (c.tmod (6 : Int) == ↑(4 : Nat))
          (.leaf (.v (.agg [(.val (Go.Value.string { data := #[] })), (.int true .i64 (4)), (.bool true false), (.bool true false), (.int false .i64 (IntKind.i64.wrap ((2 : Int) * (2 : Int) ^ Min.min (b.tmod (9 : Int)).toNat IntKind.i64.bits))), (.int true .i64 (131072)), (.bool true false)])))
          (.leaf (.v (.agg [(.val (Go.Value.string { data := #[] })), (.int true .i64 (4)), (.bool true false), (.bool true false), (.int false .i64 (IntKind.i64.wrap ((2 : Int) * (2 : Int) ^ Min.min (b.tmod (9 : Int)).toNat IntKind.i64.bits))), (.int true .i64 (65536)), (.bool true false)])))))))))))))))) := by kernel_rfl
theorem fa_b1 {a : Int} (h : Mb.W a) : IntKind.i64.wrap a = a := by
  obtain ⟨a1, a2⟩ := h
  exact Mb.wi64 _ (by omega) (by omega)
theorem fa_b2 {a : Int} (h : Mb.W a) : (a.tmod 32768 < 16384) = (a / 16384 % 2 = 0) := by
  obtain ⟨a1, a2⟩ := h
  exact by rw [Int.tmod_eq_emod_of_nonneg a1]; apply propext; omega
theorem fa_b3 {a : Int} (h : Mb.W a) : a.tmod 8192 = a % 8192 := by
  obtain ⟨a1, a2⟩ := h
  exact Int.tmod_eq_emod_of_nonneg a1
theorem fa_b4 {a : Int} (h : Mb.W a) : a.tmod 512 = a % 512 := by
  obtain ⟨a1, a2⟩ := h
  exact Int.tmod_eq_emod_of_nonneg a1
theorem fa_b5 {a : Int} (h : Mb.W a) : (a % 8192).tmod 512 = a % 512 := by
  obtain ⟨a1, a2⟩ := h
  exact by rw [Int.tmod_eq_emod_of_nonneg (by omega)]; omega
theorem fa_b6 {a : Int} (h : Mb.W a) : a.tmod 16384 = a % 16384 := by
  obtain ⟨a1, a2⟩ := h
  exact Int.tmod_eq_emod_of_nonneg a1
theorem fh_h1 (banks : Int) {low high : Int} (bl : 0 ≤ low ∧ low < 512) (bh : 0 ≤ high ∧ high < 16) : IntKind.i64.wrap (high * 32) = high * 32 := by
  obtain ⟨l1, l2⟩ := bl
  obtain ⟨h1, h2⟩ := bh
  exact Mb.wi64 _ (by omega) (by omega)
theorem fh_h2 (banks : Int) {low high : Int} (bl : 0 ≤ low ∧ low < 512) (bh : 0 ≤ high ∧ high < 16) : IntKind.i64.wrap (high * 32 + low) = high * 32 + low := by
  obtain ⟨l1, l2⟩ := bl
  obtain ⟨h1, h2⟩ := bh
  exact Mb.wi64 _ (by omega) (by omega)
theorem fh_h3 (banks : Int) {low high : Int} (bl : 0 ≤ low ∧ low < 512) (bh : 0 ≤ high ∧ high < 16) : IntKind.i64.wrap (32 * high) = high * 32 := by
  obtain ⟨l1, l2⟩ := bl
  obtain ⟨h1, h2⟩ := bh
  exact by rw [Mb.wi64 _ (by omega) (by omega)]; omega
theorem fh_h4 (banks : Int) {low high : Int} (bl : 0 ≤ low ∧ low < 512) (bh : 0 ≤ high ∧ high < 16) : (high * 32 + low).tmod banks = (high * 32 + low) % banks := by
  obtain ⟨l1, l2⟩ := bl
  obtain ⟨h1, h2⟩ := bh
  exact Int.tmod_eq_emod_of_nonneg (by omega)
theorem fh_h5 (banks : Int) {low high : Int} (bl : 0 ≤ low ∧ low < 512) (bh : 0 ≤ high ∧ high < 16) : (high * 32).tmod banks = high * 32 % banks := by
  obtain ⟨l1, l2⟩ := bl
  obtain ⟨h1, h2⟩ := bh
  exact Int.tmod_eq_emod_of_nonneg (by omega)
theorem fh_h6 (banks : Int) {low high : Int} (bl : 0 ≤ low ∧ low < 512) (bh : 0 ≤ high ∧ high < 16) : low.tmod banks = low % banks := by
  obtain ⟨l1, l2⟩ := bl
  obtain ⟨h1, h2⟩ := bh
  exact Int.tmod_eq_emod_of_nonneg (by omega)
theorem fh_h7 (banks : Int) {low high : Int} (bl : 0 ≤ low ∧ low < 512) (bh : 0 ≤ high ∧ high < 16) : Int.tmod 1 banks = 1 % banks := by
  obtain ⟨l1, l2⟩ := bl
  obtain ⟨h1, h2⟩ := bh
  exact Int.tmod_eq_emod_of_nonneg (by omega)
theorem fh_h8 (banks : Int) {low high : Int} (bl : 0 ≤ low ∧ low < 512) (bh : 0 ≤ high ∧ high < 16) : Int.tmod 0 banks = 0 := by
  obtain ⟨l1, l2⟩ := bl
  obtain ⟨h1, h2⟩ := bh
  exact by simp
theorem fh_h9 (banks : Int) {low high : Int} (bl : 0 ≤ low ∧ low < 512) (bh : 0 ≤ high ∧ high < 16) : IntKind.i64.wrap (8192 * high) = 8192 * high := by
  obtain ⟨l1, l2⟩ := bl
  obtain ⟨h1, h2⟩ := bh
  exact Mb.wi64 _ (by omega) (by omega)
theorem fh_h10 (banks : Int) {low high : Int} (bl : 0 ≤ low ∧ low < 512) (bh : 0 ≤ high ∧ high < 16) : IntKind.i64.wrap (high - 8) = high - 8 := by
  obtain ⟨l1, l2⟩ := bl
  obtain ⟨h1, h2⟩ := bh
  exact Mb.wi64 _ (by omega) (by omega)
theorem fh_h11 (banks : Int) {low high : Int} (bl : 0 ≤ low ∧ low < 512) (bh : 0 ≤ high ∧ high < 16) : (high * 32 + low < 0) = False := by
  obtain ⟨l1, l2⟩ := bl
  obtain ⟨h1, h2⟩ := bh
  exact by simp only [eq_iff_iff, iff_false]; omega
theorem fh_h12 (banks : Int) {low high : Int} (bl : 0 ≤ low ∧ low < 512) (bh : 0 ≤ high ∧ high < 16) : (high * 32 < 0) = False := by
  obtain ⟨l1, l2⟩ := bl
  obtain ⟨h1, h2⟩ := bh
  exact by simp only [eq_iff_iff, iff_false]; omega
theorem fh_h13 (banks : Int) {low high : Int} (bl : 0 ≤ low ∧ low < 512) (bh : 0 ≤ high ∧ high < 16) : (low < 0) = False := by
  obtain ⟨l1, l2⟩ := bl
  obtain ⟨h1, h2⟩ := bh
  exact by simp only [eq_iff_iff, iff_false]; omega
theorem fc_c1 (ram : Int) {a high : Int} (h : Mb.W a) (bh : 0 ≤ high ∧ high < 16) : IntKind.i64.wrap (a % 8192 + 8192 * high) = a % 8192 + 8192 * high := by
  obtain ⟨a1, a2⟩ := h
  obtain ⟨h1, h2⟩ := bh
  exact Mb.wi64 _ (by omega) (by omega)
theorem fc_c2 (ram : Int) {a high : Int} (h : Mb.W a) (bh : 0 ≤ high ∧ high < 16) : IntKind.i64.wrap (8192 * high + a % 8192) = a % 8192 + 8192 * high := by
  obtain ⟨a1, a2⟩ := h
  obtain ⟨h1, h2⟩ := bh
  exact by rw [Mb.wi64 _ (by omega) (by omega)]; omega
theorem fc_c3 (ram : Int) {a high : Int} (h : Mb.W a) (bh : 0 ≤ high ∧ high < 16) : (a % 8192 + 8192 * high).tmod ram = (a % 8192 + 8192 * high) % ram := by
  obtain ⟨a1, a2⟩ := h
  obtain ⟨h1, h2⟩ := bh
  exact Int.tmod_eq_emod_of_nonneg (by omega)
theorem fc_c4 (ram : Int) {a high : Int} (h : Mb.W a) (bh : 0 ≤ high ∧ high < 16) : (a % 8192).tmod ram = a % 8192 % ram := by
  obtain ⟨a1, a2⟩ := h
  obtain ⟨h1, h2⟩ := bh
  exact Int.tmod_eq_emod_of_nonneg (by omega)
theorem fc_c5 (ram : Int) {a high : Int} (h : Mb.W a) (bh : 0 ≤ high ∧ high < 16) : (a % 512).tmod ram = a % 512 % ram := by
  obtain ⟨a1, a2⟩ := h
  obtain ⟨h1, h2⟩ := bh
  exact Int.tmod_eq_emod_of_nonneg (by omega)
set_option maxHeartbeats 4000000 in
theorem bank_any (w : World) (k banks ram : Int) (on mode : Bool) (low high last : Int) (a : Int) (ba : Mb.W a) (bl : 0 ≤ low ∧ low < 512) (bh : 0 ≤ high ∧ high < 16) : Calls Try.prog 13 #[.agg #[.int .i64 k, .int .i64 banks, .int .i64 ram, .bool on, .bool mode, .int .i64 low, .int .i64 high, .int .u8 last], .int .u16 a] w fun e w' => e = .returned (.int .i64 (Mb.bank k banks a low high mode)) ∧ Below w.heap.size w w' := by
  refine val_eq base2 (ctrs_none _ _) (loops_none _ _) (bank_tree w k banks ram on mode low high last a) rfl ?_
  have hi : (a / 16384 % 2 = 0 ∧ ¬ a / 16384 % 2 = 1) ∨ (a / 16384 % 2 = 1 ∧ ¬ a / 16384 % 2 = 0) := by omega
  have hb : banks < 1 ∨ (¬ banks < 1 ∧ banks ≠ 0) := by omega
  have b1 := fa_b1 ba
  have b2 := fa_b2 ba
  have b3 := fa_b3 ba
  have b4 := fa_b4 ba
  have b5 := fa_b5 ba
  have b6 := fa_b6 ba
  have b7 := hi14 ba
  have h1 := fh_h1 banks bl bh
  have h2 := fh_h2 banks bl bh
  have h3 := fh_h3 banks bl bh
  have h4 := fh_h4 banks bl bh
  have h5 := fh_h5 banks bl bh
  have h6 := fh_h6 banks bl bh
  have h7 := fh_h7 banks bl bh
  have h8 := fh_h8 banks bl bh
  have h9 := fh_h9 banks bl bh
  have h10 := fh_h10 banks bl bh
  have h11 := fh_h11 banks bl bh
  have h12 := fh_h12 banks bl bh
  have h13 := fh_h13 banks bl bh
  have c1 := fc_c1 ram ba bh
  have c2 := fc_c2 ram ba bh
  have c3 := fc_c3 ram ba bh
  have c4 := fc_c4 ram ba bh
  have c5 := fc_c5 ram ba bh
  by_cases k0 : k = 0
  · subst k0
    rcases hi with ⟨i0, i1⟩ | ⟨i0, i1⟩
    · cases mode
      · rcases hb with hb | ⟨hb, hb0⟩
        · repeat' first
            | (refine T.br_t ?_ ?_; focus (simp [b1, b2, b3, b4, b5, b6, b7, h1, h2, h3, h4, h5, h6, h7, h8, h9, h10, h11, h12, h13, c1, c2, c3, c4, c5, i0, i1, hb, Int.cast_ofNat_Int]; done))
            | (refine T.br_f ?_ ?_; focus (simp [b1, b2, b3, b4, b5, b6, b7, h1, h2, h3, h4, h5, h6, h7, h8, h9, h10, h11, h12, h13, c1, c2, c3, c4, c5, i0, i1, hb, Int.cast_ofNat_Int]; done))
          refine ⟨rfl, ?_⟩
          simp [beqd, AV.γ, V.γ, Sc.γ, Mb.bank, Mb.bankN, b1, b2, b3, b4, b5, b6, b7, h1, h2, h3, h4, h5, h6, h7, h8, h9, h10, h11, h12, h13, c1, c2, c3, c4, c5, i0, i1, hb, Int.cast_ofNat_Int]
        · repeat' first
            | (refine T.br_t ?_ ?_; focus (simp [b1, b2, b3, b4, b5, b6, b7, h1, h2, h3, h4, h5, h6, h7, h8, h9, h10, h11, h12, h13, c1, c2, c3, c4, c5, i0, i1, hb, hb0, Int.cast_ofNat_Int]; done))
            | (refine T.br_f ?_ ?_; focus (simp [b1, b2, b3, b4, b5, b6, b7, h1, h2, h3, h4, h5, h6, h7, h8, h9, h10, h11, h12, h13, c1, c2, c3, c4, c5, i0, i1, hb, hb0, Int.cast_ofNat_Int]; done))
            | (refine And.intro hb0 ?_)
            | fail
          refine ⟨rfl, ?_⟩
          simp [beqd, AV.γ, V.γ, Sc.γ, Mb.bank, Mb.bankN, b1, b2, b3, b4, b5, b6, b7, h1, h2, h3, h4, h5, h6, h7, h8, h9, h10, h11, h12, h13, c1, c2, c3, c4, c5, i0, i1, hb, hb0, Int.cast_ofNat_Int]
      · rcases hb with hb | ⟨hb, hb0⟩
        · repeat' first
            | (refine T.br_t ?_ ?_; focus (simp [b1, b2, b3, b4, b5, b6, b7, h1, h2, h3, h4, h5, h6, h7, h8, h9, h10, h11, h12, h13, c1, c2, c3, c4, c5, i0, i1, hb, Int.cast_ofNat_Int]; done))
            | (refine T.br_f ?_ ?_; focus (simp [b1, b2, b3, b4, b5, b6, b7, h1, h2, h3, h4, h5, h6, h7, h8, h9, h10, h11, h12, h13, c1, c2, c3, c4, c5, i0, i1, hb, Int.cast_ofNat_Int]; done))
          refine ⟨rfl, ?_⟩
          simp [beqd, AV.γ, V.γ, Sc.γ, Mb.bank, Mb.bankN, b1, b2, b3, b4, b5, b6, b7, h1, h2, h3, h4, h5, h6, h7, h8, h9, h10, h11, h12, h13, c1, c2, c3, c4, c5, i0, i1, hb, Int.cast_ofNat_Int]
        · repeat' first
            | (refine T.br_t ?_ ?_; focus (simp [b1, b2, b3, b4, b5, b6, b7, h1, h2, h3, h4, h5, h6, h7, h8, h9, h10, h11, h12, h13, c1, c2, c3, c4, c5, i0, i1, hb, hb0, Int.cast_ofNat_Int]; done))
            | (refine T.br_f ?_ ?_; focus (simp [b1, b2, b3, b4, b5, b6, b7, h1, h2, h3, h4, h5, h6, h7, h8, h9, h10, h11, h12, h13, c1, c2, c3, c4, c5, i0, i1, hb, hb0, Int.cast_ofNat_Int]; done))
            | (refine And.intro hb0 ?_)
            | fail
          refine ⟨rfl, ?_⟩
          simp [beqd, AV.γ, V.γ, Sc.γ, Mb.bank, Mb.bankN, b1, b2, b3, b4, b5, b6, b7, h1, h2, h3, h4, h5, h6, h7, h8, h9, h10, h11, h12, h13, c1, c2, c3, c4, c5, i0, i1, hb, hb0, Int.cast_ofNat_Int]
    · cases mode
      · rcases hb with hb | ⟨hb, hb0⟩
        · repeat' first
            | (refine T.br_t ?_ ?_; focus (simp [b1, b2, b3, b4, b5, b6, b7, h1, h2, h3, h4, h5, h6, h7, h8, h9, h10, h11, h12, h13, c1, c2, c3, c4, c5, i0, i1, hb, Int.cast_ofNat_Int]; done))
            | (refine T.br_f ?_ ?_; focus (simp [b1, b2, b3, b4, b5, b6, b7, h1, h2, h3, h4, h5, h6, h7, h8, h9, h10, h11, h12, h13, c1, c2, c3, c4, c5, i0, i1, hb, Int.cast_ofNat_Int]; done))
          refine ⟨rfl, ?_⟩
          simp [beqd, AV.γ, V.γ, Sc.γ, Mb.bank, Mb.bankN, b1, b2, b3, b4, b5, b6, b7, h1, h2, h3, h4, h5, h6, h7, h8, h9, h10, h11, h12, h13, c1, c2, c3, c4, c5, i0, i1, hb, Int.cast_ofNat_Int]
        · repeat' first
            | (refine T.br_t ?_ ?_; focus (simp [b1, b2, b3, b4, b5, b6, b7, h1, h2, h3, h4, h5, h6, h7, h8, h9, h10, h11, h12, h13, c1, c2, c3, c4, c5, i0, i1, hb, hb0, Int.cast_ofNat_Int]; done))
            | (refine T.br_f ?_ ?_; focus (simp [b1, b2, b3, b4, b5, b6, b7, h1, h2, h3, h4, h5, h6, h7, h8, h9, h10, h11, h12, h13, c1, c2, c3, c4, c5, i0, i1, hb, hb0, Int.cast_ofNat_Int]; done))
            | (refine And.intro hb0 ?_)
            | fail
          refine ⟨rfl, ?_⟩
          simp [beqd, AV.γ, V.γ, Sc.γ, Mb.bank, Mb.bankN, b1, b2, b3, b4, b5, b6, b7, h1, h2, h3, h4, h5, h6, h7, h8, h9, h10, h11, h12, h13, c1, c2, c3, c4, c5, i0, i1, hb, hb0, Int.cast_ofNat_Int]
      · rcases hb with hb | ⟨hb, hb0⟩
        · repeat' first
            | (refine T.br_t ?_ ?_; focus (simp [b1, b2, b3, b4, b5, b6, b7, h1, h2, h3, h4, h5, h6, h7, h8, h9, h10, h11, h12, h13, c1, c2, c3, c4, c5, i0, i1, hb, Int.cast_ofNat_Int]; done))
            | (refine T.br_f ?_ ?_; focus (simp [b1, b2, b3, b4, b5, b6, b7, h1, h2, h3, h4, h5, h6, h7, h8, h9, h10, h11, h12, h13, c1, c2, c3, c4, c5, i0, i1, hb, Int.cast_ofNat_Int]; done))
          refine ⟨rfl, ?_⟩
          simp [beqd, AV.γ, V.γ, Sc.γ, Mb.bank, Mb.bankN, b1, b2, b3, b4, b5, b6, b7, h1, h2, h3, h4, h5, h6, h7, h8, h9, h10, h11, h12, h13, c1, c2, c3, c4, c5, i0, i1, hb, Int.cast_ofNat_Int]
        · repeat' first
            | (refine T.br_t ?_ ?_; focus (simp [b1, b2, b3, b4, b5, b6, b7, h1, h2, h3, h4, h5, h6, h7, h8, h9, h10, h11, h12, h13, c1, c2, c3, c4, c5, i0, i1, hb, hb0, Int.cast_ofNat_Int]; done))
            | (refine T.br_f ?_ ?_; focus (simp [b1, b2, b3, b4, b5, b6, b7, h1, h2, h3, h4, h5, h6, h7, h8, h9, h10, h11, h12, h13, c1, c2, c3, c4, c5, i0, i1, hb, hb0, Int.cast_ofNat_Int]; done))
            | (refine And.intro hb0 ?_)
            | fail
          refine ⟨rfl, ?_⟩
          simp [beqd, AV.γ, V.γ, Sc.γ, Mb.bank, Mb.bankN, b1, b2, b3, b4, b5, b6, b7, h1, h2, h3, h4, h5, h6, h7, h8, h9, h10, h11, h12, h13, c1, c2, c3, c4, c5, i0, i1, hb, hb0, Int.cast_ofNat_Int]
  by_cases k1 : k = 1
  · subst k1
    rcases hi with ⟨i0, i1⟩ | ⟨i0, i1⟩
    · cases mode
      · rcases hb with hb | ⟨hb, hb0⟩
        · repeat' first
            | (refine T.br_t ?_ ?_; focus (simp [b1, b2, b3, b4, b5, b6, b7, h1, h2, h3, h4, h5, h6, h7, h8, h9, h10, h11, h12, h13, c1, c2, c3, c4, c5, i0, i1, hb, Int.cast_ofNat_Int]; done))
            | (refine T.br_f ?_ ?_; focus (simp [b1, b2, b3, b4, b5, b6, b7, h1, h2, h3, h4, h5, h6, h7, h8, h9, h10, h11, h12, h13, c1, c2, c3, c4, c5, i0, i1, hb, Int.cast_ofNat_Int]; done))
          refine ⟨rfl, ?_⟩
          simp [beqd, AV.γ, V.γ, Sc.γ, Mb.bank, Mb.bankN, b1, b2, b3, b4, b5, b6, b7, h1, h2, h3, h4, h5, h6, h7, h8, h9, h10, h11, h12, h13, c1, c2, c3, c4, c5, i0, i1, hb, Int.cast_ofNat_Int]
        · repeat' first
            | (refine T.br_t ?_ ?_; focus (simp [b1, b2, b3, b4, b5, b6, b7, h1, h2, h3, h4, h5, h6, h7, h8, h9, h10, h11, h12, h13, c1, c2, c3, c4, c5, i0, i1, hb, hb0, Int.cast_ofNat_Int]; done))
            | (refine T.br_f ?_ ?_; focus (simp [b1, b2, b3, b4, b5, b6, b7, h1, h2, h3, h4, h5, h6, h7, h8, h9, h10, h11, h12, h13, c1, c2, c3, c4, c5, i0, i1, hb, hb0, Int.cast_ofNat_Int]; done))
            | (refine And.intro hb0 ?_)
            | fail
          refine ⟨rfl, ?_⟩
          simp [beqd, AV.γ, V.γ, Sc.γ, Mb.bank, Mb.bankN, b1, b2, b3, b4, b5, b6, b7, h1, h2, h3, h4, h5, h6, h7, h8, h9, h10, h11, h12, h13, c1, c2, c3, c4, c5, i0, i1, hb, hb0, Int.cast_ofNat_Int]
      · rcases hb with hb | ⟨hb, hb0⟩
        · repeat' first
            | (refine T.br_t ?_ ?_; focus (simp [b1, b2, b3, b4, b5, b6, b7, h1, h2, h3, h4, h5, h6, h7, h8, h9, h10, h11, h12, h13, c1, c2, c3, c4, c5, i0, i1, hb, Int.cast_ofNat_Int]; done))
            | (refine T.br_f ?_ ?_; focus (simp [b1, b2, b3, b4, b5, b6, b7, h1, h2, h3, h4, h5, h6, h7, h8, h9, h10, h11, h12, h13, c1, c2, c3, c4, c5, i0, i1, hb, Int.cast_ofNat_Int]; done))
          refine ⟨rfl, ?_⟩
          simp [beqd, AV.γ, V.γ, Sc.γ, Mb.bank, Mb.bankN, b1, b2, b3, b4, b5, b6, b7, h1, h2, h3, h4, h5, h6, h7, h8, h9, h10, h11, h12, h13, c1, c2, c3, c4, c5, i0, i1, hb, Int.cast_ofNat_Int]
        · repeat' first
            | (refine T.br_t ?_ ?_; focus (simp [b1, b2, b3, b4, b5, b6, b7, h1, h2, h3, h4, h5, h6, h7, h8, h9, h10, h11, h12, h13, c1, c2, c3, c4, c5, i0, i1, hb, hb0, Int.cast_ofNat_Int]; done))
            | (refine T.br_f ?_ ?_; focus (simp [b1, b2, b3, b4, b5, b6, b7, h1, h2, h3, h4, h5, h6, h7, h8, h9, h10, h11, h12, h13, c1, c2, c3, c4, c5, i0, i1, hb, hb0, Int.cast_ofNat_Int]; done))
            | (refine And.intro hb0 ?_)
            | fail
          refine ⟨rfl, ?_⟩
          simp [beqd, AV.γ, V.γ, Sc.γ, Mb.bank, Mb.bankN, b1, b2, b3, b4, b5, b6, b7, h1, h2, h3, h4, h5, h6, h7, h8, h9, h10, h11, h12, h13, c1, c2, c3, c4, c5, i0, i1, hb, hb0, Int.cast_ofNat_Int]
    · cases mode
      · rcases hb with hb | ⟨hb, hb0⟩
        · repeat' first
            | (refine T.br_t ?_ ?_; focus (simp [b1, b2, b3, b4, b5, b6, b7, h1, h2, h3, h4, h5, h6, h7, h8, h9, h10, h11, h12, h13, c1, c2, c3, c4, c5, i0, i1, hb, Int.cast_ofNat_Int]; done))
            | (refine T.br_f ?_ ?_; focus (simp [b1, b2, b3, b4, b5, b6, b7, h1, h2, h3, h4, h5, h6, h7, h8, h9, h10, h11, h12, h13, c1, c2, c3, c4, c5, i0, i1, hb, Int.cast_ofNat_Int]; done))
          refine ⟨rfl, ?_⟩
          simp [beqd, AV.γ, V.γ, Sc.γ, Mb.bank, Mb.bankN, b1, b2, b3, b4, b5, b6, b7, h1, h2, h3, h4, h5, h6, h7, h8, h9, h10, h11, h12, h13, c1, c2, c3, c4, c5, i0, i1, hb, Int.cast_ofNat_Int]
        · repeat' first
            | (refine T.br_t ?_ ?_; focus (simp [b1, b2, b3, b4, b5, b6, b7, h1, h2, h3, h4, h5, h6, h7, h8, h9, h10, h11, h12, h13, c1, c2, c3, c4, c5, i0, i1, hb, hb0, Int.cast_ofNat_Int]; done))
            | (refine T.br_f ?_ ?_; focus (simp [b1, b2, b3, b4, b5, b6, b7, h1, h2, h3, h4, h5, h6, h7, h8, h9, h10, h11, h12, h13, c1, c2, c3, c4, c5, i0, i1, hb, hb0, Int.cast_ofNat_Int]; done))
            | (refine And.intro hb0 ?_)
            | fail
          refine ⟨rfl, ?_⟩
          simp [beqd, AV.γ, V.γ, Sc.γ, Mb.bank, Mb.bankN, b1, b2, b3, b4, b5, b6, b7, h1, h2, h3, h4, h5, h6, h7, h8, h9, h10, h11, h12, h13, c1, c2, c3, c4, c5, i0, i1, hb, hb0, Int.cast_ofNat_Int]
      · rcases hb with hb | ⟨hb, hb0⟩
        · repeat' first
            | (refine T.br_t ?_ ?_; focus (simp [b1, b2, b3, b4, b5, b6, b7, h1, h2, h3, h4, h5, h6, h7, h8, h9, h10, h11, h12, h13, c1, c2, c3, c4, c5, i0, i1, hb, Int.cast_ofNat_Int]; done))
            | (refine T.br_f ?_ ?_; focus (simp [b1, b2, b3, b4, b5, b6, b7, h1, h2, h3, h4, h5, h6, h7, h8, h9, h10, h11, h12, h13, c1, c2, c3, c4, c5, i0, i1, hb, Int.cast_ofNat_Int]; done))
          refine ⟨rfl, ?_⟩
          simp [beqd, AV.γ, V.γ, Sc.γ, Mb.bank, Mb.bankN, b1, b2, b3, b4, b5, b6, b7, h1, h2, h3, h4, h5, h6, h7, h8, h9, h10, h11, h12, h13, c1, c2, c3, c4, c5, i0, i1, hb, Int.cast_ofNat_Int]
        · repeat' first
            | (refine T.br_t ?_ ?_; focus (simp [b1, b2, b3, b4, b5, b6, b7, h1, h2, h3, h4, h5, h6, h7, h8, h9, h10, h11, h12, h13, c1, c2, c3, c4, c5, i0, i1, hb, hb0, Int.cast_ofNat_Int]; done))
            | (refine T.br_f ?_ ?_; focus (simp [b1, b2, b3, b4, b5, b6, b7, h1, h2, h3, h4, h5, h6, h7, h8, h9, h10, h11, h12, h13, c1, c2, c3, c4, c5, i0, i1, hb, hb0, Int.cast_ofNat_Int]; done))
            | (refine And.intro hb0 ?_)
            | fail
          refine ⟨rfl, ?_⟩
          simp [beqd, AV.γ, V.γ, Sc.γ, Mb.bank, Mb.bankN, b1, b2, b3, b4, b5, b6, b7, h1, h2, h3, h4, h5, h6, h7, h8, h9, h10, h11, h12, h13, c1, c2, c3, c4, c5, i0, i1, hb, hb0, Int.cast_ofNat_Int]
  by_cases k2 : k = 2
  · subst k2
    rcases hi with ⟨i0, i1⟩ | ⟨i0, i1⟩
    · cases mode
      · rcases hb with hb | ⟨hb, hb0⟩
        · repeat' first
            | (refine T.br_t ?_ ?_; focus (simp [b1, b2, b3, b4, b5, b6, b7, h1, h2, h3, h4, h5, h6, h7, h8, h9, h10, h11, h12, h13, c1, c2, c3, c4, c5, i0, i1, hb, Int.cast_ofNat_Int]; done))
            | (refine T.br_f ?_ ?_; focus (simp [b1, b2, b3, b4, b5, b6, b7, h1, h2, h3, h4, h5, h6, h7, h8, h9, h10, h11, h12, h13, c1, c2, c3, c4, c5, i0, i1, hb, Int.cast_ofNat_Int]; done))
          refine ⟨rfl, ?_⟩
          simp [beqd, AV.γ, V.γ, Sc.γ, Mb.bank, Mb.bankN, b1, b2, b3, b4, b5, b6, b7, h1, h2, h3, h4, h5, h6, h7, h8, h9, h10, h11, h12, h13, c1, c2, c3, c4, c5, i0, i1, hb, Int.cast_ofNat_Int]
        · repeat' first
            | (refine T.br_t ?_ ?_; focus (simp [b1, b2, b3, b4, b5, b6, b7, h1, h2, h3, h4, h5, h6, h7, h8, h9, h10, h11, h12, h13, c1, c2, c3, c4, c5, i0, i1, hb, hb0, Int.cast_ofNat_Int]; done))
            | (refine T.br_f ?_ ?_; focus (simp [b1, b2, b3, b4, b5, b6, b7, h1, h2, h3, h4, h5, h6, h7, h8, h9, h10, h11, h12, h13, c1, c2, c3, c4, c5, i0, i1, hb, hb0, Int.cast_ofNat_Int]; done))
            | (refine And.intro hb0 ?_)
            | fail
          refine ⟨rfl, ?_⟩
          simp [beqd, AV.γ, V.γ, Sc.γ, Mb.bank, Mb.bankN, b1, b2, b3, b4, b5, b6, b7, h1, h2, h3, h4, h5, h6, h7, h8, h9, h10, h11, h12, h13, c1, c2, c3, c4, c5, i0, i1, hb, hb0, Int.cast_ofNat_Int]
      · rcases hb with hb | ⟨hb, hb0⟩
        · repeat' first
            | (refine T.br_t ?_ ?_; focus (simp [b1, b2, b3, b4, b5, b6, b7, h1, h2, h3, h4, h5, h6, h7, h8, h9, h10, h11, h12, h13, c1, c2, c3, c4, c5, i0, i1, hb, Int.cast_ofNat_Int]; done))
            | (refine T.br_f ?_ ?_; focus (simp [b1, b2, b3, b4, b5, b6, b7, h1, h2, h3, h4, h5, h6, h7, h8, h9, h10, h11, h12, h13, c1, c2, c3, c4, c5, i0, i1, hb, Int.cast_ofNat_Int]; done))
          refine ⟨rfl, ?_⟩
          simp [beqd, AV.γ, V.γ, Sc.γ, Mb.bank, Mb.bankN, b1, b2, b3, b4, b5, b6, b7, h1, h2, h3, h4, h5, h6, h7, h8, h9, h10, h11, h12, h13, c1, c2, c3, c4, c5, i0, i1, hb, Int.cast_ofNat_Int]
        · repeat' first
            | (refine T.br_t ?_ ?_; focus (simp [b1, b2, b3, b4, b5, b6, b7, h1, h2, h3, h4, h5, h6, h7, h8, h9, h10, h11, h12, h13, c1, c2, c3, c4, c5, i0, i1, hb, hb0, Int.cast_ofNat_Int]; done))
            | (refine T.br_f ?_ ?_; focus (simp [b1, b2, b3, b4, b5, b6, b7, h1, h2, h3, h4, h5, h6, h7, h8, h9, h10, h11, h12, h13, c1, c2, c3, c4, c5, i0, i1, hb, hb0, Int.cast_ofNat_Int]; done))
            | (refine And.intro hb0 ?_)
            | fail
          refine ⟨rfl, ?_⟩
          simp [beqd, AV.γ, V.γ, Sc.γ, Mb.bank, Mb.bankN, b1, b2, b3, b4, b5, b6, b7, h1, h2, h3, h4, h5, h6, h7, h8, h9, h10, h11, h12, h13, c1, c2, c3, c4, c5, i0, i1, hb, hb0, Int.cast_ofNat_Int]
    · cases mode
      · rcases hb with hb | ⟨hb, hb0⟩
        · repeat' first
            | (refine T.br_t ?_ ?_; focus (simp [b1, b2, b3, b4, b5, b6, b7, h1, h2, h3, h4, h5, h6, h7, h8, h9, h10, h11, h12, h13, c1, c2, c3, c4, c5, i0, i1, hb, Int.cast_ofNat_Int]; done))
            | (refine T.br_f ?_ ?_; focus (simp [b1, b2, b3, b4, b5, b6, b7, h1, h2, h3, h4, h5, h6, h7, h8, h9, h10, h11, h12, h13, c1, c2, c3, c4, c5, i0, i1, hb, Int.cast_ofNat_Int]; done))
          refine ⟨rfl, ?_⟩
          simp [beqd, AV.γ, V.γ, Sc.γ, Mb.bank, Mb.bankN, b1, b2, b3, b4, b5, b6, b7, h1, h2, h3, h4, h5, h6, h7, h8, h9, h10, h11, h12, h13, c1, c2, c3, c4, c5, i0, i1, hb, Int.cast_ofNat_Int]
        · repeat' first
            | (refine T.br_t ?_ ?_; focus (simp [b1, b2, b3, b4, b5, b6, b7, h1, h2, h3, h4, h5, h6, h7, h8, h9, h10, h11, h12, h13, c1, c2, c3, c4, c5, i0, i1, hb, hb0, Int.cast_ofNat_Int]; done))
            | (refine T.br_f ?_ ?_; focus (simp [b1, b2, b3, b4, b5, b6, b7, h1, h2, h3, h4, h5, h6, h7, h8, h9, h10, h11, h12, h13, c1, c2, c3, c4, c5, i0, i1, hb, hb0, Int.cast_ofNat_Int]; done))
            | (refine And.intro hb0 ?_)
            | fail
          refine ⟨rfl, ?_⟩
          simp [beqd, AV.γ, V.γ, Sc.γ, Mb.bank, Mb.bankN, b1, b2, b3, b4, b5, b6, b7, h1, h2, h3, h4, h5, h6, h7, h8, h9, h10, h11, h12, h13, c1, c2, c3, c4, c5, i0, i1, hb, hb0, Int.cast_ofNat_Int]
      · rcases hb with hb | ⟨hb, hb0⟩
        · repeat' first
            | (refine T.br_t ?_ ?_; focus (simp [b1, b2, b3, b4, b5, b6, b7, h1, h2, h3, h4, h5, h6, h7, h8, h9, h10, h11, h12, h13, c1, c2, c3, c4, c5, i0, i1, hb, Int.cast_ofNat_Int]; done))
            | (refine T.br_f ?_ ?_; focus (simp [b1, b2, b3, b4, b5, b6, b7, h1, h2, h3, h4, h5, h6, h7, h8, h9, h10, h11, h12, h13, c1, c2, c3, c4, c5, i0, i1, hb, Int.cast_ofNat_Int]; done))
          refine ⟨rfl, ?_⟩
          simp [beqd, AV.γ, V.γ, Sc.γ, Mb.bank, Mb.bankN, b1, b2, b3, b4, b5, b6, b7, h1, h2, h3, h4, h5, h6, h7, h8, h9, h10, h11, h12, h13, c1, c2, c3, c4, c5, i0, i1, hb, Int.cast_ofNat_Int]
        · repeat' first
            | (refine T.br_t ?_ ?_; focus (simp [b1, b2, b3, b4, b5, b6, b7, h1, h2, h3, h4, h5, h6, h7, h8, h9, h10, h11, h12, h13, c1, c2, c3, c4, c5, i0, i1, hb, hb0, Int.cast_ofNat_Int]; done))
            | (refine T.br_f ?_ ?_; focus (simp [b1, b2, b3, b4, b5, b6, b7, h1, h2, h3, h4, h5, h6, h7, h8, h9, h10, h11, h12, h13, c1, c2, c3, c4, c5, i0, i1, hb, hb0, Int.cast_ofNat_Int]; done))
            | (refine And.intro hb0 ?_)
            | fail
          refine ⟨rfl, ?_⟩
          simp [beqd, AV.γ, V.γ, Sc.γ, Mb.bank, Mb.bankN, b1, b2, b3, b4, b5, b6, b7, h1, h2, h3, h4, h5, h6, h7, h8, h9, h10, h11, h12, h13, c1, c2, c3, c4, c5, i0, i1, hb, hb0, Int.cast_ofNat_Int]
  by_cases k3 : k = 3
  · subst k3
    rcases hi with ⟨i0, i1⟩ | ⟨i0, i1⟩
    · cases mode
      · rcases hb with hb | ⟨hb, hb0⟩
        · repeat' first
            | (refine T.br_t ?_ ?_; focus (simp [b1, b2, b3, b4, b5, b6, b7, h1, h2, h3, h4, h5, h6, h7, h8, h9, h10, h11, h12, h13, c1, c2, c3, c4, c5, i0, i1, hb, Int.cast_ofNat_Int]; done))
            | (refine T.br_f ?_ ?_; focus (simp [b1, b2, b3, b4, b5, b6, b7, h1, h2, h3, h4, h5, h6, h7, h8, h9, h10, h11, h12, h13, c1, c2, c3, c4, c5, i0, i1, hb, Int.cast_ofNat_Int]; done))
          refine ⟨rfl, ?_⟩
          simp [beqd, AV.γ, V.γ, Sc.γ, Mb.bank, Mb.bankN, b1, b2, b3, b4, b5, b6, b7, h1, h2, h3, h4, h5, h6, h7, h8, h9, h10, h11, h12, h13, c1, c2, c3, c4, c5, i0, i1, hb, Int.cast_ofNat_Int]
        · repeat' first
            | (refine T.br_t ?_ ?_; focus (simp [b1, b2, b3, b4, b5, b6, b7, h1, h2, h3, h4, h5, h6, h7, h8, h9, h10, h11, h12, h13, c1, c2, c3, c4, c5, i0, i1, hb, hb0, Int.cast_ofNat_Int]; done))
            | (refine T.br_f ?_ ?_; focus (simp [b1, b2, b3, b4, b5, b6, b7, h1, h2, h3, h4, h5, h6, h7, h8, h9, h10, h11, h12, h13, c1, c2, c3, c4, c5, i0, i1, hb, hb0, Int.cast_ofNat_Int]; done))
            | (refine And.intro hb0 ?_)
            | fail
          refine ⟨rfl, ?_⟩
          simp [beqd, AV.γ, V.γ, Sc.γ, Mb.bank, Mb.bankN, b1, b2, b3, b4, b5, b6, b7, h1, h2, h3, h4, h5, h6, h7, h8, h9, h10, h11, h12, h13, c1, c2, c3, c4, c5, i0, i1, hb, hb0, Int.cast_ofNat_Int]
      · rcases hb with hb | ⟨hb, hb0⟩
        · repeat' first
            | (refine T.br_t ?_ ?_; focus (simp [b1, b2, b3, b4, b5, b6, b7, h1, h2, h3, h4, h5, h6, h7, h8, h9, h10, h11, h12, h13, c1, c2, c3, c4, c5, i0, i1, hb, Int.cast_ofNat_Int]; done))
            | (refine T.br_f ?_ ?_; focus (simp [b1, b2, b3, b4, b5, b6, b7, h1, h2, h3, h4, h5, h6, h7, h8, h9, h10, h11, h12, h13, c1, c2, c3, c4, c5, i0, i1, hb, Int.cast_ofNat_Int]; done))
          refine ⟨rfl, ?_⟩
          simp [beqd, AV.γ, V.γ, Sc.γ, Mb.bank, Mb.bankN, b1, b2, b3, b4, b5, b6, b7, h1, h2, h3, h4, h5, h6, h7, h8, h9, h10, h11, h12, h13, c1, c2, c3, c4, c5, i0, i1, hb, Int.cast_ofNat_Int]
        · repeat' first
            | (refine T.br_t ?_ ?_; focus (simp [b1, b2, b3, b4, b5, b6, b7, h1, h2, h3, h4, h5, h6, h7, h8, h9, h10, h11, h12, h13, c1, c2, c3, c4, c5, i0, i1, hb, hb0, Int.cast_ofNat_Int]; done))
            | (refine T.br_f ?_ ?_; focus (simp [b1, b2, b3, b4, b5, b6, b7, h1, h2, h3, h4, h5, h6, h7, h8, h9, h10, h11, h12, h13, c1, c2, c3, c4, c5, i0, i1, hb, hb0, Int.cast_ofNat_Int]; done))
            | (refine And.intro hb0 ?_)
            | fail
          refine ⟨rfl, ?_⟩
          simp [beqd, AV.γ, V.γ, Sc.γ, Mb.bank, Mb.bankN, b1, b2, b3, b4, b5, b6, b7, h1, h2, h3, h4, h5, h6, h7, h8, h9, h10, h11, h12, h13, c1, c2, c3, c4, c5, i0, i1, hb, hb0, Int.cast_ofNat_Int]
    · cases mode
      · rcases hb with hb | ⟨hb, hb0⟩
        · repeat' first
            | (refine T.br_t ?_ ?_; focus (simp [b1, b2, b3, b4, b5, b6, b7, h1, h2, h3, h4, h5, h6, h7, h8, h9, h10, h11, h12, h13, c1, c2, c3, c4, c5, i0, i1, hb, Int.cast_ofNat_Int]; done))
            | (refine T.br_f ?_ ?_; focus (simp [b1, b2, b3, b4, b5, b6, b7, h1, h2, h3, h4, h5, h6, h7, h8, h9, h10, h11, h12, h13, c1, c2, c3, c4, c5, i0, i1, hb, Int.cast_ofNat_Int]; done))
          refine ⟨rfl, ?_⟩
          simp [beqd, AV.γ, V.γ, Sc.γ, Mb.bank, Mb.bankN, b1, b2, b3, b4, b5, b6, b7, h1, h2, h3, h4, h5, h6, h7, h8, h9, h10, h11, h12, h13, c1, c2, c3, c4, c5, i0, i1, hb, Int.cast_ofNat_Int]
        · repeat' first
            | (refine T.br_t ?_ ?_; focus (simp [b1, b2, b3, b4, b5, b6, b7, h1, h2, h3, h4, h5, h6, h7, h8, h9, h10, h11, h12, h13, c1, c2, c3, c4, c5, i0, i1, hb, hb0, Int.cast_ofNat_Int]; done))
            | (refine T.br_f ?_ ?_; focus (simp [b1, b2, b3, b4, b5, b6, b7, h1, h2, h3, h4, h5, h6, h7, h8, h9, h10, h11, h12, h13, c1, c2, c3, c4, c5, i0, i1, hb, hb0, Int.cast_ofNat_Int]; done))
            | (refine And.intro hb0 ?_)
            | fail
          refine ⟨rfl, ?_⟩
          simp [beqd, AV.γ, V.γ, Sc.γ, Mb.bank, Mb.bankN, b1, b2, b3, b4, b5, b6, b7, h1, h2, h3, h4, h5, h6, h7, h8, h9, h10, h11, h12, h13, c1, c2, c3, c4, c5, i0, i1, hb, hb0, Int.cast_ofNat_Int]
      · rcases hb with hb | ⟨hb, hb0⟩
        · repeat' first
            | (refine T.br_t ?_ ?_; focus (simp [b1, b2, b3, b4, b5, b6, b7, h1, h2, h3, h4, h5, h6, h7, h8, h9, h10, h11, h12, h13, c1, c2, c3, c4, c5, i0, i1, hb, Int.cast_ofNat_Int]; done))
            | (refine T.br_f ?_ ?_; focus (simp [b1, b2, b3, b4, b5, b6, b7, h1, h2, h3, h4, h5, h6, h7, h8, h9, h10, h11, h12, h13, c1, c2, c3, c4, c5, i0, i1, hb, Int.cast_ofNat_Int]; done))
          refine ⟨rfl, ?_⟩
          simp [beqd, AV.γ, V.γ, Sc.γ, Mb.bank, Mb.bankN, b1, b2, b3, b4, b5, b6, b7, h1, h2, h3, h4, h5, h6, h7, h8, h9, h10, h11, h12, h13, c1, c2, c3, c4, c5, i0, i1, hb, Int.cast_ofNat_Int]
        · repeat' first
            | (refine T.br_t ?_ ?_; focus (simp [b1, b2, b3, b4, b5, b6, b7, h1, h2, h3, h4, h5, h6, h7, h8, h9, h10, h11, h12, h13, c1, c2, c3, c4, c5, i0, i1, hb, hb0, Int.cast_ofNat_Int]; done))
            | (refine T.br_f ?_ ?_; focus (simp [b1, b2, b3, b4, b5, b6, b7, h1, h2, h3, h4, h5, h6, h7, h8, h9, h10, h11, h12, h13, c1, c2, c3, c4, c5, i0, i1, hb, hb0, Int.cast_ofNat_Int]; done))
            | (refine And.intro hb0 ?_)
            | fail
          refine ⟨rfl, ?_⟩
          simp [beqd, AV.γ, V.γ, Sc.γ, Mb.bank, Mb.bankN, b1, b2, b3, b4, b5, b6, b7, h1, h2, h3, h4, h5, h6, h7, h8, h9, h10, h11, h12, h13, c1, c2, c3, c4, c5, i0, i1, hb, hb0, Int.cast_ofNat_Int]
  by_cases k5 : k = 5
  · subst k5
    rcases hi with ⟨i0, i1⟩ | ⟨i0, i1⟩
    · cases mode
      · rcases hb with hb | ⟨hb, hb0⟩
        · repeat' first
            | (refine T.br_t ?_ ?_; focus (simp [b1, b2, b3, b4, b5, b6, b7, h1, h2, h3, h4, h5, h6, h7, h8, h9, h10, h11, h12, h13, c1, c2, c3, c4, c5, i0, i1, hb, Int.cast_ofNat_Int]; done))
            | (refine T.br_f ?_ ?_; focus (simp [b1, b2, b3, b4, b5, b6, b7, h1, h2, h3, h4, h5, h6, h7, h8, h9, h10, h11, h12, h13, c1, c2, c3, c4, c5, i0, i1, hb, Int.cast_ofNat_Int]; done))
          refine ⟨rfl, ?_⟩
          simp [beqd, AV.γ, V.γ, Sc.γ, Mb.bank, Mb.bankN, b1, b2, b3, b4, b5, b6, b7, h1, h2, h3, h4, h5, h6, h7, h8, h9, h10, h11, h12, h13, c1, c2, c3, c4, c5, i0, i1, hb, Int.cast_ofNat_Int]
        · repeat' first
            | (refine T.br_t ?_ ?_; focus (simp [b1, b2, b3, b4, b5, b6, b7, h1, h2, h3, h4, h5, h6, h7, h8, h9, h10, h11, h12, h13, c1, c2, c3, c4, c5, i0, i1, hb, hb0, Int.cast_ofNat_Int]; done))
            | (refine T.br_f ?_ ?_; focus (simp [b1, b2, b3, b4, b5, b6, b7, h1, h2, h3, h4, h5, h6, h7, h8, h9, h10, h11, h12, h13, c1, c2, c3, c4, c5, i0, i1, hb, hb0, Int.cast_ofNat_Int]; done))
            | (refine And.intro hb0 ?_)
            | fail
          refine ⟨rfl, ?_⟩
          simp [beqd, AV.γ, V.γ, Sc.γ, Mb.bank, Mb.bankN, b1, b2, b3, b4, b5, b6, b7, h1, h2, h3, h4, h5, h6, h7, h8, h9, h10, h11, h12, h13, c1, c2, c3, c4, c5, i0, i1, hb, hb0, Int.cast_ofNat_Int]
      · rcases hb with hb | ⟨hb, hb0⟩
        · repeat' first
            | (refine T.br_t ?_ ?_; focus (simp [b1, b2, b3, b4, b5, b6, b7, h1, h2, h3, h4, h5, h6, h7, h8, h9, h10, h11, h12, h13, c1, c2, c3, c4, c5, i0, i1, hb, Int.cast_ofNat_Int]; done))
            | (refine T.br_f ?_ ?_; focus (simp [b1, b2, b3, b4, b5, b6, b7, h1, h2, h3, h4, h5, h6, h7, h8, h9, h10, h11, h12, h13, c1, c2, c3, c4, c5, i0, i1, hb, Int.cast_ofNat_Int]; done))
          refine ⟨rfl, ?_⟩
          simp [beqd, AV.γ, V.γ, Sc.γ, Mb.bank, Mb.bankN, b1, b2, b3, b4, b5, b6, b7, h1, h2, h3, h4, h5, h6, h7, h8, h9, h10, h11, h12, h13, c1, c2, c3, c4, c5, i0, i1, hb, Int.cast_ofNat_Int]
        · repeat' first
            | (refine T.br_t ?_ ?_; focus (simp [b1, b2, b3, b4, b5, b6, b7, h1, h2, h3, h4, h5, h6, h7, h8, h9, h10, h11, h12, h13, c1, c2, c3, c4, c5, i0, i1, hb, hb0, Int.cast_ofNat_Int]; done))
            | (refine T.br_f ?_ ?_; focus (simp [b1, b2, b3, b4, b5, b6, b7, h1, h2, h3, h4, h5, h6, h7, h8, h9, h10, h11, h12, h13, c1, c2, c3, c4, c5, i0, i1, hb, hb0, Int.cast_ofNat_Int]; done))
            | (refine And.intro hb0 ?_)
            | fail
          refine ⟨rfl, ?_⟩
          simp [beqd, AV.γ, V.γ, Sc.γ, Mb.bank, Mb.bankN, b1, b2, b3, b4, b5, b6, b7, h1, h2, h3, h4, h5, h6, h7, h8, h9, h10, h11, h12, h13, c1, c2, c3, c4, c5, i0, i1, hb, hb0, Int.cast_ofNat_Int]
    · cases mode
      · rcases hb with hb | ⟨hb, hb0⟩
        · repeat' first
            | (refine T.br_t ?_ ?_; focus (simp [b1, b2, b3, b4, b5, b6, b7, h1, h2, h3, h4, h5, h6, h7, h8, h9, h10, h11, h12, h13, c1, c2, c3, c4, c5, i0, i1, hb, Int.cast_ofNat_Int]; done))
            | (refine T.br_f ?_ ?_; focus (simp [b1, b2, b3, b4, b5, b6, b7, h1, h2, h3, h4, h5, h6, h7, h8, h9, h10, h11, h12, h13, c1, c2, c3, c4, c5, i0, i1, hb, Int.cast_ofNat_Int]; done))
          refine ⟨rfl, ?_⟩
          simp [beqd, AV.γ, V.γ, Sc.γ, Mb.bank, Mb.bankN, b1, b2, b3, b4, b5, b6, b7, h1, h2, h3, h4, h5, h6, h7, h8, h9, h10, h11, h12, h13, c1, c2, c3, c4, c5, i0, i1, hb, Int.cast_ofNat_Int]
        · repeat' first
            | (refine T.br_t ?_ ?_; focus (simp [b1, b2, b3, b4, b5, b6, b7, h1, h2, h3, h4, h5, h6, h7, h8, h9, h10, h11, h12, h13, c1, c2, c3, c4, c5, i0, i1, hb, hb0, Int.cast_ofNat_Int]; done))
            | (refine T.br_f ?_ ?_; focus (simp [b1, b2, b3, b4, b5, b6, b7, h1, h2, h3, h4, h5, h6, h7, h8, h9, h10, h11, h12, h13, c1, c2, c3, c4, c5, i0, i1, hb, hb0, Int.cast_ofNat_Int]; done))
            | (refine And.intro hb0 ?_)
            | fail
          refine ⟨rfl, ?_⟩
          simp [beqd, AV.γ, V.γ, Sc.γ, Mb.bank, Mb.bankN, b1, b2, b3, b4, b5, b6, b7, h1, h2, h3, h4, h5, h6, h7, h8, h9, h10, h11, h12, h13, c1, c2, c3, c4, c5, i0, i1, hb, hb0, Int.cast_ofNat_Int]
      · rcases hb with hb | ⟨hb, hb0⟩
        · repeat' first
            | (refine T.br_t ?_ ?_; focus (simp [b1, b2, b3, b4, b5, b6, b7, h1, h2, h3, h4, h5, h6, h7, h8, h9, h10, h11, h12, h13, c1, c2, c3, c4, c5, i0, i1, hb, Int.cast_ofNat_Int]; done))
            | (refine T.br_f ?_ ?_; focus (simp [b1, b2, b3, b4, b5, b6, b7, h1, h2, h3, h4, h5, h6, h7, h8, h9, h10, h11, h12, h13, c1, c2, c3, c4, c5, i0, i1, hb, Int.cast_ofNat_Int]; done))
          refine ⟨rfl, ?_⟩
          simp [beqd, AV.γ, V.γ, Sc.γ, Mb.bank, Mb.bankN, b1, b2, b3, b4, b5, b6, b7, h1, h2, h3, h4, h5, h6, h7, h8, h9, h10, h11, h12, h13, c1, c2, c3, c4, c5, i0, i1, hb, Int.cast_ofNat_Int]
        · repeat' first
            | (refine T.br_t ?_ ?_; focus (simp [b1, b2, b3, b4, b5, b6, b7, h1, h2, h3, h4, h5, h6, h7, h8, h9, h10, h11, h12, h13, c1, c2, c3, c4, c5, i0, i1, hb, hb0, Int.cast_ofNat_Int]; done))
            | (refine T.br_f ?_ ?_; focus (simp [b1, b2, b3, b4, b5, b6, b7, h1, h2, h3, h4, h5, h6, h7, h8, h9, h10, h11, h12, h13, c1, c2, c3, c4, c5, i0, i1, hb, hb0, Int.cast_ofNat_Int]; done))
            | (refine And.intro hb0 ?_)
            | fail
          refine ⟨rfl, ?_⟩
          simp [beqd, AV.γ, V.γ, Sc.γ, Mb.bank, Mb.bankN, b1, b2, b3, b4, b5, b6, b7, h1, h2, h3, h4, h5, h6, h7, h8, h9, h10, h11, h12, h13, c1, c2, c3, c4, c5, i0, i1, hb, hb0, Int.cast_ofNat_Int]
  · skip
    rcases hi with ⟨i0, i1⟩ | ⟨i0, i1⟩
    · cases mode
      · rcases hb with hb | ⟨hb, hb0⟩
        · repeat' first
            | (refine T.br_t ?_ ?_; focus (simp [b1, b2, b3, b4, b5, b6, b7, h1, h2, h3, h4, h5, h6, h7, h8, h9, h10, h11, h12, h13, c1, c2, c3, c4, c5, i0, i1, hb, k0, k1, k2, k3, k5]; done))
            | (refine T.br_f ?_ ?_; focus (simp [b1, b2, b3, b4, b5, b6, b7, h1, h2, h3, h4, h5, h6, h7, h8, h9, h10, h11, h12, h13, c1, c2, c3, c4, c5, i0, i1, hb, k0, k1, k2, k3, k5]; done))
          refine ⟨rfl, ?_⟩
          simp [beqd, AV.γ, V.γ, Sc.γ, Mb.bank, Mb.bankN, b1, b2, b3, b4, b5, b6, b7, h1, h2, h3, h4, h5, h6, h7, h8, h9, h10, h11, h12, h13, c1, c2, c3, c4, c5, i0, i1, hb, k0, k1, k2, k3, k5]
        · repeat' first
            | (refine T.br_t ?_ ?_; focus (simp [b1, b2, b3, b4, b5, b6, b7, h1, h2, h3, h4, h5, h6, h7, h8, h9, h10, h11, h12, h13, c1, c2, c3, c4, c5, i0, i1, hb, hb0, k0, k1, k2, k3, k5]; done))
            | (refine T.br_f ?_ ?_; focus (simp [b1, b2, b3, b4, b5, b6, b7, h1, h2, h3, h4, h5, h6, h7, h8, h9, h10, h11, h12, h13, c1, c2, c3, c4, c5, i0, i1, hb, hb0, k0, k1, k2, k3, k5]; done))
            | (refine And.intro hb0 ?_)
            | fail
          refine ⟨rfl, ?_⟩
          simp [beqd, AV.γ, V.γ, Sc.γ, Mb.bank, Mb.bankN, b1, b2, b3, b4, b5, b6, b7, h1, h2, h3, h4, h5, h6, h7, h8, h9, h10, h11, h12, h13, c1, c2, c3, c4, c5, i0, i1, hb, hb0, k0, k1, k2, k3, k5]
      · rcases hb with hb | ⟨hb, hb0⟩
        · repeat' first
            | (refine T.br_t ?_ ?_; focus (simp [b1, b2, b3, b4, b5, b6, b7, h1, h2, h3, h4, h5, h6, h7, h8, h9, h10, h11, h12, h13, c1, c2, c3, c4, c5, i0, i1, hb, k0, k1, k2, k3, k5]; done))
            | (refine T.br_f ?_ ?_; focus (simp [b1, b2, b3, b4, b5, b6, b7, h1, h2, h3, h4, h5, h6, h7, h8, h9, h10, h11, h12, h13, c1, c2, c3, c4, c5, i0, i1, hb, k0, k1, k2, k3, k5]; done))
          refine ⟨rfl, ?_⟩
          simp [beqd, AV.γ, V.γ, Sc.γ, Mb.bank, Mb.bankN, b1, b2, b3, b4, b5, b6, b7, h1, h2, h3, h4, h5, h6, h7, h8, h9, h10, h11, h12, h13, c1, c2, c3, c4, c5, i0, i1, hb, k0, k1, k2, k3, k5]
        · repeat' first
            | (refine T.br_t ?_ ?_; focus (simp [b1, b2, b3, b4, b5, b6, b7, h1, h2, h3, h4, h5, h6, h7, h8, h9, h10, h11, h12, h13, c1, c2, c3, c4, c5, i0, i1, hb, hb0, k0, k1, k2, k3, k5]; done))
            | (refine T.br_f ?_ ?_; focus (simp [b1, b2, b3, b4, b5, b6, b7, h1, h2, h3, h4, h5, h6, h7, h8, h9, h10, h11, h12, h13, c1, c2, c3, c4, c5, i0, i1, hb, hb0, k0, k1, k2, k3, k5]; done))
            | (refine And.intro hb0 ?_)
            | fail
          refine ⟨rfl, ?_⟩
          simp [beqd, AV.γ, V.γ, Sc.γ, Mb.bank, Mb.bankN, b1, b2, b3, b4, b5, b6, b7, h1, h2, h3, h4, h5, h6, h7, h8, h9, h10, h11, h12, h13, c1, c2, c3, c4, c5, i0, i1, hb, hb0, k0, k1, k2, k3, k5]
    · cases mode
      · rcases hb with hb | ⟨hb, hb0⟩
        · repeat' first
            | (refine T.br_t ?_ ?_; focus (simp [b1, b2, b3, b4, b5, b6, b7, h1, h2, h3, h4, h5, h6, h7, h8, h9, h10, h11, h12, h13, c1, c2, c3, c4, c5, i0, i1, hb, k0, k1, k2, k3, k5]; done))
            | (refine T.br_f ?_ ?_; focus (simp [b1, b2, b3, b4, b5, b6, b7, h1, h2, h3, h4, h5, h6, h7, h8, h9, h10, h11, h12, h13, c1, c2, c3, c4, c5, i0, i1, hb, k0, k1, k2, k3, k5]; done))
          refine ⟨rfl, ?_⟩
          simp [beqd, AV.γ, V.γ, Sc.γ, Mb.bank, Mb.bankN, b1, b2, b3, b4, b5, b6, b7, h1, h2, h3, h4, h5, h6, h7, h8, h9, h10, h11, h12, h13, c1, c2, c3, c4, c5, i0, i1, hb, k0, k1, k2, k3, k5]
        · repeat' first
            | (refine T.br_t ?_ ?_; focus (simp [b1, b2, b3, b4, b5, b6, b7, h1, h2, h3, h4, h5, h6, h7, h8, h9, h10, h11, h12, h13, c1, c2, c3, c4, c5, i0, i1, hb, hb0, k0, k1, k2, k3, k5]; done))
            | (refine T.br_f ?_ ?_; focus (simp [b1, b2, b3, b4, b5, b6, b7, h1, h2, h3, h4, h5, h6, h7, h8, h9, h10, h11, h12, h13, c1, c2, c3, c4, c5, i0, i1, hb, hb0, k0, k1, k2, k3, k5]; done))
            | (refine And.intro hb0 ?_)
            | fail
          refine ⟨rfl, ?_⟩
          simp [beqd, AV.γ, V.γ, Sc.γ, Mb.bank, Mb.bankN, b1, b2, b3, b4, b5, b6, b7, h1, h2, h3, h4, h5, h6, h7, h8, h9, h10, h11, h12, h13, c1, c2, c3, c4, c5, i0, i1, hb, hb0, k0, k1, k2, k3, k5]
      · rcases hb with hb | ⟨hb, hb0⟩
        · repeat' first
            | (refine T.br_t ?_ ?_; focus (simp [b1, b2, b3, b4, b5, b6, b7, h1, h2, h3, h4, h5, h6, h7, h8, h9, h10, h11, h12, h13, c1, c2, c3, c4, c5, i0, i1, hb, k0, k1, k2, k3, k5]; done))
            | (refine T.br_f ?_ ?_; focus (simp [b1, b2, b3, b4, b5, b6, b7, h1, h2, h3, h4, h5, h6, h7, h8, h9, h10, h11, h12, h13, c1, c2, c3, c4, c5, i0, i1, hb, k0, k1, k2, k3, k5]; done))
          refine ⟨rfl, ?_⟩
          simp [beqd, AV.γ, V.γ, Sc.γ, Mb.bank, Mb.bankN, b1, b2, b3, b4, b5, b6, b7, h1, h2, h3, h4, h5, h6, h7, h8, h9, h10, h11, h12, h13, c1, c2, c3, c4, c5, i0, i1, hb, k0, k1, k2, k3, k5]
        · repeat' first
            | (refine T.br_t ?_ ?_; focus (simp [b1, b2, b3, b4, b5, b6, b7, h1, h2, h3, h4, h5, h6, h7, h8, h9, h10, h11, h12, h13, c1, c2, c3, c4, c5, i0, i1, hb, hb0, k0, k1, k2, k3, k5]; done))
            | (refine T.br_f ?_ ?_; focus (simp [b1, b2, b3, b4, b5, b6, b7, h1, h2, h3, h4, h5, h6, h7, h8, h9, h10, h11, h12, h13, c1, c2, c3, c4, c5, i0, i1, hb, hb0, k0, k1, k2, k3, k5]; done))
            | (refine And.intro hb0 ?_)
            | fail
          refine ⟨rfl, ?_⟩
          simp [beqd, AV.γ, V.γ, Sc.γ, Mb.bank, Mb.bankN, b1, b2, b3, b4, b5, b6, b7, h1, h2, h3, h4, h5, h6, h7, h8, h9, h10, h11, h12, h13, c1, c2, c3, c4, c5, i0, i1, hb, hb0, k0, k1, k2, k3, k5]
set_option maxHeartbeats 4000000 in
theorem rbank_any (w : World) (k banks ram : Int) (on mode : Bool) (low high last : Int) (a : Int) (ba : Mb.W a) (bl : 0 ≤ low ∧ low < 512) (bh : 0 ≤ high ∧ high < 16) : Calls Try.prog 20 #[.agg #[.int .i64 k, .int .i64 banks, .int .i64 ram, .bool on, .bool mode, .int .i64 low, .int .i64 high, .int .u8 last], .int .u16 a] w fun e w' => e = .returned (.int .i64 (Mb.bank k banks a low high mode)) ∧ Below w.heap.size w w' := by
  refine val_eq base2 (ctrs_none _ _) (loops_none _ _) (rbank_tree w k banks ram on mode low high last a) rfl ?_
  have hi : (a / 16384 % 2 = 0 ∧ ¬ a / 16384 % 2 = 1) ∨ (a / 16384 % 2 = 1 ∧ ¬ a / 16384 % 2 = 0) := by omega
  have hb : banks < 1 ∨ (¬ banks < 1 ∧ banks ≠ 0) := by omega
  have b1 := fa_b1 ba
  have b2 := fa_b2 ba
  have b3 := fa_b3 ba
  have b4 := fa_b4 ba
  have b5 := fa_b5 ba
  have b6 := fa_b6 ba
  have b7 := hi14 ba
  have h1 := fh_h1 banks bl bh
  have h2 := fh_h2 banks bl bh
  have h3 := fh_h3 banks bl bh
  have h4 := fh_h4 banks bl bh
  have h5 := fh_h5 banks bl bh
  have h6 := fh_h6 banks bl bh
  have h7 := fh_h7 banks bl bh
  have h8 := fh_h8 banks bl bh
  have h9 := fh_h9 banks bl bh
  have h10 := fh_h10 banks bl bh
  have h11 := fh_h11 banks bl bh
  have h12 := fh_h12 banks bl bh
  have h13 := fh_h13 banks bl bh
  have c1 := fc_c1 ram ba bh
  have c2 := fc_c2 ram ba bh
  have c3 := fc_c3 ram ba bh
  have c4 := fc_c4 ram ba bh
  have c5 := fc_c5 ram ba bh
  by_cases k0 : k = 0
  · subst k0
    rcases hi with ⟨i0, i1⟩ | ⟨i0, i1⟩
    · cases mode
      · rcases hb with hb | ⟨hb, hb0⟩
        · repeat' first
            | (refine T.br_t ?_ ?_; focus (simp [b1, b2, b3, b4, b5, b6, b7, h1, h2, h3, h4, h5, h6, h7, h8, h9, h10, h11, h12, h13, c1, c2, c3, c4, c5, i0, i1, hb, Int.cast_ofNat_Int]; done))
            | (refine T.br_f ?_ ?_; focus (simp [b1, b2, b3, b4, b5, b6, b7, h1, h2, h3, h4, h5, h6, h7, h8, h9, h10, h11, h12, h13, c1, c2, c3, c4, c5, i0, i1, hb, Int.cast_ofNat_Int]; done))
          refine ⟨rfl, ?_⟩
          simp [beqd, AV.γ, V.γ, Sc.γ, Mb.bank, Mb.bankN, b1, b2, b3, b4, b5, b6, b7, h1, h2, h3, h4, h5, h6, h7, h8, h9, h10, h11, h12, h13, c1, c2, c3, c4, c5, i0, i1, hb, Int.cast_ofNat_Int]
        · repeat' first
            | (refine T.br_t ?_ ?_; focus (simp [b1, b2, b3, b4, b5, b6, b7, h1, h2, h3, h4, h5, h6, h7, h8, h9, h10, h11, h12, h13, c1, c2, c3, c4, c5, i0, i1, hb, hb0, Int.cast_ofNat_Int]; done))
            | (refine T.br_f ?_ ?_; focus (simp [b1, b2, b3, b4, b5, b6, b7, h1, h2, h3, h4, h5, h6, h7, h8, h9, h10, h11, h12, h13, c1, c2, c3, c4, c5, i0, i1, hb, hb0, Int.cast_ofNat_Int]; done))
            | (refine And.intro hb0 ?_)
            | fail
          refine ⟨rfl, ?_⟩
          simp [beqd, AV.γ, V.γ, Sc.γ, Mb.bank, Mb.bankN, b1, b2, b3, b4, b5, b6, b7, h1, h2, h3, h4, h5, h6, h7, h8, h9, h10, h11, h12, h13, c1, c2, c3, c4, c5, i0, i1, hb, hb0, Int.cast_ofNat_Int]
      · rcases hb with hb | ⟨hb, hb0⟩
        · repeat' first
            | (refine T.br_t ?_ ?_; focus (simp [b1, b2, b3, b4, b5, b6, b7, h1, h2, h3, h4, h5, h6, h7, h8, h9, h10, h11, h12, h13, c1, c2, c3, c4, c5, i0, i1, hb, Int.cast_ofNat_Int]; done))
            | (refine T.br_f ?_ ?_; focus (simp [b1, b2, b3, b4, b5, b6, b7, h1, h2, h3, h4, h5, h6, h7, h8, h9, h10, h11, h12, h13, c1, c2, c3, c4, c5, i0, i1, hb, Int.cast_ofNat_Int]; done))
          refine ⟨rfl, ?_⟩
          simp [beqd, AV.γ, V.γ, Sc.γ, Mb.bank, Mb.bankN, b1, b2, b3, b4, b5, b6, b7, h1, h2, h3, h4, h5, h6, h7, h8, h9, h10, h11, h12, h13, c1, c2, c3, c4, c5, i0, i1, hb, Int.cast_ofNat_Int]
        · repeat' first
            | (refine T.br_t ?_ ?_; focus (simp [b1, b2, b3, b4, b5, b6, b7, h1, h2, h3, h4, h5, h6, h7, h8, h9, h10, h11, h12, h13, c1, c2, c3, c4, c5, i0, i1, hb, hb0, Int.cast_ofNat_Int]; done))
            | (refine T.br_f ?_ ?_; focus (simp [b1, b2, b3, b4, b5, b6, b7, h1, h2, h3, h4, h5, h6, h7, h8, h9, h10, h11, h12, h13, c1, c2, c3, c4, c5, i0, i1, hb, hb0, Int.cast_ofNat_Int]; done))
            | (refine And.intro hb0 ?_)
            | fail
          refine ⟨rfl, ?_⟩
          simp [beqd, AV.γ, V.γ, Sc.γ, Mb.bank, Mb.bankN, b1, b2, b3, b4, b5, b6, b7, h1, h2, h3, h4, h5, h6, h7, h8, h9, h10, h11, h12, h13, c1, c2, c3, c4, c5, i0, i1, hb, hb0, Int.cast_ofNat_Int]
    · cases mode
      · rcases hb with hb | ⟨hb, hb0⟩
        · repeat' first
            | (refine T.br_t ?_ ?_; focus (simp [b1, b2, b3, b4, b5, b6, b7, h1, h2, h3, h4, h5, h6, h7, h8, h9, h10, h11, h12, h13, c1, c2, c3, c4, c5, i0, i1, hb, Int.cast_ofNat_Int]; done))
            | (refine T.br_f ?_ ?_; focus (simp [b1, b2, b3, b4, b5, b6, b7, h1, h2, h3, h4, h5, h6, h7, h8, h9, h10, h11, h12, h13, c1, c2, c3, c4, c5, i0, i1, hb, Int.cast_ofNat_Int]; done))
          refine ⟨rfl, ?_⟩
          simp [beqd, AV.γ, V.γ, Sc.γ, Mb.bank, Mb.bankN, b1, b2, b3, b4, b5, b6, b7, h1, h2, h3, h4, h5, h6, h7, h8, h9, h10, h11, h12, h13, c1, c2, c3, c4, c5, i0, i1, hb, Int.cast_ofNat_Int]
        · repeat' first
            | (refine T.br_t ?_ ?_; focus (simp [b1, b2, b3, b4, b5, b6, b7, h1, h2, h3, h4, h5, h6, h7, h8, h9, h10, h11, h12, h13, c1, c2, c3, c4, c5, i0, i1, hb, hb0, Int.cast_ofNat_Int]; done))
            | (refine T.br_f ?_ ?_; focus (simp [b1, b2, b3, b4, b5, b6, b7, h1, h2, h3, h4, h5, h6, h7, h8, h9, h10, h11, h12, h13, c1, c2, c3, c4, c5, i0, i1, hb, hb0, Int.cast_ofNat_Int]; done))
            | (refine And.intro hb0 ?_)
            | fail
          refine ⟨rfl, ?_⟩
          simp [beqd, AV.γ, V.γ, Sc.γ, Mb.bank, Mb.bankN, b1, b2, b3, b4, b5, b6, b7, h1, h2, h3, h4, h5, h6, h7, h8, h9, h10, h11, h12, h13, c1, c2, c3, c4, c5, i0, i1, hb, hb0, Int.cast_ofNat_Int]
      · rcases hb with hb | ⟨hb, hb0⟩
        · repeat' first
            | (refine T.br_t ?_ ?_; focus (simp [b1, b2, b3, b4, b5, b6, b7, h1, h2, h3, h4, h5, h6, h7, h8, h9, h10, h11, h12, h13, c1, c2, c3, c4, c5, i0, i1, hb, Int.cast_ofNat_Int]; done))
            | (refine T.br_f ?_ ?_; focus (simp [b1, b2, b3, b4, b5, b6, b7, h1, h2, h3, h4, h5, h6, h7, h8, h9, h10, h11, h12, h13, c1, c2, c3, c4, c5, i0, i1, hb, Int.cast_ofNat_Int]; done))
          refine ⟨rfl, ?_⟩
          simp [beqd, AV.γ, V.γ, Sc.γ, Mb.bank, Mb.bankN, b1, b2, b3, b4, b5, b6, b7, h1, h2, h3, h4, h5, h6, h7, h8, h9, h10, h11, h12, h13, c1, c2, c3, c4, c5, i0, i1, hb, Int.cast_ofNat_Int]
        · repeat' first
            | (refine T.br_t ?_ ?_; focus (simp [b1, b2, b3, b4, b5, b6, b7, h1, h2, h3, h4, h5, h6, h7, h8, h9, h10, h11, h12, h13, c1, c2, c3, c4, c5, i0, i1, hb, hb0, Int.cast_ofNat_Int]; done))
            | (refine T.br_f ?_ ?_; focus (simp [b1, b2, b3, b4, b5, b6, b7, h1, h2, h3, h4, h5, h6, h7, h8, h9, h10, h11, h12, h13, c1, c2, c3, c4, c5, i0, i1, hb, hb0, Int.cast_ofNat_Int]; done))
            | (refine And.intro hb0 ?_)
            | fail
          refine ⟨rfl, ?_⟩
          simp [beqd, AV.γ, V.γ, Sc.γ, Mb.bank, Mb.bankN, b1, b2, b3, b4, b5, b6, b7, h1, h2, h3, h4, h5, h6, h7, h8, h9, h10, h11, h12, h13, c1, c2, c3, c4, c5, i0, i1, hb, hb0, Int.cast_ofNat_Int]
  by_cases k1 : k = 1
  · subst k1
    rcases hi with ⟨i0, i1⟩ | ⟨i0, i1⟩
    · cases mode
      · rcases hb with hb | ⟨hb, hb0⟩
        · repeat' first
            | (refine T.br_t ?_ ?_; focus (simp [b1, b2, b3, b4, b5, b6, b7, h1, h2, h3, h4, h5, h6, h7, h8, h9, h10, h11, h12, h13, c1, c2, c3, c4, c5, i0, i1, hb, Int.cast_ofNat_Int]; done))
            | (refine T.br_f ?_ ?_; focus (simp [b1, b2, b3, b4, b5, b6, b7, h1, h2, h3, h4, h5, h6, h7, h8, h9, h10, h11, h12, h13, c1, c2, c3, c4, c5, i0, i1, hb, Int.cast_ofNat_Int]; done))
          refine ⟨rfl, ?_⟩
          simp [beqd, AV.γ, V.γ, Sc.γ, Mb.bank, Mb.bankN, b1, b2, b3, b4, b5, b6, b7, h1, h2, h3, h4, h5, h6, h7, h8, h9, h10, h11, h12, h13, c1, c2, c3, c4, c5, i0, i1, hb, Int.cast_ofNat_Int]
        · repeat' first
            | (refine T.br_t ?_ ?_; focus (simp [b1, b2, b3, b4, b5, b6, b7, h1, h2, h3, h4, h5, h6, h7, h8, h9, h10, h11, h12, h13, c1, c2, c3, c4, c5, i0, i1, hb, hb0, Int.cast_ofNat_Int]; done))
            | (refine T.br_f ?_ ?_; focus (simp [b1, b2, b3, b4, b5, b6, b7, h1, h2, h3, h4, h5, h6, h7, h8, h9, h10, h11, h12, h13, c1, c2, c3, c4, c5, i0, i1, hb, hb0, Int.cast_ofNat_Int]; done))
            | (refine And.intro hb0 ?_)
            | fail
          refine ⟨rfl, ?_⟩
          simp [beqd, AV.γ, V.γ, Sc.γ, Mb.bank, Mb.bankN, b1, b2, b3, b4, b5, b6, b7, h1, h2, h3, h4, h5, h6, h7, h8, h9, h10, h11, h12, h13, c1, c2, c3, c4, c5, i0, i1, hb, hb0, Int.cast_ofNat_Int]
      · rcases hb with hb | ⟨hb, hb0⟩
        · repeat' first
            | (refine T.br_t ?_ ?_; focus (simp [b1, b2, b3, b4, b5, b6, b7, h1, h2, h3, h4, h5, h6, h7, h8, h9, h10, h11, h12, h13, c1, c2, c3, c4, c5, i0, i1, hb, Int.cast_ofNat_Int]; done))
            | (refine T.br_f ?_ ?_; focus (simp [b1, b2, b3, b4, b5, b6, b7, h1, h2, h3, h4, h5, h6, h7, h8, h9, h10, h11, h12, h13, c1, c2, c3, c4, c5, i0, i1, hb, Int.cast_ofNat_Int]; done))
          refine ⟨rfl, ?_⟩
          simp [beqd, AV.γ, V.γ, Sc.γ, Mb.bank, Mb.bankN, b1, b2, b3, b4, b5, b6, b7, h1, h2, h3, h4, h5, h6, h7, h8, h9, h10, h11, h12, h13, c1, c2, c3, c4, c5, i0, i1, hb, Int.cast_ofNat_Int]
        · repeat' first
            | (refine T.br_t ?_ ?_; focus (simp [b1, b2, b3, b4, b5, b6, b7, h1, h2, h3, h4, h5, h6, h7, h8, h9, h10, h11, h12, h13, c1, c2, c3, c4, c5, i0, i1, hb, hb0, Int.cast_ofNat_Int]; done))
            | (refine T.br_f ?_ ?_; focus (simp [b1, b2, b3, b4, b5, b6, b7, h1, h2, h3, h4, h5, h6, h7, h8, h9, h10, h11, h12, h13, c1, c2, c3, c4, c5, i0, i1, hb, hb0, Int.cast_ofNat_Int]; done))
            | (refine And.intro hb0 ?_)
            | fail
          refine ⟨rfl, ?_⟩
          simp [beqd, AV.γ, V.γ, Sc.γ, Mb.bank, Mb.bankN, b1, b2, b3, b4, b5, b6, b7, h1, h2, h3, h4, h5, h6, h7, h8, h9, h10, h11, h12, h13, c1, c2, c3, c4, c5, i0, i1, hb, hb0, Int.cast_ofNat_Int]
    · cases mode
      · rcases hb with hb | ⟨hb, hb0⟩
        · repeat' first
            | (refine T.br_t ?_ ?_; focus (simp [b1, b2, b3, b4, b5, b6, b7, h1, h2, h3, h4, h5, h6, h7, h8, h9, h10, h11, h12, h13, c1, c2, c3, c4, c5, i0, i1, hb, Int.cast_ofNat_Int]; done))
            | (refine T.br_f ?_ ?_; focus (simp [b1, b2, b3, b4, b5, b6, b7, h1, h2, h3, h4, h5, h6, h7, h8, h9, h10, h11, h12, h13, c1, c2, c3, c4, c5, i0, i1, hb, Int.cast_ofNat_Int]; done))
          refine ⟨rfl, ?_⟩
          simp [beqd, AV.γ, V.γ, Sc.γ, Mb.bank, Mb.bankN, b1, b2, b3, b4, b5, b6, b7, h1, h2, h3, h4, h5, h6, h7, h8, h9, h10, h11, h12, h13, c1, c2, c3, c4, c5, i0, i1, hb, Int.cast_ofNat_Int]
        · repeat' first
            | (refine T.br_t ?_ ?_; focus (simp [b1, b2, b3, b4, b5, b6, b7, h1, h2, h3, h4, h5, h6, h7, h8, h9, h10, h11, h12, h13, c1, c2, c3, c4, c5, i0, i1, hb, hb0, Int.cast_ofNat_Int]; done))
            | (refine T.br_f ?_ ?_; focus (simp [b1, b2, b3, b4, b5, b6, b7, h1, h2, h3, h4, h5, h6, h7, h8, h9, h10, h11, h12, h13, c1, c2, c3, c4, c5, i0, i1, hb, hb0, Int.cast_ofNat_Int]; done))
            | (refine And.intro hb0 ?_)
            | fail
          refine ⟨rfl, ?_⟩
          simp [beqd, AV.γ, V.γ, Sc.γ, Mb.bank, Mb.bankN, b1, b2, b3, b4, b5, b6, b7, h1, h2, h3, h4, h5, h6, h7, h8, h9, h10, h11, h12, h13, c1, c2, c3, c4, c5, i0, i1, hb, hb0, Int.cast_ofNat_Int]
      · rcases hb with hb | ⟨hb, hb0⟩
        · repeat' first
            | (refine T.br_t ?_ ?_; focus (simp [b1, b2, b3, b4, b5, b6, b7, h1, h2, h3, h4, h5, h6, h7, h8, h9, h10, h11, h12, h13, c1, c2, c3, c4, c5, i0, i1, hb, Int.cast_ofNat_Int]; done))
            | (refine T.br_f ?_ ?_; focus (simp [b1, b2, b3, b4, b5, b6, b7, h1, h2, h3, h4, h5, h6, h7, h8, h9, h10, h11, h12, h13, c1, c2, c3, c4, c5, i0, i1, hb, Int.cast_ofNat_Int]; done))
          refine ⟨rfl, ?_⟩
          simp [beqd, AV.γ, V.γ, Sc.γ, Mb.bank, Mb.bankN, b1, b2, b3, b4, b5, b6, b7, h1, h2, h3, h4, h5, h6, h7, h8, h9, h10, h11, h12, h13, c1, c2, c3, c4, c5, i0, i1, hb, Int.cast_ofNat_Int]
        · repeat' first
            | (refine T.br_t ?_ ?_; focus (simp [b1, b2, b3, b4, b5, b6, b7, h1, h2, h3, h4, h5, h6, h7, h8, h9, h10, h11, h12, h13, c1, c2, c3, c4, c5, i0, i1, hb, hb0, Int.cast_ofNat_Int]; done))
            | (refine T.br_f ?_ ?_; focus (simp [b1, b2, b3, b4, b5, b6, b7, h1, h2, h3, h4, h5, h6, h7, h8, h9, h10, h11, h12, h13, c1, c2, c3, c4, c5, i0, i1, hb, hb0, Int.cast_ofNat_Int]; done))
            | (refine And.intro hb0 ?_)
            | fail
          refine ⟨rfl, ?_⟩
          simp [beqd, AV.γ, V.γ, Sc.γ, Mb.bank, Mb.bankN, b1, b2, b3, b4, b5, b6, b7, h1, h2, h3, h4, h5, h6, h7, h8, h9, h10, h11, h12, h13, c1, c2, c3, c4, c5, i0, i1, hb, hb0, Int.cast_ofNat_Int]
  by_cases k2 : k = 2
  · subst k2
    rcases hi with ⟨i0, i1⟩ | ⟨i0, i1⟩
    · cases mode
      · rcases hb with hb | ⟨hb, hb0⟩
        · repeat' first
            | (refine T.br_t ?_ ?_; focus (simp [b1, b2, b3, b4, b5, b6, b7, h1, h2, h3, h4, h5, h6, h7, h8, h9, h10, h11, h12, h13, c1, c2, c3, c4, c5, i0, i1, hb, Int.cast_ofNat_Int]; done))
            | (refine T.br_f ?_ ?_; focus (simp [b1, b2, b3, b4, b5, b6, b7, h1, h2, h3, h4, h5, h6, h7, h8, h9, h10, h11, h12, h13, c1, c2, c3, c4, c5, i0, i1, hb, Int.cast_ofNat_Int]; done))
          refine ⟨rfl, ?_⟩
          simp [beqd, AV.γ, V.γ, Sc.γ, Mb.bank, Mb.bankN, b1, b2, b3, b4, b5, b6, b7, h1, h2, h3, h4, h5, h6, h7, h8, h9, h10, h11, h12, h13, c1, c2, c3, c4, c5, i0, i1, hb, Int.cast_ofNat_Int]
        · repeat' first
            | (refine T.br_t ?_ ?_; focus (simp [b1, b2, b3, b4, b5, b6, b7, h1, h2, h3, h4, h5, h6, h7, h8, h9, h10, h11, h12, h13, c1, c2, c3, c4, c5, i0, i1, hb, hb0, Int.cast_ofNat_Int]; done))
            | (refine T.br_f ?_ ?_; focus (simp [b1, b2, b3, b4, b5, b6, b7, h1, h2, h3, h4, h5, h6, h7, h8, h9, h10, h11, h12, h13, c1, c2, c3, c4, c5, i0, i1, hb, hb0, Int.cast_ofNat_Int]; done))
            | (refine And.intro hb0 ?_)
            | fail
          refine ⟨rfl, ?_⟩
          simp [beqd, AV.γ, V.γ, Sc.γ, Mb.bank, Mb.bankN, b1, b2, b3, b4, b5, b6, b7, h1, h2, h3, h4, h5, h6, h7, h8, h9, h10, h11, h12, h13, c1, c2, c3, c4, c5, i0, i1, hb, hb0, Int.cast_ofNat_Int]
      · rcases hb with hb | ⟨hb, hb0⟩
        · repeat' first
            | (refine T.br_t ?_ ?_; focus (simp [b1, b2, b3, b4, b5, b6, b7, h1, h2, h3, h4, h5, h6, h7, h8, h9, h10, h11, h12, h13, c1, c2, c3, c4, c5, i0, i1, hb, Int.cast_ofNat_Int]; done))
            | (refine T.br_f ?_ ?_; focus (simp [b1, b2, b3, b4, b5, b6, b7, h1, h2, h3, h4, h5, h6, h7, h8, h9, h10, h11, h12, h13, c1, c2, c3, c4, c5, i0, i1, hb, Int.cast_ofNat_Int]; done))
          refine ⟨rfl, ?_⟩
          simp [beqd, AV.γ, V.γ, Sc.γ, Mb.bank, Mb.bankN, b1, b2, b3, b4, b5, b6, b7, h1, h2, h3, h4, h5, h6, h7, h8, h9, h10, h11, h12, h13, c1, c2, c3, c4, c5, i0, i1, hb, Int.cast_ofNat_Int]
        · repeat' first
            | (refine T.br_t ?_ ?_; focus (simp [b1, b2, b3, b4, b5, b6, b7, h1, h2, h3, h4, h5, h6, h7, h8, h9, h10, h11, h12, h13, c1, c2, c3, c4, c5, i0, i1, hb, hb0, Int.cast_ofNat_Int]; done))
            | (refine T.br_f ?_ ?_; focus (simp [b1, b2, b3, b4, b5, b6, b7, h1, h2, h3, h4, h5, h6, h7, h8, h9, h10, h11, h12, h13, c1, c2, c3, c4, c5, i0, i1, hb, hb0, Int.cast_ofNat_Int]; done))
            | (refine And.intro hb0 ?_)
            | fail
          refine ⟨rfl, ?_⟩
          simp [beqd, AV.γ, V.γ, Sc.γ, Mb.bank, Mb.bankN, b1, b2, b3, b4, b5, b6, b7, h1, h2, h3, h4, h5, h6, h7, h8, h9, h10, h11, h12, h13, c1, c2, c3, c4, c5, i0, i1, hb, hb0, Int.cast_ofNat_Int]
    · cases mode
      · rcases hb with hb | ⟨hb, hb0⟩
        · repeat' first
            | (refine T.br_t ?_ ?_; focus (simp [b1, b2, b3, b4, b5, b6, b7, h1, h2, h3, h4, h5, h6, h7, h8, h9, h10, h11, h12, h13, c1, c2, c3, c4, c5, i0, i1, hb, Int.cast_ofNat_Int]; done))
            | (refine T.br_f ?_ ?_; focus (simp [b1, b2, b3, b4, b5, b6, b7, h1, h2, h3, h4, h5, h6, h7, h8, h9, h10, h11, h12, h13, c1, c2, c3, c4, c5, i0, i1, hb, Int.cast_ofNat_Int]; done))
          refine ⟨rfl, ?_⟩
          simp [beqd, AV.γ, V.γ, Sc.γ, Mb.bank, Mb.bankN, b1, b2, b3, b4, b5, b6, b7, h1, h2, h3, h4, h5, h6, h7, h8, h9, h10, h11, h12, h13, c1, c2, c3, c4, c5, i0, i1, hb, Int.cast_ofNat_Int]
        · repeat' first
            | (refine T.br_t ?_ ?_; focus (simp [b1, b2, b3, b4, b5, b6, b7, h1, h2, h3, h4, h5, h6, h7, h8, h9, h10, h11, h12, h13, c1, c2, c3, c4, c5, i0, i1, hb, hb0, Int.cast_ofNat_Int]; done))
            | (refine T.br_f ?_ ?_; focus (simp [b1, b2, b3, b4, b5, b6, b7, h1, h2, h3, h4, h5, h6, h7, h8, h9, h10, h11, h12, h13, c1, c2, c3, c4, c5, i0, i1, hb, hb0, Int.cast_ofNat_Int]; done))
            | (refine And.intro hb0 ?_)
            | fail
          refine ⟨rfl, ?_⟩
          simp [beqd, AV.γ, V.γ, Sc.γ, Mb.bank, Mb.bankN, b1, b2, b3, b4, b5, b6, b7, h1, h2, h3, h4, h5, h6, h7, h8, h9, h10, h11, h12, h13, c1, c2, c3, c4, c5, i0, i1, hb, hb0, Int.cast_ofNat_Int]
      · rcases hb with hb | ⟨hb, hb0⟩
        · repeat' first
            | (refine T.br_t ?_ ?_; focus (simp [b1, b2, b3, b4, b5, b6, b7, h1, h2, h3, h4, h5, h6, h7, h8, h9, h10, h11, h12, h13, c1, c2, c3, c4, c5, i0, i1, hb, Int.cast_ofNat_Int]; done))
            | (refine T.br_f ?_ ?_; focus (simp [b1, b2, b3, b4, b5, b6, b7, h1, h2, h3, h4, h5, h6, h7, h8, h9, h10, h11, h12, h13, c1, c2, c3, c4, c5, i0, i1, hb, Int.cast_ofNat_Int]; done))
          refine ⟨rfl, ?_⟩
          simp [beqd, AV.γ, V.γ, Sc.γ, Mb.bank, Mb.bankN, b1, b2, b3, b4, b5, b6, b7, h1, h2, h3, h4, h5, h6, h7, h8, h9, h10, h11, h12, h13, c1, c2, c3, c4, c5, i0, i1, hb, Int.cast_ofNat_Int]
        · repeat' first
            | (refine T.br_t ?_ ?_; focus (simp [b1, b2, b3, b4, b5, b6, b7, h1, h2, h3, h4, h5, h6, h7, h8, h9, h10, h11, h12, h13, c1, c2, c3, c4, c5, i0, i1, hb, hb0, Int.cast_ofNat_Int]; done))
            | (refine T.br_f ?_ ?_; focus (simp [b1, b2, b3, b4, b5, b6, b7, h1, h2, h3, h4, h5, h6, h7, h8, h9, h10, h11, h12, h13, c1, c2, c3, c4, c5, i0, i1, hb, hb0, Int.cast_ofNat_Int]; done))
            | (refine And.intro hb0 ?_)
            | fail
          refine ⟨rfl, ?_⟩
          simp [beqd, AV.γ, V.γ, Sc.γ, Mb.bank, Mb.bankN, b1, b2, b3, b4, b5, b6, b7, h1, h2, h3, h4, h5, h6, h7, h8, h9, h10, h11, h12, h13, c1, c2, c3, c4, c5, i0, i1, hb, hb0, Int.cast_ofNat_Int]
  by_cases k3 : k = 3
  · subst k3
    rcases hi with ⟨i0, i1⟩ | ⟨i0, i1⟩
    · cases mode
      · rcases hb with hb | ⟨hb, hb0⟩
        · repeat' first
            | (refine T.br_t ?_ ?_; focus (simp [b1, b2, b3, b4, b5, b6, b7, h1, h2, h3, h4, h5, h6, h7, h8, h9, h10, h11, h12, h13, c1, c2, c3, c4, c5, i0, i1, hb, Int.cast_ofNat_Int]; done))
            | (refine T.br_f ?_ ?_; focus (simp [b1, b2, b3, b4, b5, b6, b7, h1, h2, h3, h4, h5, h6, h7, h8, h9, h10, h11, h12, h13, c1, c2, c3, c4, c5, i0, i1, hb, Int.cast_ofNat_Int]; done))
          refine ⟨rfl, ?_⟩
          simp [beqd, AV.γ, V.γ, Sc.γ, Mb.bank, Mb.bankN, b1, b2, b3, b4, b5, b6, b7, h1, h2, h3, h4, h5, h6, h7, h8, h9, h10, h11, h12, h13, c1, c2, c3, c4, c5, i0, i1, hb, Int.cast_ofNat_Int]
        · repeat' first
            | (refine T.br_t ?_ ?_; focus (simp [b1, b2, b3, b4, b5, b6, b7, h1, h2, h3, h4, h5, h6, h7, h8, h9, h10, h11, h12, h13, c1, c2, c3, c4, c5, i0, i1, hb, hb0, Int.cast_ofNat_Int]; done))
            | (refine T.br_f ?_ ?_; focus (simp [b1, b2, b3, b4, b5, b6, b7, h1, h2, h3, h4, h5, h6, h7, h8, h9, h10, h11, h12, h13, c1, c2, c3, c4, c5, i0, i1, hb, hb0, Int.cast_ofNat_Int]; done))
            | (refine And.intro hb0 ?_)
            | fail
          refine ⟨rfl, ?_⟩
          simp [beqd, AV.γ, V.γ, Sc.γ, Mb.bank, Mb.bankN, b1, b2, b3, b4, b5, b6, b7, h1, h2, h3, h4, h5, h6, h7, h8, h9, h10, h11, h12, h13, c1, c2, c3, c4, c5, i0, i1, hb, hb0, Int.cast_ofNat_Int]
      · rcases hb with hb | ⟨hb, hb0⟩
        · repeat' first
            | (refine T.br_t ?_ ?_; focus (simp [b1, b2, b3, b4, b5, b6, b7, h1, h2, h3, h4, h5, h6, h7, h8, h9, h10, h11, h12, h13, c1, c2, c3, c4, c5, i0, i1, hb, Int.cast_ofNat_Int]; done))
            | (refine T.br_f ?_ ?_; focus (simp [b1, b2, b3, b4, b5, b6, b7, h1, h2, h3, h4, h5, h6, h7, h8, h9, h10, h11, h12, h13, c1, c2, c3, c4, c5, i0, i1, hb, Int.cast_ofNat_Int]; done))
          refine ⟨rfl, ?_⟩
          simp [beqd, AV.γ, V.γ, Sc.γ, Mb.bank, Mb.bankN, b1, b2, b3, b4, b5, b6, b7, h1, h2, h3, h4, h5, h6, h7, h8, h9, h10, h11, h12, h13, c1, c2, c3, c4, c5, i0, i1, hb, Int.cast_ofNat_Int]
        · repeat' first
            | (refine T.br_t ?_ ?_; focus (simp [b1, b2, b3, b4, b5, b6, b7, h1, h2, h3, h4, h5, h6, h7, h8, h9, h10, h11, h12, h13, c1, c2, c3, c4, c5, i0, i1, hb, hb0, Int.cast_ofNat_Int]; done))
            | (refine T.br_f ?_ ?_; focus (simp [b1, b2, b3, b4, b5, b6, b7, h1, h2, h3, h4, h5, h6, h7, h8, h9, h10, h11, h12, h13, c1, c2, c3, c4, c5, i0, i1, hb, hb0, Int.cast_ofNat_Int]; done))
            | (refine And.intro hb0 ?_)
            | fail
          refine ⟨rfl, ?_⟩
          simp [beqd, AV.γ, V.γ, Sc.γ, Mb.bank, Mb.bankN, b1, b2, b3, b4, b5, b6, b7, h1, h2, h3, h4, h5, h6, h7, h8, h9, h10, h11, h12, h13, c1, c2, c3, c4, c5, i0, i1, hb, hb0, Int.cast_ofNat_Int]
    · cases mode
      · rcases hb with hb | ⟨hb, hb0⟩
        · repeat' first
            | (refine T.br_t ?_ ?_; focus (simp [b1, b2, b3, b4, b5, b6, b7, h1, h2, h3, h4, h5, h6, h7, h8, h9, h10, h11, h12, h13, c1, c2, c3, c4, c5, i0, i1, hb, Int.cast_ofNat_Int]; done))
            | (refine T.br_f ?_ ?_; focus (simp [b1, b2, b3, b4, b5, b6, b7, h1, h2, h3, h4, h5, h6, h7, h8, h9, h10, h11, h12, h13, c1, c2, c3, c4, c5, i0, i1, hb, Int.cast_ofNat_Int]; done))
          refine ⟨rfl, ?_⟩
          simp [beqd, AV.γ, V.γ, Sc.γ, Mb.bank, Mb.bankN, b1, b2, b3, b4, b5, b6, b7, h1, h2, h3, h4, h5, h6, h7, h8, h9, h10, h11, h12, h13, c1, c2, c3, c4, c5, i0, i1, hb, Int.cast_ofNat_Int]
        · repeat' first
            | (refine T.br_t ?_ ?_; focus (simp [b1, b2, b3, b4, b5, b6, b7, h1, h2, h3, h4, h5, h6, h7, h8, h9, h10, h11, h12, h13, c1, c2, c3, c4, c5, i0, i1, hb, hb0, Int.cast_ofNat_Int]; done))
            | (refine T.br_f ?_ ?_; focus (simp [b1, b2, b3, b4, b5, b6, b7, h1, h2, h3, h4, h5, h6, h7, h8, h9, h10, h11, h12, h13, c1, c2, c3, c4, c5, i0, i1, hb, hb0, Int.cast_ofNat_Int]; done))
            | (refine And.intro hb0 ?_)
            | fail
          refine ⟨rfl, ?_⟩
          simp [beqd, AV.γ, V.γ, Sc.γ, Mb.bank, Mb.bankN, b1, b2, b3, b4, b5, b6, b7, h1, h2, h3, h4, h5, h6, h7, h8, h9, h10, h11, h12, h13, c1, c2, c3, c4, c5, i0, i1, hb, hb0, Int.cast_ofNat_Int]
      · rcases hb with hb | ⟨hb, hb0⟩
        · repeat' first
            | (refine T.br_t ?_ ?_; focus (simp [b1, b2, b3, b4, b5, b6, b7, h1, h2, h3, h4, h5, h6, h7, h8, h9, h10, h11, h12, h13, c1, c2, c3, c4, c5, i0, i1, hb, Int.cast_ofNat_Int]; done))
            | (refine T.br_f ?_ ?_; focus (simp [b1, b2, b3, b4, b5, b6, b7, h1, h2, h3, h4, h5, h6, h7, h8, h9, h10, h11, h12, h13, c1, c2, c3, c4, c5, i0, i1, hb, Int.cast_ofNat_Int]; done))
          refine ⟨rfl, ?_⟩
          simp [beqd, AV.γ, V.γ, Sc.γ, Mb.bank, Mb.bankN, b1, b2, b3, b4, b5, b6, b7, h1, h2, h3, h4, h5, h6, h7, h8, h9, h10, h11, h12, h13, c1, c2, c3, c4, c5, i0, i1, hb, Int.cast_ofNat_Int]
        · repeat' first
            | (refine T.br_t ?_ ?_; focus (simp [b1, b2, b3, b4, b5, b6, b7, h1, h2, h3, h4, h5, h6, h7, h8, h9, h10, h11, h12, h13, c1, c2, c3, c4, c5, i0, i1, hb, hb0, Int.cast_ofNat_Int]; done))
            | (refine T.br_f ?_ ?_; focus (simp [b1, b2, b3, b4, b5, b6, b7, h1, h2, h3, h4, h5, h6, h7, h8, h9, h10, h11, h12, h13, c1, c2, c3, c4, c5, i0, i1, hb, hb0, Int.cast_ofNat_Int]; done))
            | (refine And.intro hb0 ?_)
            | fail
          refine ⟨rfl, ?_⟩
          simp [beqd, AV.γ, V.γ, Sc.γ, Mb.bank, Mb.bankN, b1, b2, b3, b4, b5, b6, b7, h1, h2, h3, h4, h5, h6, h7, h8, h9, h10, h11, h12, h13, c1, c2, c3, c4, c5, i0, i1, hb, hb0, Int.cast_ofNat_Int]
  by_cases k5 : k = 5
  · subst k5
    rcases hi with ⟨i0, i1⟩ | ⟨i0, i1⟩
    · cases mode
      · rcases hb with hb | ⟨hb, hb0⟩
        · repeat' first
            | (refine T.br_t ?_ ?_; focus (simp [b1, b2, b3, b4, b5, b6, b7, h1, h2, h3, h4, h5, h6, h7, h8, h9, h10, h11, h12, h13, c1, c2, c3, c4, c5, i0, i1, hb, Int.cast_ofNat_Int]; done))
            | (refine T.br_f ?_ ?_; focus (simp [b1, b2, b3, b4, b5, b6, b7, h1, h2, h3, h4, h5, h6, h7, h8, h9, h10, h11, h12, h13, c1, c2, c3, c4, c5, i0, i1, hb, Int.cast_ofNat_Int]; done))
          refine ⟨rfl, ?_⟩
          simp [beqd, AV.γ, V.γ, Sc.γ, Mb.bank, Mb.bankN, b1, b2, b3, b4, b5, b6, b7, h1, h2, h3, h4, h5, h6, h7, h8, h9, h10, h11, h12, h13, c1, c2, c3, c4, c5, i0, i1, hb, Int.cast_ofNat_Int]
        · repeat' first
            | (refine T.br_t ?_ ?_; focus (simp [b1, b2, b3, b4, b5, b6, b7, h1, h2, h3, h4, h5, h6, h7, h8, h9, h10, h11, h12, h13, c1, c2, c3, c4, c5, i0, i1, hb, hb0, Int.cast_ofNat_Int]; done))
            | (refine T.br_f ?_ ?_; focus (simp [b1, b2, b3, b4, b5, b6, b7, h1, h2, h3, h4, h5, h6, h7, h8, h9, h10, h11, h12, h13, c1, c2, c3, c4, c5, i0, i1, hb, hb0, Int.cast_ofNat_Int]; done))
            | (refine And.intro hb0 ?_)
            | fail
          refine ⟨rfl, ?_⟩
          simp [beqd, AV.γ, V.γ, Sc.γ, Mb.bank, Mb.bankN, b1, b2, b3, b4, b5, b6, b7, h1, h2, h3, h4, h5, h6, h7, h8, h9, h10, h11, h12, h13, c1, c2, c3, c4, c5, i0, i1, hb, hb0, Int.cast_ofNat_Int]
      · rcases hb with hb | ⟨hb, hb0⟩
        · repeat' first
            | (refine T.br_t ?_ ?_; focus (simp [b1, b2, b3, b4, b5, b6, b7, h1, h2, h3, h4, h5, h6, h7, h8, h9, h10, h11, h12, h13, c1, c2, c3, c4, c5, i0, i1, hb, Int.cast_ofNat_Int]; done))
            | (refine T.br_f ?_ ?_; focus (simp [b1, b2, b3, b4, b5, b6, b7, h1, h2, h3, h4, h5, h6, h7, h8, h9, h10, h11, h12, h13, c1, c2, c3, c4, c5, i0, i1, hb, Int.cast_ofNat_Int]; done))
          refine ⟨rfl, ?_⟩
          simp [beqd, AV.γ, V.γ, Sc.γ, Mb.bank, Mb.bankN, b1, b2, b3, b4, b5, b6, b7, h1, h2, h3, h4, h5, h6, h7, h8, h9, h10, h11, h12, h13, c1, c2, c3, c4, c5, i0, i1, hb, Int.cast_ofNat_Int]
        · repeat' first
            | (refine T.br_t ?_ ?_; focus (simp [b1, b2, b3, b4, b5, b6, b7, h1, h2, h3, h4, h5, h6, h7, h8, h9, h10, h11, h12, h13, c1, c2, c3, c4, c5, i0, i1, hb, hb0, Int.cast_ofNat_Int]; done))
            | (refine T.br_f ?_ ?_; focus (simp [b1, b2, b3, b4, b5, b6, b7, h1, h2, h3, h4, h5, h6, h7, h8, h9, h10, h11, h12, h13, c1, c2, c3, c4, c5, i0, i1, hb, hb0, Int.cast_ofNat_Int]; done))
            | (refine And.intro hb0 ?_)
            | fail
          refine ⟨rfl, ?_⟩
          simp [beqd, AV.γ, V.γ, Sc.γ, Mb.bank, Mb.bankN, b1, b2, b3, b4, b5, b6, b7, h1, h2, h3, h4, h5, h6, h7, h8, h9, h10, h11, h12, h13, c1, c2, c3, c4, c5, i0, i1, hb, hb0, Int.cast_ofNat_Int]
    · cases mode
      · rcases hb with hb | ⟨hb, hb0⟩
        · repeat' first
            | (refine T.br_t ?_ ?_; focus (simp [b1, b2, b3, b4, b5, b6, b7, h1, h2, h3, h4, h5, h6, h7, h8, h9, h10, h11, h12, h13, c1, c2, c3, c4, c5, i0, i1, hb, Int.cast_ofNat_Int]; done))
            | (refine T.br_f ?_ ?_; focus (simp [b1, b2, b3, b4, b5, b6, b7, h1, h2, h3, h4, h5, h6, h7, h8, h9, h10, h11, h12, h13, c1, c2, c3, c4, c5, i0, i1, hb, Int.cast_ofNat_Int]; done))
          refine ⟨rfl, ?_⟩
          simp [beqd, AV.γ, V.γ, Sc.γ, Mb.bank, Mb.bankN, b1, b2, b3, b4, b5, b6, b7, h1, h2, h3, h4, h5, h6, h7, h8, h9, h10, h11, h12, h13, c1, c2, c3, c4, c5, i0, i1, hb, Int.cast_ofNat_Int]
        · repeat' first
            | (refine T.br_t ?_ ?_; focus (simp [b1, b2, b3, b4, b5, b6, b7, h1, h2, h3, h4, h5, h6, h7, h8, h9, h10, h11, h12, h13, c1, c2, c3, c4, c5, i0, i1, hb, hb0, Int.cast_ofNat_Int]; done))
            | (refine T.br_f ?_ ?_; focus (simp [b1, b2, b3, b4, b5, b6, b7, h1, h2, h3, h4, h5, h6, h7, h8, h9, h10, h11, h12, h13, c1, c2, c3, c4, c5, i0, i1, hb, hb0, Int.cast_ofNat_Int]; done))
            | (refine And.intro hb0 ?_)
            | fail
          refine ⟨rfl, ?_⟩
          simp [beqd, AV.γ, V.γ, Sc.γ, Mb.bank, Mb.bankN, b1, b2, b3, b4, b5, b6, b7, h1, h2, h3, h4, h5, h6, h7, h8, h9, h10, h11, h12, h13, c1, c2, c3, c4, c5, i0, i1, hb, hb0, Int.cast_ofNat_Int]
      · rcases hb with hb | ⟨hb, hb0⟩
        · repeat' first
            | (refine T.br_t ?_ ?_; focus (simp [b1, b2, b3, b4, b5, b6, b7, h1, h2, h3, h4, h5, h6, h7, h8, h9, h10, h11, h12, h13, c1, c2, c3, c4, c5, i0, i1, hb, Int.cast_ofNat_Int]; done))
            | (refine T.br_f ?_ ?_; focus (simp [b1, b2, b3, b4, b5, b6, b7, h1, h2, h3, h4, h5, h6, h7, h8, h9, h10, h11, h12, h13, c1, c2, c3, c4, c5, i0, i1, hb, Int.cast_ofNat_Int]; done))
          refine ⟨rfl, ?_⟩
          simp [beqd, AV.γ, V.γ, Sc.γ, Mb.bank, Mb.bankN, b1, b2, b3, b4, b5, b6, b7, h1, h2, h3, h4, h5, h6, h7, h8, h9, h10, h11, h12, h13, c1, c2, c3, c4, c5, i0, i1, hb, Int.cast_ofNat_Int]
        · repeat' first
            | (refine T.br_t ?_ ?_; focus (simp [b1, b2, b3, b4, b5, b6, b7, h1, h2, h3, h4, h5, h6, h7, h8, h9, h10, h11, h12, h13, c1, c2, c3, c4, c5, i0, i1, hb, hb0, Int.cast_ofNat_Int]; done))
            | (refine T.br_f ?_ ?_; focus (simp [b1, b2, b3, b4, b5, b6, b7, h1, h2, h3, h4, h5, h6, h7, h8, h9, h10, h11, h12, h13, c1, c2, c3, c4, c5, i0, i1, hb, hb0, Int.cast_ofNat_Int]; done))
            | (refine And.intro hb0 ?_)
            | fail
          refine ⟨rfl, ?_⟩
          simp [beqd, AV.γ, V.γ, Sc.γ, Mb.bank, Mb.bankN, b1, b2, b3, b4, b5, b6, b7, h1, h2, h3, h4, h5, h6, h7, h8, h9, h10, h11, h12, h13, c1, c2, c3, c4, c5, i0, i1, hb, hb0, Int.cast_ofNat_Int]
  · skip
    rcases hi with ⟨i0, i1⟩ | ⟨i0, i1⟩
    · cases mode
      · rcases hb with hb | ⟨hb, hb0⟩
        · repeat' first
            | (refine T.br_t ?_ ?_; focus (simp [b1, b2, b3, b4, b5, b6, b7, h1, h2, h3, h4, h5, h6, h7, h8, h9, h10, h11, h12, h13, c1, c2, c3, c4, c5, i0, i1, hb, k0, k1, k2, k3, k5]; done))
            | (refine T.br_f ?_ ?_; focus (simp [b1, b2, b3, b4, b5, b6, b7, h1, h2, h3, h4, h5, h6, h7, h8, h9, h10, h11, h12, h13, c1, c2, c3, c4, c5, i0, i1, hb, k0, k1, k2, k3, k5]; done))
          refine ⟨rfl, ?_⟩
          simp [beqd, AV.γ, V.γ, Sc.γ, Mb.bank, Mb.bankN, b1, b2, b3, b4, b5, b6, b7, h1, h2, h3, h4, h5, h6, h7, h8, h9, h10, h11, h12, h13, c1, c2, c3, c4, c5, i0, i1, hb, k0, k1, k2, k3, k5]
        · repeat' first
            | (refine T.br_t ?_ ?_; focus (simp [b1, b2, b3, b4, b5, b6, b7, h1, h2, h3, h4, h5, h6, h7, h8, h9, h10, h11, h12, h13, c1, c2, c3, c4, c5, i0, i1, hb, hb0, k0, k1, k2, k3, k5]; done))
            | (refine T.br_f ?_ ?_; focus (simp [b1, b2, b3, b4, b5, b6, b7, h1, h2, h3, h4, h5, h6, h7, h8, h9, h10, h11, h12, h13, c1, c2, c3, c4, c5, i0, i1, hb, hb0, k0, k1, k2, k3, k5]; done))
            | (refine And.intro hb0 ?_)
            | fail
          refine ⟨rfl, ?_⟩
          simp [beqd, AV.γ, V.γ, Sc.γ, Mb.bank, Mb.bankN, b1, b2, b3, b4, b5, b6, b7, h1, h2, h3, h4, h5, h6, h7, h8, h9, h10, h11, h12, h13, c1, c2, c3, c4, c5, i0, i1, hb, hb0, k0, k1, k2, k3, k5]
      · rcases hb with hb | ⟨hb, hb0⟩
        · repeat' first
            | (refine T.br_t ?_ ?_; focus (simp [b1, b2, b3, b4, b5, b6, b7, h1, h2, h3, h4, h5, h6, h7, h8, h9, h10, h11, h12, h13, c1, c2, c3, c4, c5, i0, i1, hb, k0, k1, k2, k3, k5]; done))
            | (refine T.br_f ?_ ?_; focus (simp [b1, b2, b3, b4, b5, b6, b7, h1, h2, h3, h4, h5, h6, h7, h8, h9, h10, h11, h12, h13, c1, c2, c3, c4, c5, i0, i1, hb, k0, k1, k2, k3, k5]; done))
          refine ⟨rfl, ?_⟩
          simp [beqd, AV.γ, V.γ, Sc.γ, Mb.bank, Mb.bankN, b1, b2, b3, b4, b5, b6, b7, h1, h2, h3, h4, h5, h6, h7, h8, h9, h10, h11, h12, h13, c1, c2, c3, c4, c5, i0, i1, hb, k0, k1, k2, k3, k5]
        · repeat' first
            | (refine T.br_t ?_ ?_; focus (simp [b1, b2, b3, b4, b5, b6, b7, h1, h2, h3, h4, h5, h6, h7, h8, h9, h10, h11, h12, h13, c1, c2, c3, c4, c5, i0, i1, hb, hb0, k0, k1, k2, k3, k5]; done))
            | (refine T.br_f ?_ ?_; focus (simp [b1, b2, b3, b4, b5, b6, b7, h1, h2, h3, h4, h5, h6, h7, h8, h9, h10, h11, h12, h13, c1, c2, c3, c4, c5, i0, i1, hb, hb0, k0, k1, k2, k3, k5]; done))
            | (refine And.intro hb0 ?_)
            | fail
          refine ⟨rfl, ?_⟩
          simp [beqd, AV.γ, V.γ, Sc.γ, Mb.bank, Mb.bankN, b1, b2, b3, b4, b5, b6, b7, h1, h2, h3, h4, h5, h6, h7, h8, h9, h10, h11, h12, h13, c1, c2, c3, c4, c5, i0, i1, hb, hb0, k0, k1, k2, k3, k5]
    · cases mode
      · rcases hb with hb | ⟨hb, hb0⟩
        · repeat' first
            | (refine T.br_t ?_ ?_; focus (simp [b1, b2, b3, b4, b5, b6, b7, h1, h2, h3, h4, h5, h6, h7, h8, h9, h10, h11, h12, h13, c1, c2, c3, c4, c5, i0, i1, hb, k0, k1, k2, k3, k5]; done))
            | (refine T.br_f ?_ ?_; focus (simp [b1, b2, b3, b4, b5, b6, b7, h1, h2, h3, h4, h5, h6, h7, h8, h9, h10, h11, h12, h13, c1, c2, c3, c4, c5, i0, i1, hb, k0, k1, k2, k3, k5]; done))
          refine ⟨rfl, ?_⟩
          simp [beqd, AV.γ, V.γ, Sc.γ, Mb.bank, Mb.bankN, b1, b2, b3, b4, b5, b6, b7, h1, h2, h3, h4, h5, h6, h7, h8, h9, h10, h11, h12, h13, c1, c2, c3, c4, c5, i0, i1, hb, k0, k1, k2, k3, k5]
        · repeat' first
            | (refine T.br_t ?_ ?_; focus (simp [b1, b2, b3, b4, b5, b6, b7, h1, h2, h3, h4, h5, h6, h7, h8, h9, h10, h11, h12, h13, c1, c2, c3, c4, c5, i0, i1, hb, hb0, k0, k1, k2, k3, k5]; done))
            | (refine T.br_f ?_ ?_; focus (simp [b1, b2, b3, b4, b5, b6, b7, h1, h2, h3, h4, h5, h6, h7, h8, h9, h10, h11, h12, h13, c1, c2, c3, c4, c5, i0, i1, hb, hb0, k0, k1, k2, k3, k5]; done))
            | (refine And.intro hb0 ?_)
            | fail
          refine ⟨rfl, ?_⟩
          simp [beqd, AV.γ, V.γ, Sc.γ, Mb.bank, Mb.bankN, b1, b2, b3, b4, b5, b6, b7, h1, h2, h3, h4, h5, h6, h7, h8, h9, h10, h11, h12, h13, c1, c2, c3, c4, c5, i0, i1, hb, hb0, k0, k1, k2, k3, k5]
      · rcases hb with hb | ⟨hb, hb0⟩
        · repeat' first
            | (refine T.br_t ?_ ?_; focus (simp [b1, b2, b3, b4, b5, b6, b7, h1, h2, h3, h4, h5, h6, h7, h8, h9, h10, h11, h12, h13, c1, c2, c3, c4, c5, i0, i1, hb, k0, k1, k2, k3, k5]; done))
            | (refine T.br_f ?_ ?_; focus (simp [b1, b2, b3, b4, b5, b6, b7, h1, h2, h3, h4, h5, h6, h7, h8, h9, h10, h11, h12, h13, c1, c2, c3, c4, c5, i0, i1, hb, k0, k1, k2, k3, k5]; done))
          refine ⟨rfl, ?_⟩
          simp [beqd, AV.γ, V.γ, Sc.γ, Mb.bank, Mb.bankN, b1, b2, b3, b4, b5, b6, b7, h1, h2, h3, h4, h5, h6, h7, h8, h9, h10, h11, h12, h13, c1, c2, c3, c4, c5, i0, i1, hb, k0, k1, k2, k3, k5]
        · repeat' first
            | (refine T.br_t ?_ ?_; focus (simp [b1, b2, b3, b4, b5, b6, b7, h1, h2, h3, h4, h5, h6, h7, h8, h9, h10, h11, h12, h13, c1, c2, c3, c4, c5, i0, i1, hb, hb0, k0, k1, k2, k3, k5]; done))
            | (refine T.br_f ?_ ?_; focus (simp [b1, b2, b3, b4, b5, b6, b7, h1, h2, h3, h4, h5, h6, h7, h8, h9, h10, h11, h12, h13, c1, c2, c3, c4, c5, i0, i1, hb, hb0, k0, k1, k2, k3, k5]; done))
            | (refine And.intro hb0 ?_)
            | fail
          refine ⟨rfl, ?_⟩
          simp [beqd, AV.γ, V.γ, Sc.γ, Mb.bank, Mb.bankN, b1, b2, b3, b4, b5, b6, b7, h1, h2, h3, h4, h5, h6, h7, h8, h9, h10, h11, h12, h13, c1, c2, c3, c4, c5, i0, i1, hb, hb0, k0, k1, k2, k3, k5]
set_option maxHeartbeats 4000000 in
theorem at_any (w : World) (k banks ram : Int) (on mode : Bool) (low high last : Int) (a : Int) (ba : Mb.W a) (bl : 0 ≤ low ∧ low < 512) (bh : 0 ≤ high ∧ high < 16) : Calls Try.prog 16 #[.agg #[.int .i64 k, .int .i64 banks, .int .i64 ram, .bool on, .bool mode, .int .i64 low, .int .i64 high, .int .u8 last], .int .u16 a] w fun e w' => e = .returned (.tuple #[.int .i64 (Mb.at_ k ram a high on mode), .bool (Mb.sees k ram a high on)]) ∧ Below w.heap.size w w' := by
  refine val_eq base2 (ctrs_none _ _) (loops_none _ _) (at_tree w k banks ram on mode low high last a) rfl ?_
  have hi : (a < 40960 ∧ ¬ 40960 ≤ a) ∨ (¬ a < 40960 ∧ 40960 ≤ a ∧ 49152 ≤ a ∧ ¬ a < 49152 ∧ ¬ a ≤ 49151 ∧ 49151 < a) ∨ (¬ a < 40960 ∧ 40960 ≤ a ∧ ¬ 49152 ≤ a ∧ a < 49152 ∧ a ≤ 49151 ∧ ¬ 49151 < a) := by omega
  have hb : (ram < 1 ∧ ¬ 1 ≤ ram) ∨ (¬ ram < 1 ∧ 1 ≤ ram ∧ ram ≠ 0) := by omega
  have hh : (high ≤ 3 ∧ ¬ 3 < high) ∨ (¬ high ≤ 3 ∧ 3 < high) := by omega
  have b1 := fa_b1 ba
  have b2 := fa_b2 ba
  have b3 := fa_b3 ba
  have b4 := fa_b4 ba
  have b5 := fa_b5 ba
  have b6 := fa_b6 ba
  have b7 := hi14 ba
  have h1 := fh_h1 banks bl bh
  have h2 := fh_h2 banks bl bh
  have h3 := fh_h3 banks bl bh
  have h4 := fh_h4 banks bl bh
  have h5 := fh_h5 banks bl bh
  have h6 := fh_h6 banks bl bh
  have h7 := fh_h7 banks bl bh
  have h8 := fh_h8 banks bl bh
  have h9 := fh_h9 banks bl bh
  have h10 := fh_h10 banks bl bh
  have h11 := fh_h11 banks bl bh
  have h12 := fh_h12 banks bl bh
  have h13 := fh_h13 banks bl bh
  have c1 := fc_c1 ram ba bh
  have c2 := fc_c2 ram ba bh
  have c3 := fc_c3 ram ba bh
  have c4 := fc_c4 ram ba bh
  have c5 := fc_c5 ram ba bh
  rcases hi with ⟨i0, i1⟩ | ⟨i0, i1, i2, i3, i4, i5⟩ | ⟨i0, i1, i2, i3, i4, i5⟩
  · repeat' first
      | (refine T.br_t ?_ ?_; focus (simp [b1, b2, b3, b4, b5, b6, b7, h1, h2, h3, h4, h5, h6, h7, h8, h9, h10, h11, h12, h13, c1, c2, c3, c4, c5, i0, i1]; done))
      | (refine T.br_f ?_ ?_; focus (simp [b1, b2, b3, b4, b5, b6, b7, h1, h2, h3, h4, h5, h6, h7, h8, h9, h10, h11, h12, h13, c1, c2, c3, c4, c5, i0, i1]; done))
    refine ⟨rfl, ?_⟩
    simp [beqd, AV.γ, V.γ, Sc.γ, Mb.at_, Mb.sees, Mb.place, b1, b2, b3, b4, b5, b6, b7, h1, h2, h3, h4, h5, h6, h7, h8, h9, h10, h11, h12, h13, c1, c2, c3, c4, c5, i0, i1]
  · repeat' first
      | (refine T.br_t ?_ ?_; focus (simp [b1, b2, b3, b4, b5, b6, b7, h1, h2, h3, h4, h5, h6, h7, h8, h9, h10, h11, h12, h13, c1, c2, c3, c4, c5, i0, i1, i2, i3, i4, i5]; done))
      | (refine T.br_f ?_ ?_; focus (simp [b1, b2, b3, b4, b5, b6, b7, h1, h2, h3, h4, h5, h6, h7, h8, h9, h10, h11, h12, h13, c1, c2, c3, c4, c5, i0, i1, i2, i3, i4, i5]; done))
    refine ⟨rfl, ?_⟩
    simp [beqd, AV.γ, V.γ, Sc.γ, Mb.at_, Mb.sees, Mb.place, b1, b2, b3, b4, b5, b6, b7, h1, h2, h3, h4, h5, h6, h7, h8, h9, h10, h11, h12, h13, c1, c2, c3, c4, c5, i0, i1, i2, i3, i4, i5]
  · cases on
    · repeat' first
        | (refine T.br_t ?_ ?_; focus (simp [b1, b2, b3, b4, b5, b6, b7, h1, h2, h3, h4, h5, h6, h7, h8, h9, h10, h11, h12, h13, c1, c2, c3, c4, c5, i0, i1, i2, i3, i4, i5]; done))
        | (refine T.br_f ?_ ?_; focus (simp [b1, b2, b3, b4, b5, b6, b7, h1, h2, h3, h4, h5, h6, h7, h8, h9, h10, h11, h12, h13, c1, c2, c3, c4, c5, i0, i1, i2, i3, i4, i5]; done))
      refine ⟨rfl, ?_⟩
      simp [beqd, AV.γ, V.γ, Sc.γ, Mb.at_, Mb.sees, Mb.place, b1, b2, b3, b4, b5, b6, b7, h1, h2, h3, h4, h5, h6, h7, h8, h9, h10, h11, h12, h13, c1, c2, c3, c4, c5, i0, i1, i2, i3, i4, i5]
    · rcases hb with ⟨b, b'⟩ | ⟨b, b', hb0⟩
      · repeat' first
          | (refine T.br_t ?_ ?_; focus (simp [b1, b2, b3, b4, b5, b6, b7, h1, h2, h3, h4, h5, h6, h7, h8, h9, h10, h11, h12, h13, c1, c2, c3, c4, c5, b, b', i0, i1, i2, i3, i4, i5]; done))
          | (refine T.br_f ?_ ?_; focus (simp [b1, b2, b3, b4, b5, b6, b7, h1, h2, h3, h4, h5, h6, h7, h8, h9, h10, h11, h12, h13, c1, c2, c3, c4, c5, b, b', i0, i1, i2, i3, i4, i5]; done))
        refine ⟨rfl, ?_⟩
        simp [beqd, AV.γ, V.γ, Sc.γ, Mb.at_, Mb.sees, Mb.place, b1, b2, b3, b4, b5, b6, b7, h1, h2, h3, h4, h5, h6, h7, h8, h9, h10, h11, h12, h13, c1, c2, c3, c4, c5, b, b', i0, i1, i2, i3, i4, i5]
      · by_cases k0 : k = 0
        · subst k0
          repeat' first
            | (refine T.br_t ?_ ?_; focus (simp [b1, b2, b3, b4, b5, b6, b7, h1, h2, h3, h4, h5, h6, h7, h8, h9, h10, h11, h12, h13, c1, c2, c3, c4, c5, b, b', hb0, i0, i1, i2, i3, i4, i5]; done))
            | (refine T.br_f ?_ ?_; focus (simp [b1, b2, b3, b4, b5, b6, b7, h1, h2, h3, h4, h5, h6, h7, h8, h9, h10, h11, h12, h13, c1, c2, c3, c4, c5, b, b', hb0, i0, i1, i2, i3, i4, i5]; done))
            | (refine And.intro hb0 ?_)
            | fail
          refine ⟨rfl, ?_⟩
          simp [beqd, AV.γ, V.γ, Sc.γ, Mb.at_, Mb.sees, Mb.place, b1, b2, b3, b4, b5, b6, b7, h1, h2, h3, h4, h5, h6, h7, h8, h9, h10, h11, h12, h13, c1, c2, c3, c4, c5, b, b', hb0, i0, i1, i2, i3, i4, i5]
        by_cases k1 : k = 1
        · subst k1
          cases mode
          · repeat' first
              | (refine T.br_t ?_ ?_; focus (simp [b1, b2, b3, b4, b5, b6, b7, h1, h2, h3, h4, h5, h6, h7, h8, h9, h10, h11, h12, h13, c1, c2, c3, c4, c5, b, b', hb0, i0, i1, i2, i3, i4, i5]; done))
              | (refine T.br_f ?_ ?_; focus (simp [b1, b2, b3, b4, b5, b6, b7, h1, h2, h3, h4, h5, h6, h7, h8, h9, h10, h11, h12, h13, c1, c2, c3, c4, c5, b, b', hb0, i0, i1, i2, i3, i4, i5]; done))
              | (refine And.intro hb0 ?_)
              | fail
            refine ⟨rfl, ?_⟩
            simp [beqd, AV.γ, V.γ, Sc.γ, Mb.at_, Mb.sees, Mb.place, b1, b2, b3, b4, b5, b6, b7, h1, h2, h3, h4, h5, h6, h7, h8, h9, h10, h11, h12, h13, c1, c2, c3, c4, c5, b, b', hb0, i0, i1, i2, i3, i4, i5]
          · repeat' first
              | (refine T.br_t ?_ ?_; focus (simp [b1, b2, b3, b4, b5, b6, b7, h1, h2, h3, h4, h5, h6, h7, h8, h9, h10, h11, h12, h13, c1, c2, c3, c4, c5, b, b', hb0, i0, i1, i2, i3, i4, i5]; done))
              | (refine T.br_f ?_ ?_; focus (simp [b1, b2, b3, b4, b5, b6, b7, h1, h2, h3, h4, h5, h6, h7, h8, h9, h10, h11, h12, h13, c1, c2, c3, c4, c5, b, b', hb0, i0, i1, i2, i3, i4, i5]; done))
              | (refine And.intro hb0 ?_)
              | fail
            refine ⟨rfl, ?_⟩
            simp [beqd, AV.γ, V.γ, Sc.γ, Mb.at_, Mb.sees, Mb.place, b1, b2, b3, b4, b5, b6, b7, h1, h2, h3, h4, h5, h6, h7, h8, h9, h10, h11, h12, h13, c1, c2, c3, c4, c5, b, b', hb0, i0, i1, i2, i3, i4, i5]
        by_cases k2 : k = 2
        · subst k2
          repeat' first
            | (refine T.br_t ?_ ?_; focus (simp [b1, b2, b3, b4, b5, b6, b7, h1, h2, h3, h4, h5, h6, h7, h8, h9, h10, h11, h12, h13, c1, c2, c3, c4, c5, b, b', hb0, i0, i1, i2, i3, i4, i5]; done))
            | (refine T.br_f ?_ ?_; focus (simp [b1, b2, b3, b4, b5, b6, b7, h1, h2, h3, h4, h5, h6, h7, h8, h9, h10, h11, h12, h13, c1, c2, c3, c4, c5, b, b', hb0, i0, i1, i2, i3, i4, i5]; done))
            | (refine And.intro hb0 ?_)
            | fail
          refine ⟨rfl, ?_⟩
          simp [beqd, AV.γ, V.γ, Sc.γ, Mb.at_, Mb.sees, Mb.place, b1, b2, b3, b4, b5, b6, b7, h1, h2, h3, h4, h5, h6, h7, h8, h9, h10, h11, h12, h13, c1, c2, c3, c4, c5, b, b', hb0, i0, i1, i2, i3, i4, i5]
        by_cases k3 : k = 3
        · subst k3
          rcases hh with ⟨u, v⟩ | ⟨u, v⟩
          · repeat' first
              | (refine T.br_t ?_ ?_; focus (simp [b1, b2, b3, b4, b5, b6, b7, h1, h2, h3, h4, h5, h6, h7, h8, h9, h10, h11, h12, h13, c1, c2, c3, c4, c5, b, b', hb0, i0, i1, i2, i3, i4, i5, u, v]; done))
              | (refine T.br_f ?_ ?_; focus (simp [b1, b2, b3, b4, b5, b6, b7, h1, h2, h3, h4, h5, h6, h7, h8, h9, h10, h11, h12, h13, c1, c2, c3, c4, c5, b, b', hb0, i0, i1, i2, i3, i4, i5, u, v]; done))
              | (refine And.intro hb0 ?_)
              | fail
            refine ⟨rfl, ?_⟩
            simp [beqd, AV.γ, V.γ, Sc.γ, Mb.at_, Mb.sees, Mb.place, b1, b2, b3, b4, b5, b6, b7, h1, h2, h3, h4, h5, h6, h7, h8, h9, h10, h11, h12, h13, c1, c2, c3, c4, c5, b, b', hb0, i0, i1, i2, i3, i4, i5, u, v]
          · repeat' first
              | (refine T.br_t ?_ ?_; focus (simp [b1, b2, b3, b4, b5, b6, b7, h1, h2, h3, h4, h5, h6, h7, h8, h9, h10, h11, h12, h13, c1, c2, c3, c4, c5, b, b', hb0, i0, i1, i2, i3, i4, i5, u, v]; done))
              | (refine T.br_f ?_ ?_; focus (simp [b1, b2, b3, b4, b5, b6, b7, h1, h2, h3, h4, h5, h6, h7, h8, h9, h10, h11, h12, h13, c1, c2, c3, c4, c5, b, b', hb0, i0, i1, i2, i3, i4, i5, u, v]; done))
              | (refine And.intro hb0 ?_)
              | fail
            refine ⟨rfl, ?_⟩
            simp [beqd, AV.γ, V.γ, Sc.γ, Mb.at_, Mb.sees, Mb.place, b1, b2, b3, b4, b5, b6, b7, h1, h2, h3, h4, h5, h6, h7, h8, h9, h10, h11, h12, h13, c1, c2, c3, c4, c5, b, b', hb0, i0, i1, i2, i3, i4, i5, u, v]
        by_cases k5 : k = 5
        · subst k5
          repeat' first
            | (refine T.br_t ?_ ?_; focus (simp [b1, b2, b3, b4, b5, b6, b7, h1, h2, h3, h4, h5, h6, h7, h8, h9, h10, h11, h12, h13, c1, c2, c3, c4, c5, b, b', hb0, i0, i1, i2, i3, i4, i5]; done))
            | (refine T.br_f ?_ ?_; focus (simp [b1, b2, b3, b4, b5, b6, b7, h1, h2, h3, h4, h5, h6, h7, h8, h9, h10, h11, h12, h13, c1, c2, c3, c4, c5, b, b', hb0, i0, i1, i2, i3, i4, i5]; done))
            | (refine And.intro hb0 ?_)
            | fail
          refine ⟨rfl, ?_⟩
          simp [beqd, AV.γ, V.γ, Sc.γ, Mb.at_, Mb.sees, Mb.place, b1, b2, b3, b4, b5, b6, b7, h1, h2, h3, h4, h5, h6, h7, h8, h9, h10, h11, h12, h13, c1, c2, c3, c4, c5, b, b', hb0, i0, i1, i2, i3, i4, i5]
        · repeat' first
            | (refine T.br_t ?_ ?_; focus (simp [b1, b2, b3, b4, b5, b6, b7, h1, h2, h3, h4, h5, h6, h7, h8, h9, h10, h11, h12, h13, c1, c2, c3, c4, c5, b, b', hb0, i0, i1, i2, i3, i4, i5, k0, k1, k2, k3, k5]; done))
            | (refine T.br_f ?_ ?_; focus (simp [b1, b2, b3, b4, b5, b6, b7, h1, h2, h3, h4, h5, h6, h7, h8, h9, h10, h11, h12, h13, c1, c2, c3, c4, c5, b, b', hb0, i0, i1, i2, i3, i4, i5, k0, k1, k2, k3, k5]; done))
            | (refine And.intro hb0 ?_)
            | fail
          refine ⟨rfl, ?_⟩
          simp [beqd, AV.γ, V.γ, Sc.γ, Mb.at_, Mb.sees, Mb.place, b1, b2, b3, b4, b5, b6, b7, h1, h2, h3, h4, h5, h6, h7, h8, h9, h10, h11, h12, h13, c1, c2, c3, c4, c5, b, b', hb0, i0, i1, i2, i3, i4, i5, k0, k1, k2, k3, k5]
set_option maxHeartbeats 4000000 in
theorem rat_any (w : World) (k banks ram : Int) (on mode : Bool) (low high last : Int) (a : Int) (ba : Mb.W a) (bl : 0 ≤ low ∧ low < 512) (bh : 0 ≤ high ∧ high < 16) : Calls Try.prog 17 #[.agg #[.int .i64 k, .int .i64 banks, .int .i64 ram, .bool on, .bool mode, .int .i64 low, .int .i64 high, .int .u8 last], .int .u16 a] w fun e w' => e = .returned (.tuple #[.int .i64 (Mb.at_ k ram a high on mode), .bool (Mb.sees k ram a high on)]) ∧ Below w.heap.size w w' := by
  refine val_eq base2 (ctrs_none _ _) (loops_none _ _) (rat_tree w k banks ram on mode low high last a) rfl ?_
  have hi : (a < 40960 ∧ ¬ 40960 ≤ a) ∨ (¬ a < 40960 ∧ 40960 ≤ a ∧ 49152 ≤ a ∧ ¬ a < 49152 ∧ ¬ a ≤ 49151 ∧ 49151 < a) ∨ (¬ a < 40960 ∧ 40960 ≤ a ∧ ¬ 49152 ≤ a ∧ a < 49152 ∧ a ≤ 49151 ∧ ¬ 49151 < a) := by omega
  have hb : (ram < 1 ∧ ¬ 1 ≤ ram) ∨ (¬ ram < 1 ∧ 1 ≤ ram ∧ ram ≠ 0) := by omega
  have hh : (high ≤ 3 ∧ ¬ 3 < high) ∨ (¬ high ≤ 3 ∧ 3 < high) := by omega
  have b1 := fa_b1 ba
  have b2 := fa_b2 ba
  have b3 := fa_b3 ba
  have b4 := fa_b4 ba
  have b5 := fa_b5 ba
  have b6 := fa_b6 ba
  have b7 := hi14 ba
  have h1 := fh_h1 banks bl bh
  have h2 := fh_h2 banks bl bh
  have h3 := fh_h3 banks bl bh
  have h4 := fh_h4 banks bl bh
  have h5 := fh_h5 banks bl bh
  have h6 := fh_h6 banks bl bh
  have h7 := fh_h7 banks bl bh
  have h8 := fh_h8 banks bl bh
  have h9 := fh_h9 banks bl bh
  have h10 := fh_h10 banks bl bh
  have h11 := fh_h11 banks bl bh
  have h12 := fh_h12 banks bl bh
  have h13 := fh_h13 banks bl bh
  have c1 := fc_c1 ram ba bh
  have c2 := fc_c2 ram ba bh
  have c3 := fc_c3 ram ba bh
  have c4 := fc_c4 ram ba bh
  have c5 := fc_c5 ram ba bh
  rcases hi with ⟨i0, i1⟩ | ⟨i0, i1, i2, i3, i4, i5⟩ | ⟨i0, i1, i2, i3, i4, i5⟩
  · repeat' first
      | (refine T.br_t ?_ ?_; focus (simp [b1, b2, b3, b4, b5, b6, b7, h1, h2, h3, h4, h5, h6, h7, h8, h9, h10, h11, h12, h13, c1, c2, c3, c4, c5, i0, i1]; done))
      | (refine T.br_f ?_ ?_; focus (simp [b1, b2, b3, b4, b5, b6, b7, h1, h2, h3, h4, h5, h6, h7, h8, h9, h10, h11, h12, h13, c1, c2, c3, c4, c5, i0, i1]; done))
    refine ⟨rfl, ?_⟩
    simp [beqd, AV.γ, V.γ, Sc.γ, Mb.at_, Mb.sees, Mb.place, b1, b2, b3, b4, b5, b6, b7, h1, h2, h3, h4, h5, h6, h7, h8, h9, h10, h11, h12, h13, c1, c2, c3, c4, c5, i0, i1]
  · repeat' first
      | (refine T.br_t ?_ ?_; focus (simp [b1, b2, b3, b4, b5, b6, b7, h1, h2, h3, h4, h5, h6, h7, h8, h9, h10, h11, h12, h13, c1, c2, c3, c4, c5, i0, i1, i2, i3, i4, i5]; done))
      | (refine T.br_f ?_ ?_; focus (simp [b1, b2, b3, b4, b5, b6, b7, h1, h2, h3, h4, h5, h6, h7, h8, h9, h10, h11, h12, h13, c1, c2, c3, c4, c5, i0, i1, i2, i3, i4, i5]; done))
    refine ⟨rfl, ?_⟩
    simp [beqd, AV.γ, V.γ, Sc.γ, Mb.at_, Mb.sees, Mb.place, b1, b2, b3, b4, b5, b6, b7, h1, h2, h3, h4, h5, h6, h7, h8, h9, h10, h11, h12, h13, c1, c2, c3, c4, c5, i0, i1, i2, i3, i4, i5]
  · cases on
    · repeat' first
        | (refine T.br_t ?_ ?_; focus (simp [b1, b2, b3, b4, b5, b6, b7, h1, h2, h3, h4, h5, h6, h7, h8, h9, h10, h11, h12, h13, c1, c2, c3, c4, c5, i0, i1, i2, i3, i4, i5]; done))
        | (refine T.br_f ?_ ?_; focus (simp [b1, b2, b3, b4, b5, b6, b7, h1, h2, h3, h4, h5, h6, h7, h8, h9, h10, h11, h12, h13, c1, c2, c3, c4, c5, i0, i1, i2, i3, i4, i5]; done))
      refine ⟨rfl, ?_⟩
      simp [beqd, AV.γ, V.γ, Sc.γ, Mb.at_, Mb.sees, Mb.place, b1, b2, b3, b4, b5, b6, b7, h1, h2, h3, h4, h5, h6, h7, h8, h9, h10, h11, h12, h13, c1, c2, c3, c4, c5, i0, i1, i2, i3, i4, i5]
    · rcases hb with ⟨b, b'⟩ | ⟨b, b', hb0⟩
      · repeat' first
          | (refine T.br_t ?_ ?_; focus (simp [b1, b2, b3, b4, b5, b6, b7, h1, h2, h3, h4, h5, h6, h7, h8, h9, h10, h11, h12, h13, c1, c2, c3, c4, c5, b, b', i0, i1, i2, i3, i4, i5]; done))
          | (refine T.br_f ?_ ?_; focus (simp [b1, b2, b3, b4, b5, b6, b7, h1, h2, h3, h4, h5, h6, h7, h8, h9, h10, h11, h12, h13, c1, c2, c3, c4, c5, b, b', i0, i1, i2, i3, i4, i5]; done))
        refine ⟨rfl, ?_⟩
        simp [beqd, AV.γ, V.γ, Sc.γ, Mb.at_, Mb.sees, Mb.place, b1, b2, b3, b4, b5, b6, b7, h1, h2, h3, h4, h5, h6, h7, h8, h9, h10, h11, h12, h13, c1, c2, c3, c4, c5, b, b', i0, i1, i2, i3, i4, i5]
      · by_cases k0 : k = 0
        · subst k0
          repeat' first
            | (refine T.br_t ?_ ?_; focus (simp [b1, b2, b3, b4, b5, b6, b7, h1, h2, h3, h4, h5, h6, h7, h8, h9, h10, h11, h12, h13, c1, c2, c3, c4, c5, b, b', hb0, i0, i1, i2, i3, i4, i5]; done))
            | (refine T.br_f ?_ ?_; focus (simp [b1, b2, b3, b4, b5, b6, b7, h1, h2, h3, h4, h5, h6, h7, h8, h9, h10, h11, h12, h13, c1, c2, c3, c4, c5, b, b', hb0, i0, i1, i2, i3, i4, i5]; done))
            | (refine And.intro hb0 ?_)
            | fail
          refine ⟨rfl, ?_⟩
          simp [beqd, AV.γ, V.γ, Sc.γ, Mb.at_, Mb.sees, Mb.place, b1, b2, b3, b4, b5, b6, b7, h1, h2, h3, h4, h5, h6, h7, h8, h9, h10, h11, h12, h13, c1, c2, c3, c4, c5, b, b', hb0, i0, i1, i2, i3, i4, i5]
        by_cases k1 : k = 1
        · subst k1
          cases mode
          · repeat' first
              | (refine T.br_t ?_ ?_; focus (simp [b1, b2, b3, b4, b5, b6, b7, h1, h2, h3, h4, h5, h6, h7, h8, h9, h10, h11, h12, h13, c1, c2, c3, c4, c5, b, b', hb0, i0, i1, i2, i3, i4, i5]; done))
              | (refine T.br_f ?_ ?_; focus (simp [b1, b2, b3, b4, b5, b6, b7, h1, h2, h3, h4, h5, h6, h7, h8, h9, h10, h11, h12, h13, c1, c2, c3, c4, c5, b, b', hb0, i0, i1, i2, i3, i4, i5]; done))
              | (refine And.intro hb0 ?_)
              | fail
            refine ⟨rfl, ?_⟩
            simp [beqd, AV.γ, V.γ, Sc.γ, Mb.at_, Mb.sees, Mb.place, b1, b2, b3, b4, b5, b6, b7, h1, h2, h3, h4, h5, h6, h7, h8, h9, h10, h11, h12, h13, c1, c2, c3, c4, c5, b, b', hb0, i0, i1, i2, i3, i4, i5]
          · repeat' first
              | (refine T.br_t ?_ ?_; focus (simp [b1, b2, b3, b4, b5, b6, b7, h1, h2, h3, h4, h5, h6, h7, h8, h9, h10, h11, h12, h13, c1, c2, c3, c4, c5, b, b', hb0, i0, i1, i2, i3, i4, i5]; done))
              | (refine T.br_f ?_ ?_; focus (simp [b1, b2, b3, b4, b5, b6, b7, h1, h2, h3, h4, h5, h6, h7, h8, h9, h10, h11, h12, h13, c1, c2, c3, c4, c5, b, b', hb0, i0, i1, i2, i3, i4, i5]; done))
              | (refine And.intro hb0 ?_)
              | fail
            refine ⟨rfl, ?_⟩
            simp [beqd, AV.γ, V.γ, Sc.γ, Mb.at_, Mb.sees, Mb.place, b1, b2, b3, b4, b5, b6, b7, h1, h2, h3, h4, h5, h6, h7, h8, h9, h10, h11, h12, h13, c1, c2, c3, c4, c5, b, b', hb0, i0, i1, i2, i3, i4, i5]
        by_cases k2 : k = 2
        · subst k2
          repeat' first
            | (refine T.br_t ?_ ?_; focus (simp [b1, b2, b3, b4, b5, b6, b7, h1, h2, h3, h4, h5, h6, h7, h8, h9, h10, h11, h12, h13, c1, c2, c3, c4, c5, b, b', hb0, i0, i1, i2, i3, i4, i5]; done))
            | (refine T.br_f ?_ ?_; focus (simp [b1, b2, b3, b4, b5, b6, b7, h1, h2, h3, h4, h5, h6, h7, h8, h9, h10, h11, h12, h13, c1, c2, c3, c4, c5, b, b', hb0, i0, i1, i2, i3, i4, i5]; done))
            | (refine And.intro hb0 ?_)
            | fail
          refine ⟨rfl, ?_⟩
          simp [beqd, AV.γ, V.γ, Sc.γ, Mb.at_, Mb.sees, Mb.place, b1, b2, b3, b4, b5, b6, b7, h1, h2, h3, h4, h5, h6, h7, h8, h9, h10, h11, h12, h13, c1, c2, c3, c4, c5, b, b', hb0, i0, i1, i2, i3, i4, i5]
        by_cases k3 : k = 3
        · subst k3
          rcases hh with ⟨u, v⟩ | ⟨u, v⟩
          · repeat' first
              | (refine T.br_t ?_ ?_; focus (simp [b1, b2, b3, b4, b5, b6, b7, h1, h2, h3, h4, h5, h6, h7, h8, h9, h10, h11, h12, h13, c1, c2, c3, c4, c5, b, b', hb0, i0, i1, i2, i3, i4, i5, u, v]; done))
              | (refine T.br_f ?_ ?_; focus (simp [b1, b2, b3, b4, b5, b6, b7, h1, h2, h3, h4, h5, h6, h7, h8, h9, h10, h11, h12, h13, c1, c2, c3, c4, c5, b, b', hb0, i0, i1, i2, i3, i4, i5, u, v]; done))
              | (refine And.intro hb0 ?_)
              | fail
            refine ⟨rfl, ?_⟩
            simp [beqd, AV.γ, V.γ, Sc.γ, Mb.at_, Mb.sees, Mb.place, b1, b2, b3, b4, b5, b6, b7, h1, h2, h3, h4, h5, h6, h7, h8, h9, h10, h11, h12, h13, c1, c2, c3, c4, c5, b, b', hb0, i0, i1, i2, i3, i4, i5, u, v]
          · repeat' first
              | (refine T.br_t ?_ ?_; focus (simp [b1, b2, b3, b4, b5, b6, b7, h1, h2, h3, h4, h5, h6, h7, h8, h9, h10, h11, h12, h13, c1, c2, c3, c4, c5, b, b', hb0, i0, i1, i2, i3, i4, i5, u, v]; done))
              | (refine T.br_f ?_ ?_; focus (simp [b1, b2, b3, b4, b5, b6, b7, h1, h2, h3, h4, h5, h6, h7, h8, h9, h10, h11, h12, h13, c1, c2, c3, c4, c5, b, b', hb0, i0, i1, i2, i3, i4, i5, u, v]; done))
              | (refine And.intro hb0 ?_)
              | fail
            refine ⟨rfl, ?_⟩
            simp [beqd, AV.γ, V.γ, Sc.γ, Mb.at_, Mb.sees, Mb.place, b1, b2, b3, b4, b5, b6, b7, h1, h2, h3, h4, h5, h6, h7, h8, h9, h10, h11, h12, h13, c1, c2, c3, c4, c5, b, b', hb0, i0, i1, i2, i3, i4, i5, u, v]
        by_cases k5 : k = 5
        · subst k5
          repeat' first
            | (refine T.br_t ?_ ?_; focus (simp [b1, b2, b3, b4, b5, b6, b7, h1, h2, h3, h4, h5, h6, h7, h8, h9, h10, h11, h12, h13, c1, c2, c3, c4, c5, b, b', hb0, i0, i1, i2, i3, i4, i5]; done))
            | (refine T.br_f ?_ ?_; focus (simp [b1, b2, b3, b4, b5, b6, b7, h1, h2, h3, h4, h5, h6, h7, h8, h9, h10, h11, h12, h13, c1, c2, c3, c4, c5, b, b', hb0, i0, i1, i2, i3, i4, i5]; done))
            | (refine And.intro hb0 ?_)
            | fail
          refine ⟨rfl, ?_⟩
          simp [beqd, AV.γ, V.γ, Sc.γ, Mb.at_, Mb.sees, Mb.place, b1, b2, b3, b4, b5, b6, b7, h1, h2, h3, h4, h5, h6, h7, h8, h9, h10, h11, h12, h13, c1, c2, c3, c4, c5, b, b', hb0, i0, i1, i2, i3, i4, i5]
        · repeat' first
            | (refine T.br_t ?_ ?_; focus (simp [b1, b2, b3, b4, b5, b6, b7, h1, h2, h3, h4, h5, h6, h7, h8, h9, h10, h11, h12, h13, c1, c2, c3, c4, c5, b, b', hb0, i0, i1, i2, i3, i4, i5, k0, k1, k2, k3, k5]; done))
            | (refine T.br_f ?_ ?_; focus (simp [b1, b2, b3, b4, b5, b6, b7, h1, h2, h3, h4, h5, h6, h7, h8, h9, h10, h11, h12, h13, c1, c2, c3, c4, c5, b, b', hb0, i0, i1, i2, i3, i4, i5, k0, k1, k2, k3, k5]; done))
            | (refine And.intro hb0 ?_)
            | fail
          refine ⟨rfl, ?_⟩
          simp [beqd, AV.γ, V.γ, Sc.γ, Mb.at_, Mb.sees, Mb.place, b1, b2, b3, b4, b5, b6, b7, h1, h2, h3, h4, h5, h6, h7, h8, h9, h10, h11, h12, h13, c1, c2, c3, c4, c5, b, b', hb0, i0, i1, i2, i3, i4, i5, k0, k1, k2, k3, k5]
set_option maxHeartbeats 4000000 in
theorem clock_any (w : World) (k banks ram : Int) (on mode : Bool) (low high last : Int) (bh : 0 ≤ high ∧ high < 16) : Calls Try.prog 18 #[.agg #[.int .i64 k, .int .i64 banks, .int .i64 ram, .bool on, .bool mode, .int .i64 low, .int .i64 high, .int .u8 last]] w fun e w' => e = .returned (.tuple #[.int .i64 (Mb.part k high on), .bool (Mb.clk k high on)]) ∧ Below w.heap.size w w' := by
  refine val_eq base2 (ctrs_none _ _) (loops_none _ _) (clock_tree w k banks ram on mode low high last) rfl ?_
  have h10 := fh_h10 0 (low := 0) ⟨by decide, by decide⟩ bh
  have hh : (high < 8 ∧ ¬ 8 ≤ high ∧ high ≤ 12 ∧ ¬ 12 < high) ∨ (¬ high < 8 ∧ 8 ≤ high ∧ ¬ high ≤ 12 ∧ 12 < high) ∨ (¬ high < 8 ∧ 8 ≤ high ∧ high ≤ 12 ∧ ¬ 12 < high) := by omega
  by_cases k3 : k = 3
  · subst k3
    cases on
    · repeat' first
        | (refine T.br_t ?_ ?_; focus (simp [h10, h10]; done))
        | (refine T.br_f ?_ ?_; focus (simp [h10, h10]; done))
      refine ⟨rfl, ?_⟩
      simp [beqd, AV.γ, V.γ, Sc.γ, Mb.clk, Mb.part, h10, h10]
    · rcases hh with ⟨u, v, x, y⟩ | ⟨u, v, x, y⟩ | ⟨u, v, x, y⟩
      · repeat' first
          | (refine T.br_t ?_ ?_; focus (simp [h10, u, v, x, y]; done))
          | (refine T.br_f ?_ ?_; focus (simp [h10, u, v, x, y]; done))
        refine ⟨rfl, ?_⟩
        simp [beqd, AV.γ, V.γ, Sc.γ, Mb.clk, Mb.part, h10, u, v, x, y]
      · repeat' first
          | (refine T.br_t ?_ ?_; focus (simp [h10, u, v, x, y]; done))
          | (refine T.br_f ?_ ?_; focus (simp [h10, u, v, x, y]; done))
        refine ⟨rfl, ?_⟩
        simp [beqd, AV.γ, V.γ, Sc.γ, Mb.clk, Mb.part, h10, u, v, x, y]
      · repeat' first
          | (refine T.br_t ?_ ?_; focus (simp [h10, u, v, x, y]; done))
          | (refine T.br_f ?_ ?_; focus (simp [h10, u, v, x, y]; done))
        refine ⟨rfl, ?_⟩
        simp [beqd, AV.γ, V.γ, Sc.γ, Mb.clk, Mb.part, h10, u, v, x, y]
  · repeat' first
      | (refine T.br_t ?_ ?_; focus (simp [h10, k3]; done))
      | (refine T.br_f ?_ ?_; focus (simp [h10, k3]; done))
    refine ⟨rfl, ?_⟩
    simp [beqd, AV.γ, V.γ, Sc.γ, Mb.clk, Mb.part, h10, k3]
set_option maxHeartbeats 4000000 in
theorem rclock_any (w : World) (k banks ram : Int) (on mode : Bool) (low high last : Int) (bh : 0 ≤ high ∧ high < 16) : Calls Try.prog 19 #[.agg #[.int .i64 k, .int .i64 banks, .int .i64 ram, .bool on, .bool mode, .int .i64 low, .int .i64 high, .int .u8 last]] w fun e w' => e = .returned (.tuple #[.int .i64 (Mb.part k high on), .bool (Mb.clk k high on)]) ∧ Below w.heap.size w w' := by
  refine val_eq base2 (ctrs_none _ _) (loops_none _ _) (rclock_tree w k banks ram on mode low high last) rfl ?_
  have h10 := fh_h10 0 (low := 0) ⟨by decide, by decide⟩ bh
  have hh : (high < 8 ∧ ¬ 8 ≤ high ∧ high ≤ 12 ∧ ¬ 12 < high) ∨ (¬ high < 8 ∧ 8 ≤ high ∧ ¬ high ≤ 12 ∧ 12 < high) ∨ (¬ high < 8 ∧ 8 ≤ high ∧ high ≤ 12 ∧ ¬ 12 < high) := by omega
  by_cases k3 : k = 3
  · subst k3
    cases on
    · repeat' first
        | (refine T.br_t ?_ ?_; focus (simp [h10, h10]; done))
        | (refine T.br_f ?_ ?_; focus (simp [h10, h10]; done))
      refine ⟨rfl, ?_⟩
      simp [beqd, AV.γ, V.γ, Sc.γ, Mb.clk, Mb.part, h10, h10]
    · rcases hh with ⟨u, v, x, y⟩ | ⟨u, v, x, y⟩ | ⟨u, v, x, y⟩
      · repeat' first
          | (refine T.br_t ?_ ?_; focus (simp [h10, u, v, x, y]; done))
          | (refine T.br_f ?_ ?_; focus (simp [h10, u, v, x, y]; done))
        refine ⟨rfl, ?_⟩
        simp [beqd, AV.γ, V.γ, Sc.γ, Mb.clk, Mb.part, h10, u, v, x, y]
      · repeat' first
          | (refine T.br_t ?_ ?_; focus (simp [h10, u, v, x, y]; done))
          | (refine T.br_f ?_ ?_; focus (simp [h10, u, v, x, y]; done))
        refine ⟨rfl, ?_⟩
        simp [beqd, AV.γ, V.γ, Sc.γ, Mb.clk, Mb.part, h10, u, v, x, y]
      · repeat' first
          | (refine T.br_t ?_ ?_; focus (simp [h10, u, v, x, y]; done))
          | (refine T.br_f ?_ ?_; focus (simp [h10, u, v, x, y]; done))
        refine ⟨rfl, ?_⟩
        simp [beqd, AV.γ, V.γ, Sc.γ, Mb.clk, Mb.part, h10, u, v, x, y]
  · repeat' first
      | (refine T.br_t ?_ ?_; focus (simp [h10, k3]; done))
      | (refine T.br_f ?_ ?_; focus (simp [h10, k3]; done))
    refine ⟨rfl, ?_⟩
    simp [beqd, AV.γ, V.γ, Sc.γ, Mb.clk, Mb.part, h10, k3]
end Go.Proofs.Ythfloebldapfbaa
