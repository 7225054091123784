/-
  Contracts of a cartridge and of a map's calls. Bytes are below 256, places below 65536, the lower number below 512, the higher below 16; no other condition.
-/
import Derived.Test.YthfloebldapfbaaA2
import Derived.Test.YthfloebldapfbaaSymA
namespace Go.Proofs.Ythfloebldapfbaa
open Go.RowKit sym
set_option linter.unusedVariables false
set_option linter.unusedSimpArgs false
set_option maxRecDepth 100000
theorem shl2 {b : Int} (h : Mb.B b) : IntKind.i64.wrap (2 * 2 ^ Min.min (b.tmod 9).toNat IntKind.i64.bits) = Mb.banksOf b := by
  have e : b.tmod 9 = b % 9 := Int.tmod_eq_emod_of_nonneg h.1
  have hj : (b % 9).toNat < 9 := by have := h.1; omega
  rw [e]
  unfold Mb.banksOf
  generalize (b % 9).toNat = j at hj
  have : ∀ j : Nat, j < 9 → IntKind.i64.wrap (2 * 2 ^ Min.min j IntKind.i64.bits) = 2 * 2 ^ j := by decide
  exact this j hj
theorem md6 {a : Int} (h : Mb.B a) : a.tmod 6 = a % 6 := Int.tmod_eq_emod_of_nonneg h.1
theorem md9 {a : Int} (h : Mb.B a) : 0 ≤ a.tmod 9 := by rw [Int.tmod_eq_emod_of_nonneg h.1]; omega
set_option maxHeartbeats 4000000 in
theorem cart_any (w : World) (a b c : Int) (ba : Mb.B a) (bb : Mb.B b) (bc : Mb.B c) : Calls Try.prog 10 #[.int .u8 a, .int .u8 b, .int .u8 c] w fun e w' => e = .returned (.agg #[.string { data := #[] }, .int .i64 (Mb.kindOf a), .bool false, .bool false, .int .i64 (Mb.banksOf b), .int .i64 (Mb.ramOf (Mb.kindOf a) c), .bool false]) ∧ Below w.heap.size w w' := by
  refine val_eq base2 (ctrs_none _ _) (loops_none _ _) (cart_tree w a b c) rfl ?_
  have h6 : a % 6 = 0 ∨ a % 6 = 1 ∨ a % 6 = 2 ∨ a % 6 = 3 ∨ a % 6 = 4 ∨ a % 6 = 5 := by omega
  have c6 : c % 6 = 0 ∨ c % 6 = 1 ∨ c % 6 = 2 ∨ c % 6 = 3 ∨ c % 6 = 4 ∨ c % 6 = 5 := by omega
  have ea := md6 ba
  have ec := md6 bc
  have eb := shl2 bb
  have e9 := md9 bb
  have ra : 0 ≤ a.tmod 6 ∧ a.tmod 6 < ((6 : Nat) : Int) := by rw [ea]; omega
  have rc : 0 ≤ c.tmod 6 ∧ c.tmod 6 < ((6 : Nat) : Int) := by rw [ec]; omega
  rcases h6 with h6 | h6 | h6 | h6 | h6 | h6 <;> rcases c6 with c6 | c6 | c6 | c6 | c6 | c6
  all_goals
    repeat' first
      | (refine T.br_t ?_ ?_; focus (simp [ea, ec, h6, c6]; done))
      | (refine T.br_f ?_ ?_; focus (simp [ea, ec, h6, c6]; done))
      | (refine And.intro e9 ?_)
      | (refine And.intro ra ?_)
      | (refine And.intro rc ?_)
      | fail
    refine ⟨rfl, ?_⟩
    simp [AV.γ, V.γ, Sc.γ, Mb.kindOf, Mb.ramOf, eb, h6, c6]
def cartC : Ctr := ⟨10, fun | [.v (.one (.int _ .u8 a)), .v (.one (.int _ .u8 b)), .v (.one (.int _ .u8 c))] => some (.chk (Mb.B a ∧ Mb.B b ∧ Mb.B c) (.leaf (.v (.agg [.val (.string { data := #[] }), .int false .i64 (Mb.kindOf a), .bool true false, .bool true false, .int false .i64 (Mb.banksOf b), .int false .i64 (Mb.ramOf (Mb.kindOf a) c), .bool true false])))) | _ => none⟩
theorem cartC_ok (w0 : World) : cartC.ok Try.prog w0 := by
  refine ⟨⟨_, Try.func10, rfl⟩, fun args t ht => ?_⟩
  unfold cartC at ht
  simp only at ht
  split at ht
  · cases ht
    refine ⟨rfl, fun K hK => ⟨_, hK.2, rfl, fun w _ => ?_⟩⟩
    obtain ⟨hr, _⟩ := hK
    exact cart_any w _ _ _ hr.1 hr.2.1 hr.2.2
  · cases ht
def writeC : Ctr := ⟨12, fun | [.v (.agg [.int _ .i64 k, .int _ .i64 banks, .int _ .i64 ram, .bool _ on, .bool _ mode, .int _ .i64 low, .int _ .i64 high, .int _ .u8 last]), .v (.one (.int _ .u16 a)), .v (.one (.int _ .u8 x))] => some (.chk (Mb.W a ∧ Mb.B x ∧ 0 ≤ low ∧ low < 512) (.leaf (.tuple [.agg [.int false .i64 k, .int false .i64 banks, .int false .i64 ram, .bool false (Mb.wOn k a x on), .bool false (Mb.wMode k a x mode), .int false .i64 (Mb.wLow k a x low), .int false .i64 (Mb.wHigh k a x high), .int false .u8 (Mb.wLast k a x last)], .one (.bool false (Mb.wHeld k a x last))]))) | _ => none⟩
theorem writeC_ok (w0 : World) : writeC.ok Try.prog w0 := by
  refine ⟨⟨_, Try.func12, rfl⟩, fun args t ht => ?_⟩
  unfold writeC at ht
  simp only at ht
  split at ht
  · cases ht
    refine ⟨rfl, fun K hK => ⟨_, hK.2, rfl, fun w _ => ?_⟩⟩
    obtain ⟨hr, _⟩ := hK
    exact write_any w _ _ _ _ _ _ _ _ _ _ hr.1 hr.2.1 hr.2.2
  · cases ht
def rwriteC : Ctr := ⟨15, fun | [.v (.agg [.int _ .i64 k, .int _ .i64 banks, .int _ .i64 ram, .bool _ on, .bool _ mode, .int _ .i64 low, .int _ .i64 high, .int _ .u8 last]), .v (.one (.int _ .u16 a)), .v (.one (.int _ .u8 x))] => some (.chk (Mb.W a ∧ Mb.B x ∧ 0 ≤ low ∧ low < 512) (.leaf (.tuple [.agg [.int false .i64 k, .int false .i64 banks, .int false .i64 ram, .bool false (Mb.wOn k a x on), .bool false (Mb.wMode k a x mode), .int false .i64 (Mb.wLow k a x low), .int false .i64 (Mb.wHigh k a x high), .int false .u8 (Mb.wLast k a x last)], .one (.bool false (Mb.wHeld k a x last))]))) | _ => none⟩
theorem rwriteC_ok (w0 : World) : rwriteC.ok Try.prog w0 := by
  refine ⟨⟨_, Try.func15, rfl⟩, fun args t ht => ?_⟩
  unfold rwriteC at ht
  simp only at ht
  split at ht
  · cases ht
    refine ⟨rfl, fun K hK => ⟨_, hK.2, rfl, fun w _ => ?_⟩⟩
    obtain ⟨hr, _⟩ := hK
    exact rwrite_any w _ _ _ _ _ _ _ _ _ _ hr.1 hr.2.1 hr.2.2
  · cases ht
def bankC : Ctr := ⟨13, fun | [.v (.agg [.int _ .i64 k, .int _ .i64 banks, .int _ .i64 ram, .bool _ on, .bool _ mode, .int _ .i64 low, .int _ .i64 high, .int _ .u8 last]), .v (.one (.int _ .u16 a))] => some (.chk (Mb.W a ∧ (0 ≤ low ∧ low < 512) ∧ 0 ≤ high ∧ high < 16) (.leaf (.v (.one (.int false .i64 (Mb.bank k banks a low high mode)))))) | _ => none⟩
theorem bankC_ok (w0 : World) : bankC.ok Try.prog w0 := by
  refine ⟨⟨_, Try.func13, rfl⟩, fun args t ht => ?_⟩
  unfold bankC at ht
  simp only at ht
  split at ht
  · cases ht
    refine ⟨rfl, fun K hK => ⟨_, hK.2, rfl, fun w _ => ?_⟩⟩
    obtain ⟨hr, _⟩ := hK
    exact bank_any w _ _ _ _ _ _ _ _ _ hr.1 hr.2.1 hr.2.2
  · cases ht
def rbankC : Ctr := ⟨20, fun | [.v (.agg [.int _ .i64 k, .int _ .i64 banks, .int _ .i64 ram, .bool _ on, .bool _ mode, .int _ .i64 low, .int _ .i64 high, .int _ .u8 last]), .v (.one (.int _ .u16 a))] => some (.chk (Mb.W a ∧ (0 ≤ low ∧ low < 512) ∧ 0 ≤ high ∧ high < 16) (.leaf (.v (.one (.int false .i64 (Mb.bank k banks a low high mode)))))) | _ => none⟩
theorem rbankC_ok (w0 : World) : rbankC.ok Try.prog w0 := by
  refine ⟨⟨_, Try.func20, rfl⟩, fun args t ht => ?_⟩
  unfold rbankC at ht
  simp only at ht
  split at ht
  · cases ht
    refine ⟨rfl, fun K hK => ⟨_, hK.2, rfl, fun w _ => ?_⟩⟩
    obtain ⟨hr, _⟩ := hK
    exact rbank_any w _ _ _ _ _ _ _ _ _ hr.1 hr.2.1 hr.2.2
  · cases ht
def atC : Ctr := ⟨16, fun | [.v (.agg [.int _ .i64 k, .int _ .i64 banks, .int _ .i64 ram, .bool _ on, .bool _ mode, .int _ .i64 low, .int _ .i64 high, .int _ .u8 last]), .v (.one (.int _ .u16 a))] => some (.chk (Mb.W a ∧ (0 ≤ low ∧ low < 512) ∧ 0 ≤ high ∧ high < 16) (.leaf (.tuple [.one (.int false .i64 (Mb.at_ k ram a high on mode)), .one (.bool false (Mb.sees k ram a high on))]))) | _ => none⟩
theorem atC_ok (w0 : World) : atC.ok Try.prog w0 := by
  refine ⟨⟨_, Try.func16, rfl⟩, fun args t ht => ?_⟩
  unfold atC at ht
  simp only at ht
  split at ht
  · cases ht
    refine ⟨rfl, fun K hK => ⟨_, hK.2, rfl, fun w _ => ?_⟩⟩
    obtain ⟨hr, _⟩ := hK
    exact at_any w _ _ _ _ _ _ _ _ _ hr.1 hr.2.1 hr.2.2
  · cases ht
def ratC : Ctr := ⟨17, fun | [.v (.agg [.int _ .i64 k, .int _ .i64 banks, .int _ .i64 ram, .bool _ on, .bool _ mode, .int _ .i64 low, .int _ .i64 high, .int _ .u8 last]), .v (.one (.int _ .u16 a))] => some (.chk (Mb.W a ∧ (0 ≤ low ∧ low < 512) ∧ 0 ≤ high ∧ high < 16) (.leaf (.tuple [.one (.int false .i64 (Mb.at_ k ram a high on mode)), .one (.bool false (Mb.sees k ram a high on))]))) | _ => none⟩
theorem ratC_ok (w0 : World) : ratC.ok Try.prog w0 := by
  refine ⟨⟨_, Try.func17, rfl⟩, fun args t ht => ?_⟩
  unfold ratC at ht
  simp only at ht
  split at ht
  · cases ht
    refine ⟨rfl, fun K hK => ⟨_, hK.2, rfl, fun w _ => ?_⟩⟩
    obtain ⟨hr, _⟩ := hK
    exact rat_any w _ _ _ _ _ _ _ _ _ hr.1 hr.2.1 hr.2.2
  · cases ht
def clockC : Ctr := ⟨18, fun | [.v (.agg [.int _ .i64 k, .int _ .i64 banks, .int _ .i64 ram, .bool _ on, .bool _ mode, .int _ .i64 low, .int _ .i64 high, .int _ .u8 last])] => some (.chk (0 ≤ high ∧ high < 16) (.leaf (.tuple [.one (.int false .i64 (Mb.part k high on)), .one (.bool false (Mb.clk k high on))]))) | _ => none⟩
theorem clockC_ok (w0 : World) : clockC.ok Try.prog w0 := by
  refine ⟨⟨_, Try.func18, rfl⟩, fun args t ht => ?_⟩
  unfold clockC at ht
  simp only at ht
  split at ht
  · cases ht
    refine ⟨rfl, fun K hK => ⟨_, hK.2, rfl, fun w _ => ?_⟩⟩
    obtain ⟨hr, _⟩ := hK
    exact clock_any w _ _ _ _ _ _ _ _ hr
  · cases ht
def rclockC : Ctr := ⟨19, fun | [.v (.agg [.int _ .i64 k, .int _ .i64 banks, .int _ .i64 ram, .bool _ on, .bool _ mode, .int _ .i64 low, .int _ .i64 high, .int _ .u8 last])] => some (.chk (0 ≤ high ∧ high < 16) (.leaf (.tuple [.one (.int false .i64 (Mb.part k high on)), .one (.bool false (Mb.clk k high on))]))) | _ => none⟩
theorem rclockC_ok (w0 : World) : rclockC.ok Try.prog w0 := by
  refine ⟨⟨_, Try.func19, rfl⟩, fun args t ht => ?_⟩
  unfold rclockC at ht
  simp only at ht
  split at ht
  · cases ht
    refine ⟨rfl, fun K hK => ⟨_, hK.2, rfl, fun w _ => ?_⟩⟩
    obtain ⟨hr, _⟩ := hK
    exact rclock_any w _ _ _ _ _ _ _ _ hr
  · cases ht
theorem awake_any (w : World) : Calls Try.prog 9 #[] w fun e w' => e = .returned (.bool true) ∧ Below w.heap.size w w' := by
  refine val_eq base2 (ctrs_none _ _) (loops_none _ _) (awake_tree w) rfl ?_
  exact ⟨rfl, rfl⟩
def awC : Ctr := ⟨9, fun | [] => some (.chk (True) (.leaf (.v (.one (.bool true true))))) | _ => none⟩
theorem awC_ok (w0 : World) : awC.ok Try.prog w0 := by
  refine ⟨⟨_, Try.func9, rfl⟩, fun args t ht => ?_⟩
  unfold awC at ht
  simp only at ht
  split at ht
  · cases ht
    refine ⟨rfl, fun K hK => ⟨_, hK.2, rfl, fun w _ => ?_⟩⟩
    obtain ⟨hr, _⟩ := hK
    exact awake_any w
  · cases ht
def table : List Ctr := [awC, cartC, writeC, rwriteC, bankC, rbankC, atC, ratC, clockC, rclockC]
theorem table_ok (w0 : World) : Ctrs Try.prog w0 (ctrOf table) := ctrs_of fun c hc => by
  simp only [table, List.mem_cons, List.not_mem_nil, or_false] at hc
  rcases hc with rfl | rfl | rfl | rfl | rfl | rfl | rfl | rfl | rfl | rfl
  · exact awC_ok w0
  · exact cartC_ok w0
  · exact writeC_ok w0
  · exact rwriteC_ok w0
  · exact bankC_ok w0
  · exact rbankC_ok w0
  · exact atC_ok w0
  · exact ratC_ok w0
  · exact clockC_ok w0
  · exact rclockC_ok w0
end Go.Proofs.Ythfloebldapfbaa
