/-
  Contracts of a new map and of a byte's place. Bytes are below 256, places below 65536, the lower number below 512, the higher below 16, banks at most 2 to the 31st; no other condition.
-/
import Derived.Test.YthfloebldapfbaaA3
namespace Go.Proofs.Ythfloebldapfbaa
open Go.RowKit sym
set_option linter.unusedVariables false
set_option linter.unusedSimpArgs false
set_option maxRecDepth 100000
theorem new_tree (w : World) (t : ByteArray) (k banks ram : Int) (f1 f2 f3 : Bool) :
    callV Try.prog w (flatT Try.prog) noCtr noLoop 20 11 [.v (.agg [.val (.string t), .int false .i64 k, .bool false f1, .bool false f2, .int false .i64 banks, .int false .i64 ram, .bool false f3])] =
(.leaf (.v (.agg [(.int false .i64 (k)), (.int false .i64 (banks)), (.int false .i64 (ram)), (.bool false (k == (0 : Int))), (.bool true false), (.int true .i64 (1)), (.int true .i64 (0)), (.int true .u8 (255))]))) := by kernel_rfl
theorem rnew_tree (w : World) (t : ByteArray) (k banks ram : Int) (f1 f2 f3 : Bool) :
    callV Try.prog w (flatT Try.prog) noCtr noLoop 20 14 [.v (.agg [.val (.string t), .int false .i64 k, .bool false f1, .bool false f2, .int false .i64 banks, .int false .i64 ram, .bool false f3])] =
(.leaf (.v (.agg [(.int false .i64 (k)), (.int false .i64 (banks)), (.int false .i64 (ram)), (.bool false (k == (0 : Int))), (.bool true false), (.int true .i64 (1)), (.int true .i64 (0)), (.int true .u8 (255))]))) := by kernel_rfl
theorem rom_tree (w : World) (k banks ram : Int) (on mode : Bool) (low high last : Int) (a : Int) :
    callV Try.prog w (flatT Try.prog) (ctrOf table) noLoop 20 21 [.v (.agg [.int false .i64 k, .int false .i64 banks, .int false .i64 ram, .bool false on, .bool false mode, .int false .i64 low, .int false .i64 high, .int false .u8 last]), .v (.one (.int false .u16 a))] =
(.chk (Mb.W a ∧ ((0 : Int) ≤ low ∧ low < (512 : Int)) ∧ (0 : Int) ≤ high ∧ high < (16 : Int))
(.leaf (.v (.one (.int false .i64 (IntKind.i64.wrap
  (IntKind.i64.wrap ((16384 : Int) * Mb.bank k banks a low high mode) +
    (IntKind.i64.wrap a).tmod (16384 : Int)))))))) := by kernel_rfl
theorem rrom_tree (w : World) (k banks ram : Int) (on mode : Bool) (low high last : Int) (a : Int) :
    callV Try.prog w (flatT Try.prog) (ctrOf table) noLoop 20 22 [.v (.agg [.int false .i64 k, .int false .i64 banks, .int false .i64 ram, .bool false on, .bool false mode, .int false .i64 low, .int false .i64 high, .int false .u8 last]), .v (.one (.int false .u16 a))] =
(.chk (Mb.W a ∧ ((0 : Int) ≤ low ∧ low < (512 : Int)) ∧ (0 : Int) ≤ high ∧ high < (16 : Int))
(.leaf (.v (.one (.int false .i64 (IntKind.i64.wrap
  (IntKind.i64.wrap ((16384 : Int) * Mb.bank k banks a low high mode) +
    (IntKind.i64.wrap a).tmod (16384 : Int)))))))) := by kernel_rfl
theorem new_any (w : World) (t : ByteArray) (k banks ram : Int) (f1 f2 f3 : Bool) : Calls Try.prog 11 #[.agg #[.string t, .int .i64 k, .bool f1, .bool f2, .int .i64 banks, .int .i64 ram, .bool f3]] w fun e w' => e = .returned (.agg #[.int .i64 k, .int .i64 banks, .int .i64 ram, .bool (k == 0), .bool false, .int .i64 1, .int .i64 0, .int .u8 255]) ∧ Below w.heap.size w w' := by
  refine val_eq base2 (ctrs_none _ _) (loops_none _ _) (new_tree w t k banks ram f1 f2 f3) rfl ?_
  exact ⟨rfl, rfl⟩
theorem rnew_any (w : World) (t : ByteArray) (k banks ram : Int) (f1 f2 f3 : Bool) : Calls Try.prog 14 #[.agg #[.string t, .int .i64 k, .bool f1, .bool f2, .int .i64 banks, .int .i64 ram, .bool f3]] w fun e w' => e = .returned (.agg #[.int .i64 k, .int .i64 banks, .int .i64 ram, .bool (k == 0), .bool false, .int .i64 1, .int .i64 0, .int .u8 255]) ∧ Below w.heap.size w w' := by
  refine val_eq base2 (ctrs_none _ _) (loops_none _ _) (rnew_tree w t k banks ram f1 f2 f3) rfl ?_
  exact ⟨rfl, rfl⟩
theorem bank_in (k banks a low high : Int) (mode : Bool) (bl : 0 ≤ low ∧ low < 512) (bh : 0 ≤ high ∧ high < 16) : 0 ≤ Mb.bank k banks a low high mode ∧ (Mb.bank k banks a low high mode < banks ∨ Mb.bank k banks a low high mode = 0) := by
  unfold Mb.bank
  split
  · exact ⟨by omega, Or.inr rfl⟩
  · rename_i h
    exact ⟨Int.emod_nonneg _ (by omega), Or.inl (Int.emod_lt_of_pos _ (by omega))⟩
theorem rom_any (w : World) (k banks ram : Int) (on mode : Bool) (low high last : Int) (a : Int) (ba : Mb.W a) (bl : 0 ≤ low ∧ low < 512) (bh : 0 ≤ high ∧ high < 16) (bb : banks ≤ 512) : Calls Try.prog 21 #[.agg #[.int .i64 k, .int .i64 banks, .int .i64 ram, .bool on, .bool mode, .int .i64 low, .int .i64 high, .int .u8 last], .int .u16 a] w fun e w' => e = .returned (.int .i64 (Mb.rom k banks a low high mode)) ∧ Below w.heap.size w w' := by
  refine val_eq base2 (table_ok w) (loops_none _ _) (rom_tree w k banks ram on mode low high last a) rfl ?_
  have hb := bank_in k banks a low high mode bl bh
  simp only [T.holds]
  refine ⟨⟨ba, bl, bh⟩, rfl, ?_⟩
  obtain ⟨a1, a2⟩ := ba
  unfold Mb.rom
  generalize Mb.bank k banks a low high mode = q at hb
  obtain ⟨q1, q2⟩ := hb
  have e1 : IntKind.i64.wrap a = a := Mb.wi64 _ (by omega) (by omega)
  have e2 : a.tmod 16384 = a % 16384 := Int.tmod_eq_emod_of_nonneg a1
  have e3 : IntKind.i64.wrap (16384 * q) = 16384 * q := Mb.wi64 _ (by omega) (by omega)
  have e4 : IntKind.i64.wrap (16384 * q + a % 16384) = 16384 * q + a % 16384 := Mb.wi64 _ (by omega) (by omega)
  simp only [e1, e2, e3, e4]
  rfl
theorem rrom_any (w : World) (k banks ram : Int) (on mode : Bool) (low high last : Int) (a : Int) (ba : Mb.W a) (bl : 0 ≤ low ∧ low < 512) (bh : 0 ≤ high ∧ high < 16) (bb : banks ≤ 512) : Calls Try.prog 22 #[.agg #[.int .i64 k, .int .i64 banks, .int .i64 ram, .bool on, .bool mode, .int .i64 low, .int .i64 high, .int .u8 last], .int .u16 a] w fun e w' => e = .returned (.int .i64 (Mb.rom k banks a low high mode)) ∧ Below w.heap.size w w' := by
  refine val_eq base2 (table_ok w) (loops_none _ _) (rrom_tree w k banks ram on mode low high last a) rfl ?_
  have hb := bank_in k banks a low high mode bl bh
  simp only [T.holds]
  refine ⟨⟨ba, bl, bh⟩, rfl, ?_⟩
  obtain ⟨a1, a2⟩ := ba
  unfold Mb.rom
  generalize Mb.bank k banks a low high mode = q at hb
  obtain ⟨q1, q2⟩ := hb
  have e1 : IntKind.i64.wrap a = a := Mb.wi64 _ (by omega) (by omega)
  have e2 : a.tmod 16384 = a % 16384 := Int.tmod_eq_emod_of_nonneg a1
  have e3 : IntKind.i64.wrap (16384 * q) = 16384 * q := Mb.wi64 _ (by omega) (by omega)
  have e4 : IntKind.i64.wrap (16384 * q + a % 16384) = 16384 * q + a % 16384 := Mb.wi64 _ (by omega) (by omega)
  simp only [e1, e2, e3, e4]
  rfl
def newC : Ctr := ⟨11, fun | [.v (.agg [.val (.string t), .int _ .i64 k, .bool _ f1, .bool _ f2, .int _ .i64 banks, .int _ .i64 ram, .bool _ f3])] => some (.chk (True) (.leaf (.v (.agg [.int false .i64 k, .int false .i64 banks, .int false .i64 ram, .bool false (k == 0), .bool true false, .int true .i64 1, .int true .i64 0, .int true .u8 255])))) | _ => none⟩
theorem newC_ok (w0 : World) : newC.ok Try.prog w0 := by
  refine ⟨⟨_, Try.func11, rfl⟩, fun args t ht => ?_⟩
  unfold newC at ht
  simp only at ht
  split at ht
  · cases ht
    refine ⟨rfl, fun K hK => ⟨_, hK.2, rfl, fun w _ => ?_⟩⟩
    obtain ⟨hr, _⟩ := hK
    exact new_any w _ _ _ _ _ _ _
  · cases ht
def rnewC : Ctr := ⟨14, fun | [.v (.agg [.val (.string t), .int _ .i64 k, .bool _ f1, .bool _ f2, .int _ .i64 banks, .int _ .i64 ram, .bool _ f3])] => some (.chk (True) (.leaf (.v (.agg [.int false .i64 k, .int false .i64 banks, .int false .i64 ram, .bool false (k == 0), .bool true false, .int true .i64 1, .int true .i64 0, .int true .u8 255])))) | _ => none⟩
theorem rnewC_ok (w0 : World) : rnewC.ok Try.prog w0 := by
  refine ⟨⟨_, Try.func14, rfl⟩, fun args t ht => ?_⟩
  unfold rnewC at ht
  simp only at ht
  split at ht
  · cases ht
    refine ⟨rfl, fun K hK => ⟨_, hK.2, rfl, fun w _ => ?_⟩⟩
    obtain ⟨hr, _⟩ := hK
    exact rnew_any w _ _ _ _ _ _ _
  · cases ht
def romC : Ctr := ⟨21, fun | [.v (.agg [.int _ .i64 k, .int _ .i64 banks, .int _ .i64 ram, .bool _ on, .bool _ mode, .int _ .i64 low, .int _ .i64 high, .int _ .u8 last]), .v (.one (.int _ .u16 a))] => some (.chk (Mb.W a ∧ (0 ≤ low ∧ low < 512) ∧ 0 ≤ high ∧ high < 16 ∧ banks ≤ 512) (.leaf (.v (.one (.int false .i64 (Mb.rom k banks a low high mode)))))) | _ => none⟩
theorem romC_ok (w0 : World) : romC.ok Try.prog w0 := by
  refine ⟨⟨_, Try.func21, rfl⟩, fun args t ht => ?_⟩
  unfold romC at ht
  simp only at ht
  split at ht
  · cases ht
    refine ⟨rfl, fun K hK => ⟨_, hK.2, rfl, fun w _ => ?_⟩⟩
    obtain ⟨hr, _⟩ := hK
    exact rom_any w _ _ _ _ _ _ _ _ _ hr.1 hr.2.1 ⟨hr.2.2.1, hr.2.2.2.1⟩ hr.2.2.2.2
  · cases ht
def rromC : Ctr := ⟨22, fun | [.v (.agg [.int _ .i64 k, .int _ .i64 banks, .int _ .i64 ram, .bool _ on, .bool _ mode, .int _ .i64 low, .int _ .i64 high, .int _ .u8 last]), .v (.one (.int _ .u16 a))] => some (.chk (Mb.W a ∧ (0 ≤ low ∧ low < 512) ∧ 0 ≤ high ∧ high < 16 ∧ banks ≤ 512) (.leaf (.v (.one (.int false .i64 (Mb.rom k banks a low high mode)))))) | _ => none⟩
theorem rromC_ok (w0 : World) : rromC.ok Try.prog w0 := by
  refine ⟨⟨_, Try.func22, rfl⟩, fun args t ht => ?_⟩
  unfold rromC at ht
  simp only at ht
  split at ht
  · cases ht
    refine ⟨rfl, fun K hK => ⟨_, hK.2, rfl, fun w _ => ?_⟩⟩
    obtain ⟨hr, _⟩ := hK
    exact rrom_any w _ _ _ _ _ _ _ _ _ hr.1 hr.2.1 ⟨hr.2.2.1, hr.2.2.2.1⟩ hr.2.2.2.2
  · cases ht
def table2 : List Ctr := [awC, cartC, writeC, rwriteC, bankC, rbankC, atC, ratC, clockC, rclockC, newC, rnewC, romC, rromC]
theorem table2_ok (w0 : World) : Ctrs Try.prog w0 (ctrOf table2) := ctrs_of fun c hc => by
  simp only [table2, List.mem_cons, List.not_mem_nil, or_false] at hc
  rcases hc with rfl | rfl | rfl | rfl | rfl | rfl | rfl | rfl | rfl | rfl | rfl | rfl | rfl | rfl
  · exact awC_ok w0
  · exact cartC_ok w0
  · exact writeC_ok w0
  · exact rwriteC_ok w0
  · exact bankC_ok w0
  · exact rbankC_ok w0
  · exact atC_ok w0
  · exact ratC_ok w0
  · exact clockC_ok w0
  · exact rclockC_ok w0
  · exact newC_ok w0
  · exact rnewC_ok w0
  · exact romC_ok w0
  · exact rromC_ok w0
end Go.Proofs.Ythfloebldapfbaa
