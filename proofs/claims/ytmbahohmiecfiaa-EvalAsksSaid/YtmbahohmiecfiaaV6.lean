/-
  The contract of what is peeked: a byte of bytes that go on and on.
-/
import Derived.Test.YtmbahohmiecfiaaV5
namespace Go.Proofs.Ytmbahohmiecfiaa
open Go.RowKit sym
set_option linter.unusedVariables false
set_option linter.unusedSimpArgs false
set_option maxRecDepth 100000
def I6 (x : Int) : Prop := -9223372036854775808 ≤ x ∧ x ≤ 9223372036854775807
/-- Registers as they can be. -/
def RgB (qa qf qb qc qd qe qh ql sp pc ad va ki ba : Int) : Prop := (B qa ∧ B qf ∧ B qb ∧ B qc ∧ B qd ∧ B qe ∧ B qh ∧ B ql) ∧ (W sp ∧ W pc) ∧ I6 ad ∧ I6 va ∧ I6 ki ∧ I6 ba
def evV (qa qf qb qc qd qe qh ql sp pc ad va ki ba : Int) (AB : Option Addr) (Bx : List Int) (nb cb : Nat) : Value := V.γ [] (.agg [.int false .u8 qa, .int false .u8 qf, .int false .u8 qb, .int false .u8 qc, .int false .u8 qd, .int false .u8 qe, .int false .u8 qh, .int false .u8 ql, .int false .u16 sp, .int false .u16 pc, .int false .i64 ad, .int false .i64 va, .int false .i64 ki, .int false .i64 ba, .xr AB [.u8] Bx nb cb])
/-- A byte of bytes that go on and on. -/
def pkL (Bx : List Int) (nb : Nat) (x : Int) : Int := if nb = 0 then 0 else if nb = 65536 then Bx.getD x.toNat 0 else Bx.getD (((x + x / 256) % (nb : Int)).toNat) 0
theorem xr_later {w0 w : World} {a : Option Addr} {ks : List IntKind} {xs : List Int} {n : Nat} (h : XR w0 a ks xs n) (hb : Below w0.heap.size w0 w) : XR w a ks xs n := ⟨h.1, fun j hj => by
  obtain ⟨b, off, e, hlt, hc⟩ := h.2 j hj
  exact ⟨b, off, e, Nat.lt_of_lt_of_le hlt hb.size, by rw [hb.cell (p := ⟨b, off + j, none⟩) hlt, hc]⟩⟩
theorem peek17_tree (w : World) (x : Int) (qa qf qb qc qd qe qh ql sp pc : Int) (ad va ki ba : Int) (AB : Option Addr) (Bx : List Int) (nb cb : Nat) :
    callV Try.prog w (flatT Try.prog) (noCtr) (noPre) (noLoop) 20 17 [.v (.agg [.int false .u8 qa, .int false .u8 qf, .int false .u8 qb, .int false .u8 qc, .int false .u8 qd, .int false .u8 qe, .int false .u8 qh, .int false .u8 ql, .int false .u16 sp, .int false .u16 pc, .int false .i64 ad, .int false .i64 va, .int false .i64 ki, .int false .i64 ba, .xr AB [.u8] Bx nb cb]), .v (.one (.int false .u16 x))] =
(.br ((↑nb : Int) == (0 : Int))
 (.leaf (.v (.one (.int true .u8 (0)))))
 (.br ((↑nb : Int) == (65536 : Int))
  (.chk (sym.XR w AB [IntKind.u8] Bx nb ∧
  (0 : Int) ≤ x ∧ x < (↑nb : Int) ∧ (0 : Nat) < [IntKind.u8].length)
  (.chk (sym.XC w AB [IntKind.u8] Bx ∧
  (0 : Nat) < (1 : Nat) ∧ x.toNat * [IntKind.u8].length + (1 : Nat) ≤ Bx.length)
  (.leaf (.v (.one (.int false .u8 (Bx.getD (x.toNat * [IntKind.u8].length + (0 : Nat)) (0 : Int))))))))
  (.chk ((↑nb : Int) ≠ (0 : Int))
  (.chk (sym.XR w AB [IntKind.u8] Bx nb ∧
  (0 : Int) ≤
      (IntKind.i64.wrap
            (IntKind.i64.wrap x + IntKind.i64.wrap ((IntKind.i64.wrap x).tdiv (256 : Int)))).tmod
        (↑nb : Int) ∧
    (IntKind.i64.wrap (IntKind.i64.wrap x + IntKind.i64.wrap ((IntKind.i64.wrap x).tdiv (256 : Int)))).tmod
          (↑nb : Int) <
        (↑nb : Int) ∧
      (0 : Nat) < [IntKind.u8].length)
  (.chk (sym.XC w AB [IntKind.u8] Bx ∧
  (0 : Nat) < (1 : Nat) ∧
    ((IntKind.i64.wrap (IntKind.i64.wrap x + IntKind.i64.wrap ((IntKind.i64.wrap x).tdiv (256 : Int)))).tmod
              (↑nb : Int)).toNat *
          [IntKind.u8].length +
        (1 : Nat) ≤
      Bx.length)
  (.leaf (.v (.one (.int false .u8 (Bx.getD
  (((IntKind.i64.wrap (IntKind.i64.wrap x + IntKind.i64.wrap ((IntKind.i64.wrap x).tdiv (256 : Int)))).tmod
          (↑nb : Int)).toNat *
      [IntKind.u8].length +
    (0 : Nat))
  (0 : Int))))))))))) := by kernel_rfl
theorem pk_val {x nb : Int} (h0 : 0 ≤ x) (h1 : x < 65536) (hn : 0 < nb) : (IntKind.i64.wrap (IntKind.i64.wrap x + IntKind.i64.wrap ((IntKind.i64.wrap x).tdiv 256))).tmod nb = (x + x / 256) % nb := by
  rw [wi64 x (by omega) (by omega), Int.tdiv_eq_ediv_of_nonneg h0, wi64 (x / 256) (by omega) (by omega), wi64 _ (by omega) (by omega), Int.tmod_eq_emod_of_nonneg (by omega)]
theorem rpk_ok {w0 : World} (qa qf qb qc qd qe qh ql sp pc : Int) (ad va ki ba : Int) (AB : Option Addr) (Bx : List Int) (nb cb : Nat) (hX : XR w0 AB [.u8] Bx nb) : (rpkC (evV qa qf qb qc qd qe qh ql sp pc ad va ki ba AB Bx nb cb) (pkL Bx nb)).Ok Try.prog w0 := by
  refine ⟨⟨_, Try.func17, rfl⟩, fun w hw cas us t ht ha K hK => ?_⟩
  unfold rpkC at ht
  simp only at ht
  split at ht
  · rename_i y _ x
    cases ht
    obtain ⟨⟨hy, hx0, hx1⟩, hK⟩ := hK
    obtain ⟨u0, u1, rfl, g0, g1⟩ := all2_2 ha
    obtain ⟨_, rfl⟩ := g0
    obtain ⟨_, rfl⟩ := g1
    have hX' := xr_later hX hw
    have hl : Bx.length = nb := by simpa using hX.1
    have hv := val_eq base2 (ctrs_none _ w) (pre_none _ _) (loops_none _ _) (peek17_tree w x qa qf qb qc qd qe qh ql sp pc ad va ki ba AB Bx nb cb) rfl (v := .int .u8 (pkL Bx nb x)) (by
      simp only [T.holds, List.length_singleton, Nat.mul_one, Nat.add_zero, beq_iff_eq, beq_eq_false_iff_ne, ne_eq]
      refine ⟨fun h => ⟨rfl, ?_⟩, fun h => ⟨fun h2 => ?_, fun h2 => ?_⟩⟩
      · have : nb = 0 := by omega
        unfold pkL
        rw [if_pos this]
        rfl
      · have h2 : nb = 65536 := by omega
        refine ⟨⟨hX', hx0, by omega, by decide⟩, ⟨hX'.2, by decide, by omega⟩, rfl, ?_⟩
        unfold pkL
        rw [if_neg (by omega), if_pos h2]
        rfl
      · rw [pk_val hx0 hx1 (by omega)]
        have e0 := Int.emod_nonneg (x + x / 256) (show (nb : Int) ≠ 0 by omega)
        have e1 := Int.emod_lt_of_pos (x + x / 256) (show (0 : Int) < nb by omega)
        refine ⟨h, ⟨hX', e0, e1, by decide⟩, ⟨hX'.2, by decide, by omega⟩, rfl, ?_⟩
        unfold pkL
        rw [if_neg (by omega), if_neg (by omega)]
        rfl)
    refine (show Calls Try.prog 17 #[AV.γ [] (.v y), .int .u16 x] w _ from ?_)
    rw [show AV.γ [] (.v y) = evV qa qf qb qc qd qe qh ql sp pc ad va ki ba AB Bx nb cb from hy]
    exact hv.mono fun e w' ⟨he, hb⟩ => ⟨_, [_], hK, .cons ⟨rfl, rfl⟩ .nil, he, hb⟩
  · cases ht
end Go.Proofs.Ytmbahohmiecfiaa
