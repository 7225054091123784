/-
  Walk of a statement of the timer, by computing, with its rounds: how often it counts. Bytes are below 256, the counter below 65536; no other condition.
-/
import Derived.Test.YtobenphpjphdlaaA6
namespace Go.Proofs.Ytobenphpjphdlaa
open Go.RowKit sym
set_option linter.unusedVariables false
set_option linter.unusedSimpArgs false
set_option maxRecDepth 100000
def d3Mu (p : d3P) (x : d3X) : Nat := (p.n - x.i).toNat
theorem d3_step (w : World) (p : d3P) (x : d3X) (h : d3Inv p x) : Hid (roundT Try.prog w (flatT Try.prog) (ctrOf table) (callT Try.prog w (flatT Try.prog) (ctrOf table) (noLoop) 20) ((noLoop) 3) (roundOf (bodyAt Try.prog 3 0)) 0 (d3St p) (d3Fin p) d3NxX d3NxX x) (Kept (d3Inv p) (d3Post p) (d3Mu p) x) := by
  obtain ⟨tac, n, fr, want⟩ := p
  obtain ⟨i, got, last, c, tima, tma, m, ov⟩ := x
  constructor
  rw [d3step_tree]
  simp only [T.holds, Kept, d3Mu, and_self, true_and, and_true]
  obtain ⟨h1, h2, h3, h4, h5, h6, h7, h8, h9, h10, h11⟩ := h
  simp only at h1 h2 h3 h4 h5 h6 h7 h8 h9 h10 h11
  subst h7 h8
  have h6' := h6
  obtain ⟨bc, bt, bm, ba⟩ := h6'
  have hc4 : c % 4 = 0 := by omega
  have eT := Tm.tkT_eq (tma := tma) bc hc4 ba bt
  have eO := Tm.tkO_eq (tma := tma) bc hc4 ba bt
  have hs := Tm.cnt_succ (m := m) h4 h5 h1 h9
  have hB := Tm.cnt_B (m := m) h4 h1
  have hT : IntKind.i64.wrap (got + IntKind.i64.wrap (IntKind.u8.wrap (Tm.tkT c last tma m false - last))) = Tm.cnt m fr (i + 1) := by
    rw [hs, eT, h11]
    obtain ⟨l1, l2⟩ := bt
    by_cases g : Tm.go c m
    · rw [if_pos g, if_pos g, Tm.wu8]
      have : ((last + 1) % 256 - last) % 256 = 1 := by omega
      rw [this, show IntKind.i64.wrap 1 = 1 from rfl]
      have : Tm.cnt m fr i ≤ 4000 := by
        by_cases hi : i ≤ 4000 <;> omega
      exact Tm.wi64 _ (by omega) (by omega)
    · rw [if_neg g, if_neg g, Tm.wu8]
      have : (last - last) % 256 = 0 := by omega
      rw [this, show IntKind.i64.wrap 0 = 0 from rfl]
      exact Tm.wi64 _ (by omega) (by omega)
  rw [hT]
  have hi' : i < n → IntKind.i64.wrap (i + 1) = i + 1 := fun h => Tm.wi64 _ (by omega) (by omega)
  refine ⟨fun h => ⟨h6, fun ho => ⟨⟨TB_tick h6, by omega, by omega⟩, ?_, ?_⟩, fun ho => ⟨?_, ?_⟩⟩, fun h => ?_⟩
  · have hin : i < n := by simpa using h
    rw [hi' hin]
    have z : Tm.B 0 := ⟨by omega, by omega⟩
    have hw := TB_write (n := 1) (x := 0) (TB_tick (ov := false) h6) z
    refine ⟨by show 0 ≤ i + 1; omega, by show i + 1 ≤ n; omega, h3, h4, h5, hw, ?_, ?_, ?_, ?_, ?_⟩
    · simp [Tm.wO]
    · simp [Tm.wT]
    · simp [Tm.wC, Tm.tkC]; omega
    · simp [Tm.wA]; exact h10
    · simp [Tm.wA]
  · have hin : i < n := by simpa using h
    rw [hi' hin]
    show (n - (i + 1)).toNat < (n - i).toNat
    omega
  · have hin : i < n := by simpa using h
    rw [hi' hin]
    refine ⟨by show 0 ≤ i + 1; omega, by show i + 1 ≤ n; omega, h3, h4, h5, TB_tick h6, ho, rfl, ?_, h10, rfl⟩
    show Tm.tkC c = (4 * fr + 4 * (i + 1)) % 65536
    unfold Tm.tkC; omega
  · have hin : i < n := by simpa using h
    rw [hi' hin]
    show (n - (i + 1)).toNat < (n - i).toNat
    omega
  · have hin : ¬ i < n := by simpa using h
    have : i = n := by omega
    subst this
    constructor
    show got = Tm.cnt (tac % 8) fr i
    rw [← h10]; exact h11
set_option maxHeartbeats 4000000 in
theorem d3Lp_ok (w0 : World) : d3Lp.ok Try.prog w0 := by
  intro s t h
  unfold d3Lp at h
  simp only at h
  split at h
  · rename_i p _
    split at h
    · rename_i x _
      cases h
      exact loop_ok base2 (table_ok w0) (callT_ok base2.mixed base2.names base2.eqs (table_ok w0).ok (table_ok w0).there (loops_none _ _) 20) ((loops_none _ _) 3) (c := roundOf (bodyAt Try.prog 3 0)) (by kernel_rfl) (id := 0) (n := 2) (st := d3St p) (fin := d3Fin p) (inv := d3Inv p) (post := d3Post p) (nx := d3NxX) (fx := d3NxX) (d3Mu p) (fun x => by kernel_rfl) (fun y => by kernel_rfl) (fun x hx => d3_step w0 p x hx) s x
    · cases h
  · cases h

theorem Tm.andn3 (x : Nat) (hx : x < 65536) : bits .andNot .u16 (x : Int) 3 = ((x / 4 * 4 : Nat) : Int) := by
  have h := u16_andNot_nat x 3 hx (by omega)
  rw [show (3 : Int) = ((3 : Nat) : Int) from rfl, h]
  congr 1
  have e : x &&& (65535 - 3) = x - x % 4 := by
    have h1 : x &&& 65532 = (x >>> 2 <<< 2) &&& 65535 := by
      apply Nat.eq_of_testBit_eq
      intro i
      simp only [Nat.testBit_and, Nat.testBit_shiftLeft, Nat.testBit_shiftRight, show (65532 : Nat) = (16383 <<< 2) from rfl, show (65535 : Nat) = 2 ^ 16 - 1 from rfl, show (16383 : Nat) = 2 ^ 14 - 1 from rfl, Nat.testBit_two_pow_sub_one]
      by_cases hi : 2 ≤ i
      · simp [hi, Nat.add_sub_cancel' hi]
        by_cases h2 : i < 16
        · simp [h2, show i - 2 < 14 by omega]
        · simp [h2, show ¬ i - 2 < 14 by omega]
      · simp [hi]
    rw [h1, show (65535 : Nat) = 2 ^ 16 - 1 from rfl, Nat.and_two_pow_sub_one_eq_mod, Nat.shiftRight_eq_div_pow, Nat.shiftLeft_eq]
    omega
  rw [e]; omega
theorem Tm.bandn3 {x : Int} (h : Tm.W x) : bits .andNot .u16 x 3 = x / 4 * 4 := by
  obtain ⟨n, rfl⟩ := Int.eq_ofNat_of_zero_le h.1
  rw [Tm.andn3 n (by have := h.2; omega)]; simp
theorem counts_walk (w : World) (count tac cyc : Int) (bc : Tm.W count) (ba : Tm.B tac) (bx : Tm.W cyc) : Calls Try.prog 3 #[.int .u16 count, .int .u8 tac, .int .u16 cyc] w fun e w' => e = .returned (.bool true) ∧ Below w.heap.size w w' := by
  have hl : LcsOk Try.prog w (lpOf Try.prog [d3Lp]) := lps_ok fun l hl => by
    simp only [List.mem_cons, List.not_mem_nil, or_false] at hl
    subst hl
    exact d3Lp_ok w
  refine val_eq base2 (table_ok w) hl (counts_tree w count tac cyc) rfl ?_
  have ea := Tm.bandn3 bc
  have et3 := Tm.t3 ba
  have et4 := Tm.t4 ba
  have et7 := Tm.t7 ba
  obtain ⟨c1, c2⟩ := bc
  obtain ⟨a1, a2⟩ := ba
  obtain ⟨x1, x2⟩ := bx
  have eb : IntKind.i64.wrap (count / 4 * 4) = count / 4 * 4 := Tm.wi64 _ (by omega) (by omega)
  have ec : (count / 4 * 4).tdiv 4 = count / 4 := by rw [Int.tdiv_eq_ediv_of_nonneg (by omega)]; omega
  have ed : IntKind.i64.wrap (count / 4) = count / 4 := Tm.wi64 _ (by omega) (by omega)
  have em : (IntKind.i64.wrap cyc).tmod 4000 = cyc % 4000 := by rw [Tm.wi64 _ (by omega) (by omega), Int.tmod_eq_emod_of_nonneg x1]
  have ef : IntKind.i64.wrap (count / 4 + cyc % 4000) = count / 4 + cyc % 4000 := Tm.wi64 _ (by omega) (by omega)
  have eg : ∀ v : Int, 0 < v → IntKind.i64.wrap (IntKind.i64.wrap ((count / 4 + cyc % 4000).tdiv v) - IntKind.i64.wrap ((count / 4).tdiv v)) = (count / 4 + cyc % 4000) / v - count / 4 / v := fun v hv => by
    rw [Int.tdiv_eq_ediv_of_nonneg (by omega), Int.tdiv_eq_ediv_of_nonneg (by omega)]
    have h1 : 0 ≤ (count / 4 + cyc % 4000) / v := Int.ediv_nonneg (by omega) (by omega)
    have h2 : 0 ≤ count / 4 / v := Int.ediv_nonneg (by omega) (by omega)
    have h3 : (count / 4 + cyc % 4000) / v ≤ count / 4 + cyc % 4000 := Int.ediv_le_self _ (by omega)
    have h4 : count / 4 / v ≤ count / 4 := Int.ediv_le_self _ (by omega)
    rw [Tm.wi64 ((count / 4 + cyc % 4000) / v) (by omega) (by omega), Tm.wi64 (count / 4 / v) (by omega) (by omega), Tm.wi64 _ (by omega) (by omega)]
  have g1 := eg 256 (by omega)
  have g2 := eg 4 (by omega)
  have g3 := eg 16 (by omega)
  have g4 := eg 64 (by omega)
  simp only [T.holds, and_self, true_and, and_true, et3, et7, ea, eb, ec, ed, em, ef, g1, g2, g3, g4]
  have htb : TB (count / 4 * 4) 0 0 (tac % 8) := ⟨⟨by omega, by omega⟩, ⟨by omega, by omega⟩, ⟨by omega, by omega⟩, ⟨by omega, by omega⟩⟩
  have hinv : ∀ wa : Int, d3Inv ⟨tac, cyc % 4000, count / 4, wa⟩ ⟨0, 0, 0, count / 4 * 4, 0, 0, tac % 8, false⟩ := fun wa => by
    refine ⟨by show (0:Int) ≤ 0; omega, by show 0 ≤ cyc % 4000; omega, by show cyc % 4000 < 4000; omega, by show 0 ≤ count / 4; omega, by show count / 4 < 16384; omega, htb, rfl, rfl, ?_, rfl, Tm.cnt_0.symm⟩
    show count / 4 * 4 = (4 * (count / 4) + 4 * 0) % 65536
    omega
  have h8 : tac % 8 % 4 = tac % 4 := by omega
  have h9 : tac % 8 / 4 % 2 = tac / 4 % 2 := by omega
  have et4' : (bits .and .u8 tac 4 == 0) = !(bits .and .u8 tac 4 != 0) := by simp [bne]
  rw [et4', et4]
  refine ⟨⟨by omega, by show tac % 4 < 4; omega⟩, fun k0 => ?_, fun n0 => ⟨fun k1 => ?_, fun n1 => ⟨fun k2 => ?_, fun n2 => ?_⟩⟩⟩
  · refine ⟨hinv _, fun y => ?_⟩
    obtain ⟨⟨i, got, last, c, tima, tma, m, ov⟩, hy⟩ := y
    obtain ⟨hy⟩ := hy
    simp only [em, ea, eb, ec, ed] at hy ⊢
    have hk : tac % 4 = 0 := by simpa using k0
    simp only [Tm.cnt, Tm.ev, h8, h9, hk] at hy
    by_cases h4 : tac / 4 % 2 = 1
    · simp [h4] at hy
      subst hy
      simp [h4, AV.own, AV.wf, V.wf, Sc.wf, AV.γ, V.γ, Sc.γ]
    · simp [h4] at hy
      subst hy
      simp [h4, AV.own, AV.wf, V.wf, Sc.wf, AV.γ, V.γ, Sc.γ]
  · refine ⟨hinv _, fun y => ?_⟩
    obtain ⟨⟨i, got, last, c, tima, tma, m, ov⟩, hy⟩ := y
    obtain ⟨hy⟩ := hy
    simp only [em, ea, eb, ec, ed] at hy ⊢
    have hk : tac % 4 = 1 := by simpa using k1
    simp only [Tm.cnt, Tm.ev, h8, h9, hk] at hy
    by_cases h4 : tac / 4 % 2 = 1
    · simp [h4] at hy
      subst hy
      simp [h4, AV.own, AV.wf, V.wf, Sc.wf, AV.γ, V.γ, Sc.γ]
    · simp [h4] at hy
      subst hy
      simp [h4, AV.own, AV.wf, V.wf, Sc.wf, AV.γ, V.γ, Sc.γ]
  · refine ⟨hinv _, fun y => ?_⟩
    obtain ⟨⟨i, got, last, c, tima, tma, m, ov⟩, hy⟩ := y
    obtain ⟨hy⟩ := hy
    simp only [em, ea, eb, ec, ed] at hy ⊢
    have hk : tac % 4 = 2 := by simpa using k2
    simp only [Tm.cnt, Tm.ev, h8, h9, hk] at hy
    by_cases h4 : tac / 4 % 2 = 1
    · simp [h4] at hy
      subst hy
      simp [h4, AV.own, AV.wf, V.wf, Sc.wf, AV.γ, V.γ, Sc.γ]
    · simp [h4] at hy
      subst hy
      simp [h4, AV.own, AV.wf, V.wf, Sc.wf, AV.γ, V.γ, Sc.γ]
  · refine ⟨hinv _, fun y => ?_⟩
    obtain ⟨⟨i, got, last, c, tima, tma, m, ov⟩, hy⟩ := y
    obtain ⟨hy⟩ := hy
    simp only [em, ea, eb, ec, ed] at hy ⊢
    have hk : tac % 4 = 3 := by simp at n0 n1 n2; omega
    simp only [Tm.cnt, Tm.ev, h8, h9, hk] at hy
    by_cases h4 : tac / 4 % 2 = 1
    · simp [h4] at hy
      subst hy
      simp [h4, AV.own, AV.wf, V.wf, Sc.wf, AV.γ, V.γ, Sc.γ]
    · simp [h4] at hy
      subst hy
      simp [h4, AV.own, AV.wf, V.wf, Sc.wf, AV.γ, V.γ, Sc.γ]
end Go.Proofs.Ytobenphpjphdlaa
