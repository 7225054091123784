/-
  Walks of the document's keys (bit, Line, Read, Write, Falls): each comes to the same plain functions. Bytes are below 256; no other condition.
-/
import Derived.Test.YtiafdnihgnjohaaStore
import Derived.Test.YtiafdnihgnjohaaPlain
import Derived.Handy
namespace Go.Proofs.Ytiafdnihgnjohaa
open Go.RowKit Go.Sort
attribute [local go_sem] free.cell_old free.frozen_old free.u8_signed free.u8_max

theorem div_step (x k : Nat) : ((x / 2 ^ k : Nat) : Int) / 2 = ((x / 2 ^ (k + 1) : Nat) : Int) := by
  rw [Nat.pow_succ, ← Nat.div_div_eq_div_mul]; rfl
theorem bit_end (x n : Nat) : (((x / 2 ^ n : Nat) : Int) % 2 == 1) = x.testBit n := by
  rw [Joy.bit_div]
  generalize x / 2 ^ n = y
  rw [Bool.eq_iff_iff]
  simp only [beq_iff_eq, decide_eq_true_eq]
  omega

theorem bit_any (x n : Nat) (hx : x < 256) (hn : n < 8) (w : World) :
    Calls Try.prog 20 #[.int .u8 x, .int .i64 n] w fun e w' => e = .returned (.bool (x.testBit n)) ∧ w = w' := by
  go_enter Try.func20, Try.ntmps20
  go_wp2
  go_loop [5, 6] (fun y i => ∃ k : Nat, k ≤ n ∧ i = .int .i64 k ∧ y = .int .i64 ((x / 2 ^ k : Nat) : Int)) (fun _ i => n - (intOf i).toNat)
  case atStart => exact ⟨0, Nat.zero_le _, rfl, by simp⟩
  case round =>
    obtain ⟨k, hk, rfl, rfl⟩ := hrel
    have hb : x / 2 ^ k ≤ x := Nat.div_le_self _ _
    have hd := Lib.hid (div_step x k)
    have he := Lib.hid (bit_end x k)
    have hq : (0 : Int) ≤ ((x / 2 ^ k : Nat) : Int) := Int.natCast_nonneg _
    generalize hg : ((x / 2 ^ k : Nat) : Int) = q at *
    have hq2 : q ≤ 255 := by omega
    have HG := Lib.hid hg
    clear hg hb
    go_wp2
    · go_round
      case rel => exact ⟨k + 1, by omega, by go_num, by rw [hd.out]⟩
      case measure => simp [intOf]; omega
    · have hkn : k = n := by omega
      subst hkn
      go_ret
      exact ⟨by rw [← he.out]; rfl, rfl⟩

theorem bit_int (x : Nat) (n : Int) (hx : x < 256) (h0 : 0 ≤ n) (hn : n < 8) (w : World) :
    Calls Try.prog 20 #[.int .u8 x, .int .i64 n] w fun e w' => e = .returned (.bool (x.testBit n.toNat)) ∧ w = w' := by
  obtain ⟨m, rfl⟩ := Int.eq_ofNat_of_zero_le h0
  exact bit_any x m hx (by omega) w

theorem line_any (s d n : Nat) (hs : s < 256) (hd : d < 256) (hn : n < 4) (w : World) :
    Calls Try.prog 21 #[.agg #[.int .u8 s, .int .u8 d], .int .i64 n] w fun e w' => e = .returned (.bool (Joy.lineB s d n)) ∧ w.alloc (.cells #[.int .u8 s, .int .u8 d] 28) = w' := by
  have hl := Joy.line_eq s d n hn
  have e4 : ((n : Int) + 4).toNat = n + 4 := by omega
  have en : ((n : Int)).toNat = n := by omega
  cases h4 : s.testBit 4 <;> cases h5 : s.testBit 5
  all_goals
    rw [h4, h5] at hl
    have HL := Lib.hid hl
    clear hl
    cases h6 : d.testBit n <;> cases h7 : d.testBit (n + 4)
    all_goals
      have HL2 := HL.out
      rw [h6, h7] at HL2
      simp only [Bool.not_true, Bool.not_false, Bool.and_self, Bool.and_true, Bool.and_false] at HL2
      have HL3 := Lib.hid HL2
      clear HL HL2
      go_enter Try.func21, Try.ntmps21
      go_wp2_with (go_at_call 20; refine (bit_int _ _ (by omega) (by omega) (by omega) _).mono ?_; rintro e w1 ⟨rfl, rfl⟩)
      go_ret
      exact ⟨by rw [HL3.out]; rfl, rfl⟩

theorem line_int (s d : Nat) (n : Int) (hs : s < 256) (hd : d < 256) (h0 : 0 ≤ n) (hn : n < 4) (w : World) :
    Calls Try.prog 21 #[.agg #[.int .u8 s, .int .u8 d], .int .i64 n] w fun e w' => e = .returned (.bool (Joy.lineB s d n.toNat)) ∧ w.alloc (.cells #[.int .u8 s, .int .u8 d] 28) = w' := by
  obtain ⟨m, rfl⟩ := Int.eq_ofNat_of_zero_le h0
  exact line_any s d m hs hd (by omega) w

set_option maxHeartbeats 800000 in
theorem rread_any (s d : Nat) (hs : s < 256) (hd : d < 256) (w : World) :
    Calls Try.prog 14 #[.agg #[.int .u8 s, .int .u8 d]] w fun e w' => e = .returned (.int .u8 (Joy.readN s d : Nat)) ∧ Below w.heap.size w w' := by
  have HR := Lib.hid (Joy.read_base s d)
  have hb0 : Joy.baseN s = 192 + (if s.testBit 5 then 32 else 0) + (if s.testBit 4 then 16 else 0) := rfl
  cases h5 : s.testBit 5 <;> cases h4 : s.testBit 4
  all_goals
    rw [h5, h4] at hb0
    simp only [if_true, if_false, Bool.false_eq_true, Nat.add_zero, Nat.reduceAdd] at hb0
    have HB := Lib.hid hb0
    clear hb0
    go_enter Try.func14, Try.ntmps14
    go_wp2_with (go_at_call 20; refine (bit_int _ _ (by omega) (by omega) (by omega) _).mono ?_; rintro e w1 ⟨rfl, rfl⟩)
    go_loopw [3, 4, 5] (fun o v i wr => ∃ k : Nat, k ≤ 4 ∧ i = .int .i64 k ∧ v = .int .i64 ((2 ^ k : Nat) : Int) ∧ o = .int .i64 ((Joy.baseN s : Nat) + (Joy.accN s d k : Nat) : Int) ∧
        Below w.heap.size w wr ∧ w.heap.size < wr.heap.size ∧ wr.cell? ⟨w.heap.size, 0, none⟩ = some (.int .u8 s) ∧ wr.cell? ⟨w.heap.size, 1, none⟩ = some (.int .u8 d)) (fun _ _ i _ => 4 - (intOf i).toNat)
    case atStart => exact ⟨0, by omega, rfl, rfl, by rw [HB.out]; rfl, (Below.refl _ _).alloc (Nat.le_refl _) _, by simp, by simp [go_sem], by simp [go_sem]⟩
    case round =>
      obtain ⟨k, hk, rfl, rfl, rfl, hbl, hsz, hc0, hc1⟩ := hrel
      have en : ((k : Int)).toNat = k := by omega
      have hp := Joy.pow_le k hk
      have ha := Joy.acc_le s d k hk
      have hbs := Joy.baseN_le s
      have hacc : Joy.accN s d (k + 1) = Joy.accN s d k + if Joy.lineB s d k then 2 ^ k else 0 := rfl
      have HA := Lib.hid hacc
      have hpw : (2 : Nat) ^ (k + 1) = 2 ^ k * 2 := Nat.pow_succ ..
      have HP := Lib.hid hpw
      clear hacc hpw
      generalize hgp : (2 : Nat) ^ k = pk at *
      have HGP := Lib.hid hgp
      clear hgp
      by_cases hk4 : k < 4
      · cases hln : Joy.lineB s d k
        all_goals
          have HA2 := HA.out
          rw [hln] at HA2
          have HA3 := Lib.hid HA2
          clear HA HA2
          go_wp2_with (go_at_call 21; refine (line_int _ _ _ hs hd (by omega) (by omega) _).mono ?_; rintro e w1 ⟨rfl, rfl⟩)
          go_roundw
          case rel => exact ⟨k + 1, by omega, by go_num, by rw [HP.out]; go_num, by rw [HA3.out]; first | rfl | (simp; omega), by go_grown, by simp; omega, by simp [go_sem, hc0, hsz], by simp [go_sem, hc1, hsz]⟩
          case measure => simp [intOf]; omega
      · have hk5 : k = 4 := by omega
        subst hk5
        go_wp2
        go_ret
        exact ⟨free.ret_int (by rw [HR.out]; rfl), hbl⟩

theorem rwrite_any (s d x : Nat) (hx : x < 256) (w : World) :
    Calls Try.prog 13 #[.agg #[.int .u8 s, .int .u8 d], .int .u8 x] w fun e w' => e = .returned (.agg #[.int .u8 (Joy.askN x : Nat), .int .u8 d]) ∧ Below w.heap.size w w' := by
  go_enter Try.func13, Try.ntmps13
  go_wp2
  refine bodyPost_ret (by simp [results, Try.results13, go_sem]; try rfl) rfl ⟨by unfold Joy.askN; rfl, by go_grown⟩

set_option maxHeartbeats 800000 in
theorem rfalls_any (a b c d : Nat) (ha : a < 256) (hb : b < 256) (hc : c < 256) (hd : d < 256) (w : World) :
    Calls Try.prog 15 #[.agg #[.int .u8 a, .int .u8 b], .agg #[.int .u8 c, .int .u8 d]] w fun e w' => e = .returned (.bool (Joy.fallB (Joy.heldN a b) (Joy.heldN c d))) ∧ Below w.heap.size w w' := by
  go_enter Try.func15, Try.ntmps15
  go_wp2
  go_loopw [5] (fun i wr => ∃ k : Nat, k ≤ 4 ∧ i = .int .i64 k ∧ Hid (∀ n, n < k → Joy.fallsAt (Joy.heldN a b) (Joy.heldN c d) n = false) ∧
      Below w.heap.size w wr ∧ w.heap.size + 1 < wr.heap.size ∧ wr.cell? ⟨w.heap.size, 0, none⟩ = some (.int .u8 a) ∧ wr.cell? ⟨w.heap.size, 1, none⟩ = some (.int .u8 b) ∧
      wr.cell? ⟨w.heap.size + 1, 0, none⟩ = some (.int .u8 c) ∧ wr.cell? ⟨w.heap.size + 1, 1, none⟩ = some (.int .u8 d)) (fun i _ => 4 - (intOf i).toNat)
  case atStart => exact ⟨0, by omega, rfl, Lib.hid (fun n h => absurd h (by omega)), ((Below.refl _ _).alloc (Nat.le_refl _) _).alloc (by simp) _, by simp, by simp [go_sem], by simp [go_sem], by simp [go_sem], by simp [go_sem]⟩
  case round =>
    obtain ⟨k, hk, rfl, HN, hbl, hsz, ca, cb, cc, cd⟩ := hrel
    have hsz0 : w.heap.size < wr.heap.size := by omega
    have hsz1 : w.heap.size < wr.heap.size + 1 := by omega
    have hsz2 : w.heap.size + 1 < wr.heap.size + 1 := by omega
    have hle : w.heap.size ≤ wr.heap.size := by omega
    have hle1 : w.heap.size ≤ wr.heap.size + 1 := by omega
    have en : ((k : Int)).toNat = k := by omega
    by_cases hk4 : k < 4
    · have hf := Joy.falls_line a b c d k
      cases h1 : Joy.lineB a b k <;> cases h2 : Joy.lineB c d k
      all_goals
        rw [h1, h2] at hf
        have HF := Lib.hid hf
        clear hf
        go_wp2_with (go_at_call 21; refine (line_int _ _ _ (by assumption) (by assumption) (by omega) (by omega) _).mono ?_; rintro e w1 ⟨rfl, rfl⟩)
        first
          | (go_roundw
             case rel =>
               refine ⟨k + 1, by omega, by go_num, Lib.hid (fun n hn => ?_), ?_, ?_, ?_, ?_, ?_, ?_⟩
               · by_cases e : n = k
                 · subst e; exact HF.out
                 · exact HN.out n (by omega)
               · go_grown
               · simp; omega
               · simp [go_sem, *]
               · simp [go_sem, *]
               · simp [go_sem, *]
               · simp [go_sem, *]
             case measure => simp [intOf]; omega)
          | (go_ret
             refine ⟨?_, by go_grown⟩
             rw [Joy.fall_some hk4 HF.out]; rfl)
    · have hk5 : k = 4 := by omega
      subst hk5
      go_wp2
      go_ret
      exact ⟨by rw [Joy.fall_none HN.out]; rfl, hbl⟩
end Go.Proofs.Ytiafdnihgnjohaa
