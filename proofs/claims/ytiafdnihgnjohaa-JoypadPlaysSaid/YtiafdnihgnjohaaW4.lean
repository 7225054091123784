/-
  The walk of JoypadPlays: whatever is asked and pressed, the program's keys are the document's. Bytes are below 256; no other condition.
-/
import Derived.Test.YtiafdnihgnjohaaW3
namespace Go.Proofs.Ytiafdnihgnjohaa
open Go.RowKit Go.Sort
attribute [local go_sem] free.cell_old free.frozen_old free.u8_signed free.u8_max free.lt_plus

/-- What the call reads of a slice of bytes. -/
structure Bytes (w : World) (A : Option Addr) (len : Nat) (zs : Nat → Nat) : Prop where
  at_ : ∀ k, k < len → ∃ b off, A = some ⟨b, off, none⟩ ∧ b < w.heap.size ∧ ∀ j, j < len → w.cell? ⟨b, off + j, none⟩ = some (.int .u8 (zs j : Nat))
  lt : ∀ k, zs k < 256

theorem rread_int (s d : Int) (h1 : 0 ≤ s) (h2 : s < 256) (h3 : 0 ≤ d) (h4 : d < 256) (w : World) :
    Calls Try.prog 14 #[.agg #[.int .u8 s, .int .u8 d]] w fun e w' => e = .returned (.int .u8 (Joy.readN s.toNat d.toNat : Nat)) ∧ Below w.heap.size w w' := by
  obtain ⟨s, rfl⟩ := Int.eq_ofNat_of_zero_le h1
  obtain ⟨d, rfl⟩ := Int.eq_ofNat_of_zero_le h3
  exact rread_any s d (by omega) (by omega) w
theorem rfalls_int (a b c d : Int) (h1 : 0 ≤ a) (h2 : a < 256) (h3 : 0 ≤ b) (h4 : b < 256) (h5 : 0 ≤ c) (h6 : c < 256) (h7 : 0 ≤ d) (h8 : d < 256) (w : World) :
    Calls Try.prog 15 #[.agg #[.int .u8 a, .int .u8 b], .agg #[.int .u8 c, .int .u8 d]] w fun e w' => e = .returned (.bool (Joy.fallB (Joy.heldN a.toNat b.toNat) (Joy.heldN c.toNat d.toNat))) ∧ Below w.heap.size w w' := by
  obtain ⟨a, rfl⟩ := Int.eq_ofNat_of_zero_le h1
  obtain ⟨b, rfl⟩ := Int.eq_ofNat_of_zero_le h3
  obtain ⟨c, rfl⟩ := Int.eq_ofNat_of_zero_le h5
  obtain ⟨d, rfl⟩ := Int.eq_ofNat_of_zero_le h7
  exact rfalls_any a b c d (by omega) (by omega) (by omega) (by omega) w
theorem rwrite_int (s d x : Int) (h3 : 0 ≤ d) (h5 : 0 ≤ x) (h6 : x < 256) (h1 : 0 ≤ s) (w : World) :
    Calls Try.prog 13 #[.agg #[.int .u8 s, .int .u8 d], .int .u8 x] w fun e w' => e = .returned (.agg #[.int .u8 (Joy.askN x.toNat : Nat), .int .u8 d]) ∧ Below w.heap.size w w' := by
  obtain ⟨s, rfl⟩ := Int.eq_ofNat_of_zero_le h1
  obtain ⟨d, rfl⟩ := Int.eq_ofNat_of_zero_le h3
  obtain ⟨x, rfl⟩ := Int.eq_ofNat_of_zero_le h5
  exact rwrite_any s d x (by omega) w

set_option maxHeartbeats 4000000 in
theorem plays_walk (s d : Nat) (hs : s < 256) (hd : d < 256) (A : Option Addr) (len cap : Nat) (zs : Nat → Nat) (hm : (len : Int) ≤ 9223372036854775807) (w : World) (hA : Bytes w A len zs) :
    Calls Try.prog 4 #[.agg #[.int .u8 s, .int .u8 d], .slice A len cap] w fun e w' => e = .returned (.bool true) ∧ Below w.heap.size w w' := by
  have H := free.St.start w
  by_cases hlen : 100 < len
  · go_enter Try.func4, Try.ntmps4
    go_wp2_with (go_at_call 9; refine (awake_any _).mono ?_; rintro e wx ⟨rfl, hb⟩; have H := free.St.call (by repeat (first | exact H | apply free.St.alloc | apply free.St.drew)) hb; have hS := H.has; simp only [free.Has, free.cellsAt, World.size_alloc, World.size_drew, World.size_setCell, Nat.zero_add, Nat.reduceAdd, and_true] at hS)
    go_ret
    exact ⟨rfl, (free.St.below (by repeat (first | exact H | apply free.St.alloc | apply free.St.drew)))⟩
  · go_enter Try.func4, Try.ntmps4
    go_wp2_with (go_at_call 9; refine (awake_any _).mono ?_; rintro e wx ⟨rfl, hb⟩; have H := free.St.call (by repeat (first | exact H | apply free.St.alloc | apply free.St.drew)) hb; have hS := H.has; simp only [free.Has, free.cellsAt, World.size_alloc, World.size_drew, World.size_setCell, Nat.zero_add, Nat.reduceAdd, and_true] at hS)
    obtain ⟨w1, rfl⟩ : ∃ w1, w1 = wx := ⟨_, rfl⟩
    have H0 : w.heap.size < w1.heap.size := hS.1
    have HA := Lib.hid hA
    clear hA
    go_loopw [20] (fun i wr => ∃ k s d : Nat, k ≤ len ∧ s < 256 ∧ d < 256 ∧ i = .int .i64 k ∧ free.St w wr [(w1.heap.size, [.int .u8 s, .int .u8 d]), (w.heap.size, [.int .u8 s, .int .u8 d])]) (fun i _ => len - (intOf i).toNat)
    case atStart => exact ⟨0, s, d, by omega, hs, hd, rfl, free.St.alloc H _ _⟩
    case round =>
      clear hS H hs hd
      obtain ⟨k, s, d, hk, hs, hd, rfl, H⟩ := hrel
      have hS := H.has
      simp only [free.Has, free.cellsAt, World.size_alloc, World.size_drew, Nat.zero_add, Nat.reduceAdd, and_true] at hS
      by_cases hkl : k < len
      · obtain ⟨b, off, rfl, hbB, hc⟩ := HA.out.at_ k hkl
        have hz := HA.out.lt k
        have hx := free.St.arg H hbB (hc k hkl)
        have i0 : (0 : Int) ≤ (k : Int) := by omega
        have i1 : (k : Int) < (len : Int) := by omega
        have z1 : w1.heap.size < wr.heap.size := hS.1.1
        by_cases hpar : (k : Int) % 2 = 0
        · go_wp2_with fail
          obtain ⟨fw, Hf⟩ : ∃ fw : World, Hid (fw = ((wr.alloc (.cells #[.int .u8 s, .int .u8 d] 28)).setCell ⟨w1.heap.size, 0, none⟩ (.int .u8 s)).setCell ⟨w1.heap.size, 1, none⟩ (.int .u8 (zs k : Nat))) := ⟨_, Lib.hid rfl⟩
          refine store.wp_region_save 10 9 fw (by decide) (by kernel_rfl) (by kernel_rfl) ?_
          simp only [List.take_succ_cons, List.take_zero, List.drop_succ_cons, List.drop_zero]
          repeat (
            refine store.walk_step (fun K hK => ?_)
            rw [if_pos (by rfl)]
            apply Exists.intro
            refine ⟨?_, hK _ ?_⟩
            · first
                | (apply store.step_store
                   · decide
                   intro w' hw
                   replace hw : Below _ _ w' := hw
                   obtain ⟨hc, hf, hz⟩ := free.bcell hw
                   go_simp
                   exact ⟨by unfold store.saved; rw [Hf.out]; exact store.below_set (store.below_set hw _ _) _ _, rfl⟩)
                | (apply store.step_ahead
                   · decide
                   · rfl
                   intro w' hw
                   replace hw : Below _ _ w' := hw
                   obtain ⟨hc, hf, hz⟩ := free.bcell hw
                   go_simp
                   first | exact ⟨hw, rfl⟩ | exact store.upon_call hw (press_int _ _ _ (by omega) (by omega) (by omega) (by omega) (by omega) (by omega) _))
                | (apply store.step_other
                   · decide
                   intro b w' hw
                   go_simp
                   exact ⟨hw, rfl⟩)
            clear hK K
            simp only [Act.put, List.setIfInBounds_toArray, List.set_cons_succ, List.set_cons_zero])
          intro wx hb
          rw [Hf.out] at hb
          clear Hf fw
          have e1 : w.heap.size ≠ w1.heap.size := by omega
          have e2 : wr.heap.size ≠ w1.heap.size := by omega
          have hle : w.heap.size ≤ w1.heap.size := by have := H0; omega
          have H := (((free.St.alloc H [.int .u8 s, .int .u8 d] 28).set (b := w1.heap.size) hle 0 (.int .u8 s)).set (b := w1.heap.size) hle 1 (.int .u8 (zs k : Nat))).call (hb.mono (by simp))
          simp [free.upd, e1, e2] at H
          clear hS hb
          have hS := H.has
          simp only [free.Has, free.cellsAt, World.size_alloc, World.size_drew, World.size_setCell, Nat.zero_add, Nat.reduceAdd, and_true] at hS
          have hx := free.St.arg H hbB (hc k hkl)
          go_wp2_with fail
          have H := H.set (b := w.heap.size) (Nat.le_refl _) 1 (.int .u8 (zs k : Nat))
          have e3 : wr.heap.size ≠ w.heap.size := by omega
          simp [free.upd, e1, e1.symm, e3] at H
          refine free.world (F := fun W => Code.wp _ _ _ _ W) H fun wy H => ?_
          clear hS
          have hS := H.has
          simp only [free.Has, free.cellsAt, World.size_alloc, World.size_drew, World.size_setCell, Nat.zero_add, Nat.reduceAdd, and_true] at hS
          refine free.wp_region_old 16 (by kernel_rfl) (by kernel_rfl) ?_
          simp only [List.take_succ_cons, List.take_zero, List.drop_succ_cons, List.drop_zero]
          repeat (go_big_quiet_step (first | exact free.calls_old (read_int _ _ (by omega) (by omega) (by omega) (by omega) _) | exact free.calls_old (rread_int _ _ (by omega) (by omega) (by omega) (by omega) _) | exact free.calls_old (rfalls_int _ _ _ _ (by omega) (by omega) (by omega) (by omega) (by omega) (by omega) (by omega) (by omega) _)))
          refine wpQuiet_nil ?_
          intro wx hb
          have H := free.St.call (by repeat (first | exact H | apply free.St.alloc | apply free.St.drew)) hb
          have hS := H.has
          simp only [free.Has, free.cellsAt, World.size_alloc, World.size_drew, World.size_setCell, Nat.zero_add, Nat.reduceAdd, and_true] at hS
          go_wp2
          go_roundw
          case rel => exact ⟨k + 1, s, zs k, by omega, hs, hz, by go_num, H.tail⟩
          case measure => simp [intOf]; omega
        · have hpar2 : ((k : Int) % 2 == 0) = false := by simpa using hpar
          have hask := Joy.askN_lt (zs k)
          go_wp2_with fail
          obtain ⟨fw, Hf⟩ : ∃ fw : World, Hid (fw = ((wr.alloc (.cells #[.int .u8 s, .int .u8 d] 28)).setCell ⟨w1.heap.size, 0, none⟩ (.int .u8 (Joy.askN (zs k) : Nat))).setCell ⟨w1.heap.size, 1, none⟩ (.int .u8 d)) := ⟨_, Lib.hid rfl⟩
          refine store.wp_region_save 10 9 fw (by decide) (by kernel_rfl) (by kernel_rfl) ?_
          simp only [List.take_succ_cons, List.take_zero, List.drop_succ_cons, List.drop_zero]
          repeat (
            refine store.walk_step (fun K hK => ?_)
            rw [if_pos (by rfl)]
            apply Exists.intro
            refine ⟨?_, hK _ ?_⟩
            · first
                | (apply store.step_store
                   · decide
                   intro w' hw
                   replace hw : Below _ _ w' := hw
                   obtain ⟨hc, hf, hz⟩ := free.bcell hw
                   go_simp
                   exact ⟨by unfold store.saved; rw [Hf.out]; exact store.below_set (store.below_set hw _ _) _ _, rfl⟩)
                | (apply store.step_ahead
                   · decide
                   · rfl
                   intro w' hw
                   replace hw : Below _ _ w' := hw
                   obtain ⟨hc, hf, hz⟩ := free.bcell hw
                   go_simp
                   first | exact ⟨hw, rfl⟩ | exact store.upon_call hw (write_int _ _ _ (by omega) (by omega) (by omega) (by omega) (by omega) (by omega) _))
                | (apply store.step_other
                   · decide
                   intro b w' hw
                   go_simp
                   exact ⟨hw, rfl⟩)
            clear hK K
            simp only [Act.put, List.setIfInBounds_toArray, List.set_cons_succ, List.set_cons_zero])
          intro wx hb
          rw [Hf.out] at hb
          clear Hf fw
          have e1 : w.heap.size ≠ w1.heap.size := by omega
          have e2 : wr.heap.size ≠ w1.heap.size := by omega
          have hle : w.heap.size ≤ w1.heap.size := by have := H0; omega
          have H := (((free.St.alloc H [.int .u8 s, .int .u8 d] 28).set (b := w1.heap.size) hle 0 (.int .u8 (Joy.askN (zs k) : Nat))).set (b := w1.heap.size) hle 1 (.int .u8 d)).call (hb.mono (by simp))
          simp [free.upd, e1, e2] at H
          clear hS hb
          have hS := H.has
          simp only [free.Has, free.cellsAt, World.size_alloc, World.size_drew, World.size_setCell, Nat.zero_add, Nat.reduceAdd, and_true] at hS
          have hx := free.St.arg H hbB (hc k hkl)
          go_wp2_with fail
          refine free.wp_region_old 6 (by kernel_rfl) (by kernel_rfl) ?_
          simp only [List.take_succ_cons, List.take_zero, List.drop_succ_cons, List.drop_zero]
          repeat (go_big_quiet_step (exact free.calls_old (rwrite_int _ _ _ (by omega) (by omega) (by omega) (by omega) _)))
          refine wpQuiet_nil ?_
          intro wx hb
          have H := free.St.call (by repeat (first | exact H | apply free.St.alloc | apply free.St.drew)) hb
          have hS := H.has
          simp only [free.Has, free.cellsAt, World.size_alloc, World.size_drew, World.size_setCell, Nat.zero_add, Nat.reduceAdd, and_true] at hS
          go_wp2_with fail
          have H := (H.set (b := w.heap.size) (Nat.le_refl _) 0 (.int .u8 (Joy.askN (zs k) : Nat))).set (b := w.heap.size) (Nat.le_refl _) 1 (.int .u8 d)
          have e3 : wr.heap.size ≠ w.heap.size := by omega
          simp [free.upd, e1, e1.symm, e3] at H
          refine free.world (F := fun W => Code.wp _ _ _ _ W) H fun wy H => ?_
          clear hS
          have hS := H.has
          simp only [free.Has, free.cellsAt, World.size_alloc, World.size_drew, World.size_setCell, Nat.zero_add, Nat.reduceAdd, and_true] at hS
          refine free.wp_region_old 16 (by kernel_rfl) (by kernel_rfl) ?_
          simp only [List.take_succ_cons, List.take_zero, List.drop_succ_cons, List.drop_zero]
          repeat (go_big_quiet_step (first | exact free.calls_old (read_int _ _ (by omega) (by omega) (by omega) (by omega) _) | exact free.calls_old (rread_int _ _ (by omega) (by omega) (by omega) (by omega) _) | exact free.calls_old (rfalls_int _ _ _ _ (by omega) (by omega) (by omega) (by omega) (by omega) (by omega) (by omega) (by omega) _)))
          refine wpQuiet_nil ?_
          intro wx hb
          have H := free.St.call (by repeat (first | exact H | apply free.St.alloc | apply free.St.drew)) hb
          have hS := H.has
          simp only [free.Has, free.cellsAt, World.size_alloc, World.size_drew, World.size_setCell, Nat.zero_add, Nat.reduceAdd, and_true] at hS
          go_wp2
          go_roundw
          case rel => exact ⟨k + 1, Joy.askN (zs k), d, by omega, hask, hd, by go_num, H.tail⟩
          case measure => simp [intOf]; omega
      · go_wp2_with fail
        refine free.wp_region_old 5 (by kernel_rfl) (by kernel_rfl) ?_
        simp only [List.take_succ_cons, List.take_zero, List.drop_succ_cons, List.drop_zero]
        repeat (go_big_quiet_step (first | exact free.calls_old (read_int _ _ (by omega) (by omega) (by omega) (by omega) _) | exact free.calls_old (rread_int _ _ (by omega) (by omega) (by omega) (by omega) _) | exact free.calls_old (rfalls_int _ _ _ _ (by omega) (by omega) (by omega) (by omega) (by omega) (by omega) (by omega) (by omega) _)))
        refine wpQuiet_nil ?_
        intro wx hb
        have H := free.St.call (by repeat (first | exact H | apply free.St.alloc | apply free.St.drew)) hb
        have hS := H.has
        simp only [free.Has, free.cellsAt, World.size_alloc, World.size_drew, World.size_setCell, Nat.zero_add, Nat.reduceAdd, and_true] at hS
        go_wp2
        go_ret
        exact ⟨rfl, H.below⟩
end Go.Proofs.Ytiafdnihgnjohaa
