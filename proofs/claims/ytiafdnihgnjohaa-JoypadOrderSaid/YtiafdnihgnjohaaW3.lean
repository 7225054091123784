/-
  The contracts of the keys at integers; awake; the walks of JoypadLines, JoypadFalls and JoypadTwice. Bytes are below 256; no other condition.
-/
import Derived.Test.YtiafdnihgnjohaaW1
import Derived.Test.YtiafdnihgnjohaaW2
namespace Go.Proofs.Ytiafdnihgnjohaa
open Go.RowKit Go.Sort
attribute [local go_sem] free.cell_old free.frozen_old free.u8_signed free.u8_max free.lt_plus

theorem read_int (s d : Int) (h1 : 0 ≤ s) (h2 : s < 256) (h3 : 0 ≤ d) (h4 : d < 256) (w : World) :
    Calls Try.prog 10 #[.agg #[.int .u8 s, .int .u8 d]] w fun e w' => e = .returned (.int .u8 (Joy.readN s.toNat d.toNat : Nat)) ∧ Below w.heap.size w w' := by
  obtain ⟨s, rfl⟩ := Int.eq_ofNat_of_zero_le h1
  obtain ⟨d, rfl⟩ := Int.eq_ofNat_of_zero_le h3
  exact read_any s d (by omega) (by omega) w
theorem press_int (s d x : Int) (h1 : 0 ≤ s) (h2 : s < 256) (h3 : 0 ≤ d) (h4 : d < 256) (h5 : 0 ≤ x) (h6 : x < 256) (w : World) :
    Calls Try.prog 11 #[.agg #[.int .u8 s, .int .u8 d], .int .u8 x] w fun e w' =>
      e = .returned (.tuple #[.agg #[.int .u8 s, .int .u8 x], .bool (Joy.fallB (Joy.heldN s.toNat d.toNat) (Joy.heldN s.toNat x.toNat))]) ∧ Below w.heap.size w w' := by
  obtain ⟨s, rfl⟩ := Int.eq_ofNat_of_zero_le h1
  obtain ⟨d, rfl⟩ := Int.eq_ofNat_of_zero_le h3
  obtain ⟨x, rfl⟩ := Int.eq_ofNat_of_zero_le h5
  exact press_any s d x (by omega) (by omega) (by omega) w
theorem write_int (s d x : Int) (h1 : 0 ≤ s) (h2 : s < 256) (h3 : 0 ≤ d) (h4 : d < 256) (h5 : 0 ≤ x) (h6 : x < 256) (w : World) :
    Calls Try.prog 12 #[.agg #[.int .u8 s, .int .u8 d], .int .u8 x] w fun e w' =>
      e = .returned (.tuple #[.agg #[.int .u8 (Joy.askN x.toNat : Nat), .int .u8 d], .bool (Joy.fallB (Joy.heldN s.toNat d.toNat) (Joy.heldN (Joy.askN x.toNat) d.toNat))]) ∧ Below w.heap.size w w' := by
  obtain ⟨s, rfl⟩ := Int.eq_ofNat_of_zero_le h1
  obtain ⟨d, rfl⟩ := Int.eq_ofNat_of_zero_le h3
  obtain ⟨x, rfl⟩ := Int.eq_ofNat_of_zero_le h5
  exact write_any s d x (by omega) (by omega) (by omega) w

theorem awake_any (w : World) : Calls Try.prog 9 #[] w fun e w' => e = .returned (.bool true) ∧ Below w.heap.size w w' := by
  have r1 : Joy.readN 16 16 = 222 := by decide +kernel
  have r2 : Joy.fallB (Joy.heldN 16 0) (Joy.heldN 16 16) = true := by decide +kernel
  go_enter Try.func9, Try.ntmps9
  go_wp2_with (first
    | (go_at_call 11; refine (press_int _ _ _ (by omega) (by omega) (by omega) (by omega) (by omega) (by omega) _).mono ?_; rintro e w1 ⟨rfl, hb⟩; obtain ⟨hc, hf, hz⟩ := free.bcell hb; have hB : Below w.heap.size w w1 := free.onward (by go_grown) hb)
    | (go_at_call 10; refine (read_int _ _ (by omega) (by omega) (by omega) (by omega) _).mono ?_; rintro e w2 ⟨rfl, hb2⟩; obtain ⟨hc2, hf2, hz2⟩ := free.bcell hb2; have hB2 : Below w.heap.size w w2 := free.onward (by go_grown) hb2))
  go_ret
  exact ⟨rfl, by go_grown⟩

theorem lines_walk (d : Int) (h1 : 0 ≤ d) (h2 : d < 256) (w : World) : Calls Try.prog 3 #[.int .u8 d] w fun e w' => e = .returned (.bool true) ∧ Below w.heap.size w w' := by
  obtain ⟨d, rfl⟩ := Int.eq_ofNat_of_zero_le h1
  have k1 := Joy.lines1 d (by omega)
  have k2 := Joy.lines2 d (by omega)
  have k3 := Joy.lines3 d (by omega)
  have k4 := Joy.lines4 d (by omega)
  go_enter Try.func3, Try.ntmps3
  go_wp2_with (first
    | (go_at_call 9; refine (awake_any _).mono ?_; rintro e w1 ⟨rfl, hb⟩; obtain ⟨hc, hf, hz⟩ := free.bcell hb; have hB : Below w.heap.size w w1 := free.onward (by go_grown) hb)
    | (go_at_call 10; refine (read_int _ _ (by omega) (by omega) (by omega) (by omega) _).mono ?_; rintro e w2 ⟨rfl, hb2⟩; obtain ⟨hc2, hf2, hz2⟩ := free.bcell hb2; have hB2 : Below w.heap.size w w2 := free.onward (by go_grown) hb2))
  go_ret
  exact ⟨rfl, by go_grown⟩

set_option maxHeartbeats 1000000 in
theorem falls_walk (s d u x : Nat) (hs : s < 256) (hd : d < 256) (hu : u < 256) (hx : x < 256) (w : World) :
    Calls Try.prog 5 #[.agg #[.int .u8 s, .int .u8 d], .int .u8 u, .int .u8 x] w fun e w' => e = .returned (.bool true) ∧ Below w.heap.size w w' := by
  have a1 := u8_and_nat d u hd hu
  have a2 : d &&& u < 256 := Nat.lt_of_le_of_lt Nat.and_le_left hd
  have k1 := Joy.falls_read s d s u
  have k2 := Joy.falls_read s d (Joy.askN x) d
  have k3 := Joy.falls_less s d u
  have b1 := Joy.askN_lt x
  have H := free.St.start w
  go_enter Try.func5, Try.ntmps5
  go_wp2_with (first
    | (go_at_call 9; refine (awake_any _).mono ?_; rintro e w1 ⟨rfl, hb⟩; have H := free.St.call (by repeat (first | exact H | apply free.St.alloc | apply free.St.drew)) hb; have hS := H.has; simp only [free.Has, free.cellsAt, World.size_alloc, World.size_drew, Nat.zero_add, Nat.reduceAdd, and_true] at hS)
    | (go_at_call 11; refine (press_int _ _ _ (by omega) (by omega) (by omega) (by omega) (by omega) (by omega) _).mono ?_; rintro e w1 ⟨rfl, hb⟩; have H := free.St.call (by repeat (first | exact H | apply free.St.alloc | apply free.St.drew)) hb; have hS := H.has; simp only [free.Has, free.cellsAt, World.size_alloc, World.size_drew, Nat.zero_add, Nat.reduceAdd, and_true] at hS)
    | (go_at_call 12; refine (write_int _ _ _ (by omega) (by omega) (by omega) (by omega) (by omega) (by omega) _).mono ?_; rintro e w1 ⟨rfl, hb⟩; have H := free.St.call (by repeat (first | exact H | apply free.St.alloc | apply free.St.drew)) hb; have hS := H.has; simp only [free.Has, free.cellsAt, World.size_alloc, World.size_drew, Nat.zero_add, Nat.reduceAdd, and_true] at hS)
    | (go_at_call 10; refine (read_int _ _ (by omega) (by omega) (by omega) (by omega) _).mono ?_; rintro e w1 ⟨rfl, hb⟩; have H := free.St.call (by repeat (first | exact H | apply free.St.alloc | apply free.St.drew)) hb; have hS := H.has; simp only [free.Has, free.cellsAt, World.size_alloc, World.size_drew, Nat.zero_add, Nat.reduceAdd, and_true] at hS))
  refine free.wp_region_old 24 (by kernel_rfl) (by kernel_rfl) ?_
  simp only [List.take_succ_cons, List.take_zero, List.drop_succ_cons, List.drop_zero]
  repeat (go_big_quiet_step (exact free.calls_old (read_int _ _ (by omega) (by omega) (by omega) (by omega) _)))
  refine wpQuiet_nil ?_
  intro w1 hb
  have H := free.St.call (by repeat (first | exact H | apply free.St.alloc | apply free.St.drew)) hb
  have hS := H.has
  simp only [free.Has, free.cellsAt, World.size_alloc, World.size_drew, Nat.zero_add, Nat.reduceAdd, and_true] at hS
  go_wp2
  go_ret
  exact ⟨rfl, (free.St.below (by repeat (first | exact H | apply free.St.alloc | apply free.St.drew)))⟩

set_option maxHeartbeats 1000000 in
theorem twice_walk (s d u x : Nat) (hs : s < 256) (hd : d < 256) (hu : u < 256) (hx : x < 256) (w : World) :
    Calls Try.prog 6 #[.agg #[.int .u8 s, .int .u8 d], .int .u8 u, .int .u8 x] w fun e w' => e = .returned (.bool true) ∧ Below w.heap.size w w' := by
  have k1 := Joy.falls_same (Joy.heldN s u)
  have k2 := Joy.falls_same (Joy.heldN (Joy.askN x) d)
  have k3 := Joy.held_none s
  have k4 := Joy.falls_none (Joy.heldN s u)
  have k5 := Joy.read_none s
  have k6 := Joy.ask_ask x
  have b1 := Joy.askN_lt x
  have H := free.St.start w
  go_enter Try.func6, Try.ntmps6
  go_wp2_with (first
    | (go_at_call 9; refine (awake_any _).mono ?_; rintro e w1 ⟨rfl, hb⟩; have H := free.St.call (by repeat (first | exact H | apply free.St.alloc | apply free.St.drew)) hb; have hS := H.has; simp only [free.Has, free.cellsAt, World.size_alloc, World.size_drew, Nat.zero_add, Nat.reduceAdd, and_true] at hS)
    | (go_at_call 11; refine (press_int _ _ _ (by omega) (by omega) (by omega) (by omega) (by omega) (by omega) _).mono ?_; rintro e w1 ⟨rfl, hb⟩; have H := free.St.call (by repeat (first | exact H | apply free.St.alloc | apply free.St.drew)) hb; have hS := H.has; simp only [free.Has, free.cellsAt, World.size_alloc, World.size_drew, Nat.zero_add, Nat.reduceAdd, and_true] at hS)
    | (go_at_call 12; refine (write_int _ _ _ (by omega) (by omega) (by omega) (by omega) (by omega) (by omega) _).mono ?_; rintro e w1 ⟨rfl, hb⟩; have H := free.St.call (by repeat (first | exact H | apply free.St.alloc | apply free.St.drew)) hb; have hS := H.has; simp only [free.Has, free.cellsAt, World.size_alloc, World.size_drew, Nat.zero_add, Nat.reduceAdd, and_true] at hS)
    | (go_at_call 10; refine (read_int _ _ (by omega) (by omega) (by omega) (by omega) _).mono ?_; rintro e w1 ⟨rfl, hb⟩; have H := free.St.call (by repeat (first | exact H | apply free.St.alloc | apply free.St.drew)) hb; have hS := H.has; simp only [free.Has, free.cellsAt, World.size_alloc, World.size_drew, Nat.zero_add, Nat.reduceAdd, and_true] at hS))
  go_ret
  exact ⟨rfl, (free.St.below (by repeat (first | exact H | apply free.St.alloc | apply free.St.drew)))⟩
end Go.Proofs.Ytiafdnihgnjohaa
