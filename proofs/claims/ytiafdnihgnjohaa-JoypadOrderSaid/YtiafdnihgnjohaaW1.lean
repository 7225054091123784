/-
  Walks of the program's keys (held, Read, change, Press, Write): each comes to the plain functions of Plain. Bytes are below 256; no other condition.
-/
import Derived.Test.YtiafdnihgnjohaaKit
import Derived.Test.YtiafdnihgnjohaaPlain
import Derived.Deep.QuietTactic
import Derived.BigQuiet
import Derived.Deep.RegionHeld3
import Derived.Deep.DrawnRows
import Derived.Handy
import Derived.Test.YtiafdnihgnjohaaStore
namespace Go.Proofs.Ytiafdnihgnjohaa
open Go.RowKit Go.Sort
attribute [local go_sem ↓] Go.wp_at_zero Go.wp_at_succ

theorem ret_int {k : IntKind} {a b : Int} (h : a = b) : Ending.returned (.int k a) = .returned (.int k b) := by rw [h]

set_option maxHeartbeats 400000 in
theorem held_any (s d : Nat) (hs : s < 256) (hd : d < 256) (w : World) :
    Calls Try.prog 18 #[.agg #[.int .u8 s, .int .u8 d]] w fun e w' => e = .returned (.int .u8 (Joy.heldN s d : Nat)) ∧ Below w.heap.size w w' := by
  have k4 := Joy.t16 s hs
  have k5 := Joy.t32 s hs
  have c11 := Joy.h11 d hd
  have c10 := Joy.h10 d hd
  have c01 := Joy.h01 d hd
  cases h4 : s.testBit 4 <;> cases h5 : s.testBit 5
  all_goals
    rw [h4] at k4
    rw [h5] at k5
    simp only [Bool.not_false, Bool.not_true] at k4 k5
    have e := Joy.held_eq (d := d) h4 h5
    simp only [if_true, if_false, Bool.false_eq_true, Nat.or_zero, Nat.zero_or, Nat.or_self] at e
    have E := Lib.hid e
    clear e h4 h5
    go_enter Try.func18, Try.ntmps18
    go_wp2
    go_ret
    refine ⟨ret_int ?_, by go_grown⟩
    rw [E.out]
    first | exact c11 | exact c10 | exact c01 | rfl

attribute [local go_sem] free.cell_old free.frozen_old free.u8_signed free.u8_max

set_option maxHeartbeats 400000 in
theorem read_any (s d : Nat) (hs : s < 256) (hd : d < 256) (w : World) :
    Calls Try.prog 10 #[.agg #[.int .u8 s, .int .u8 d]] w fun e w' => e = .returned (.int .u8 (Joy.readN s d : Nat)) ∧ Below w.heap.size w w' := by
  have c := Joy.read_eq s hs (Joy.heldN s d) (Joy.heldN_lt s d)
  have hh := Joy.heldN_lt s d
  have C := Lib.hid c
  clear c
  go_enter Try.func10, Try.ntmps10
  go_wp2_with fail
  refine free.wp_region_old 9 (by kernel_rfl) (by kernel_rfl) ?_
  simp only [List.take_succ_cons, List.take_zero, List.drop_succ_cons, List.drop_zero]
  repeat (go_big_quiet_step (exact free.calls_old (held_any _ _ (by omega) (by omega) _)))
  refine wpQuiet_nil ?_
  intro w1 hb
  go_wp2
  go_ret
  exact ⟨free.ret_int C.out, ((Below.refl _ _).alloc (Nat.le_refl _) _).trans (hb.mono (by simp))⟩

set_option maxHeartbeats 800000 in
theorem change_any (s d t u : Nat) (hs : s < 256) (hd : d < 256) (ht : t < 256) (hu : u < 256) (w : World) :
    Calls Try.prog 19 #[.agg #[.int .u8 s, .int .u8 d], .agg #[.int .u8 t, .int .u8 u]] w fun e w' =>
      e = .returned (.tuple #[.agg #[.int .u8 t, .int .u8 u], .bool (Joy.fallB (Joy.heldN s d) (Joy.heldN t u))]) ∧ Below w.heap.size w w' := by
  have c := Joy.fall_eq (Joy.heldN s d) (Joy.heldN_lt s d) (Joy.heldN t u) (Joy.heldN_lt t u)
  go_enter Try.func19, Try.ntmps19
  go_wp2_with fail
  obtain ⟨fw, Hf⟩ : ∃ fw : World, Hid (fw = ((w.alloc (.cells #[.int .u8 s, .int .u8 d] 24)).alloc (.cells #[.int .u8 t, .int .u8 u] 24)).alloc (.cells #[.int .u8 t, .int .u8 u] 24)) := ⟨_, Lib.hid rfl⟩
  refine store.wp_region_save 8 7 fw (by decide) (by kernel_rfl) (by kernel_rfl) ?_
  simp only [List.take_succ_cons, List.take_zero, List.drop_succ_cons, List.drop_zero]
  repeat (
    refine store.walk_step (fun K hK => ?_)
    rw [if_pos (by rfl)]
    apply Exists.intro
    refine ⟨?_, hK _ ?_⟩
    · first
        | (apply store.step_store
           · decide
           intro w' hw
           replace hw : Below _ _ w' := hw
           obtain ⟨hc, hf, hz⟩ := free.bcell hw
           go_simp
           exact ⟨by unfold store.saved; rw [Hf.out]; exact (by simpa [go_sem] using store.below_set (store.below_set hw ⟨w.heap.size + 1 + 1, 0, none⟩ (.int .u8 t)) ⟨w.heap.size + 1 + 1, 1, none⟩ (.int .u8 u)), rfl⟩)
        | (apply store.step_ahead
           · decide
           · rfl
           intro w' hw
           replace hw : Below _ _ w' := hw
           obtain ⟨hc, hf, hz⟩ := free.bcell hw
           go_simp
           first | exact ⟨hw, rfl⟩ | exact store.upon_call hw (held_any _ _ (by omega) (by omega) _))
        | (apply store.step_other
           · decide
           intro b w' hw
           go_simp
           exact ⟨hw, rfl⟩)
    clear hK K
    simp only [Act.put, List.setIfInBounds_toArray, List.set_cons_succ, List.set_cons_zero])
  intro wx hb
  rw [Hf.out] at hb
  clear Hf fw
  simp only [World.size_alloc] at hb
  have hb : Below (((w.alloc (.cells #[.int .u8 s, .int .u8 d] 24)).alloc (.cells #[.int .u8 t, .int .u8 u] 24)).alloc (.cells #[.int .u8 t, .int .u8 u] 24)).heap.size _ wx := hb.mono (by simp)
  obtain ⟨hc, hf, hz⟩ := free.bcell hb
  go_wp2
  refine bodyPost_ret (by simp [results, Try.results19, go_sem, hc]; try rfl) rfl ⟨rfl, ?_⟩
  exact ((((Below.refl _ _).alloc (Nat.le_refl _) _).alloc (by simp) _).alloc (by simp; omega) _).trans (hb.mono (by simp; omega))

set_option maxHeartbeats 400000 in
theorem press_any (s d x : Nat) (hs : s < 256) (hd : d < 256) (hx : x < 256) (w : World) :
    Calls Try.prog 11 #[.agg #[.int .u8 s, .int .u8 d], .int .u8 x] w fun e w' =>
      e = .returned (.tuple #[.agg #[.int .u8 s, .int .u8 x], .bool (Joy.fallB (Joy.heldN s d) (Joy.heldN s x))]) ∧ Below w.heap.size w w' := by
  go_enter Try.func11, Try.ntmps11
  go_wp2_with (go_at_call 19; refine (change_any _ _ _ _ hs hd hs hx _).mono ?_; rintro e w1 ⟨rfl, hb⟩; obtain ⟨hc, hf, hz⟩ := free.bcell hb; have hB : Below w.heap.size w w1 := Below.trans (by go_grown) (hb.mono (by go_size)))
  refine bodyPost_ret (by simp [results, Try.results11, go_sem, hc]; try rfl) rfl ⟨rfl, by go_grown⟩

set_option maxHeartbeats 400000 in
theorem write_any (s d x : Nat) (hs : s < 256) (hd : d < 256) (hx : x < 256) (w : World) :
    Calls Try.prog 12 #[.agg #[.int .u8 s, .int .u8 d], .int .u8 x] w fun e w' =>
      e = .returned (.tuple #[.agg #[.int .u8 (Joy.askN x : Nat), .int .u8 d], .bool (Joy.fallB (Joy.heldN s d) (Joy.heldN (Joy.askN x) d))]) ∧ Below w.heap.size w w' := by
  have k := Joy.ask_eq x hx
  have k2 := Joy.askN_lt x
  go_enter Try.func12, Try.ntmps12
  go_wp2_with (go_at_call 19; refine (change_any _ _ _ _ hs hd k2 hd _).mono ?_; rintro e w1 ⟨rfl, hb⟩; obtain ⟨hc, hf, hz⟩ := free.bcell hb; have hB : Below w.heap.size w w1 := Below.trans (by go_grown) (hb.mono (by go_size)))
  refine bodyPost_ret (by simp [results, Try.results12, go_sem, hc]; try rfl) rfl ⟨rfl, by go_grown⟩
end Go.Proofs.Ytiafdnihgnjohaa
