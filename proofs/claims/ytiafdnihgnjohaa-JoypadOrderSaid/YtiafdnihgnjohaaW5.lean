/-
  The walks of At, the program's and the document's: which change is the last one up to an order's number. No conditions but that the slice reads as it does.
-/
import Derived.Test.YtiafdnihgnjohaaFree
import Derived.Handy
import Derived.LaidEqlPtr
namespace Go.Proofs.Ytiafdnihgnjohaa
open Go.RowKit Go.Sort
attribute [local go_sem] free.cell_old free.frozen_old free.u8_signed free.u8_max free.lt_plus
namespace Plan

def better (t : Nat → Nat) (n k : Nat) : Option Nat → Bool
  | none => decide (t k ≤ n)
  | some j => decide (t k ≤ n) && decide (t j ≤ t k)
/-- The last change up to n, among the first k. -/
def best (t : Nat → Nat) (n : Nat) : Nat → Option Nat
  | 0 => none
  | k + 1 => if better t n k (best t n k) = true then some k else best t n k
theorem best_lt (t : Nat → Nat) (n : Nat) : ∀ (k j : Nat), best t n k = some j → j < k
  | 0, _, h => by cases h
  | k + 1, j, h => by
    simp only [best] at h
    split at h
    · injection h with h; omega
    · have := best_lt t n k j h; omega
def keys (d : Nat → Nat) : Option Nat → Nat
  | none => 0
  | some j => d j
end Plan

/-- What a call reads of a slice of changes. -/
structure Changes (w : World) (A : Option Addr) (len : Nat) (t d : Nat → Nat) : Prop where
  at_ : ∀ k, k < len → ∃ b off, A = some ⟨b, off, none⟩ ∧ b < w.heap.size ∧ ∀ j, j < len → w.cell? ⟨b, off + j * 2, none⟩ = some (.int .u64 (t j : Nat)) ∧ w.cell? ⟨b, off + j * 2 + 1, none⟩ = some (.int .u8 (d j : Nat))
theorem Changes.below {w w' : World} {A : Option Addr} {len : Nat} {t d : Nat → Nat} (h : Changes w A len t d) (hb : Below w.heap.size w w') : Changes w' A len t d :=
  ⟨fun k hk => by
    obtain ⟨b, off, e, hlt, hc⟩ := h.at_ k hk
    exact ⟨b, off, e, Nat.lt_of_lt_of_le hlt hb.size, fun j hj => ⟨(hb.cell (p := ⟨b, _, none⟩) hlt).trans (hc j hj).1, (hb.cell (p := ⟨b, _, none⟩) hlt).trans (hc j hj).2⟩⟩⟩


def bestV (A : Option Addr) (o : Option Nat) : Value := match A, o with
  | some a, some j => .pointer (some ⟨a.block, a.off + j * 2, none⟩)
  | _, _ => .pointer none

set_option maxHeartbeats 4000000 in
theorem at_any (A : Option Addr) (len cap n : Nat) (t d : Nat → Nat) (hm : (len : Int) ≤ 9223372036854775807) (w : World) (hA : Changes w A len t d) :
    Calls Try.prog 16 #[.slice A len cap, .int .u64 n] w fun e w' => e = .returned (.int .u8 (Plan.keys d (Plan.best t n len) : Nat)) ∧ Below w.heap.size w w' := by
  have H := free.St.start w
  go_enter Try.func16, Try.ntmps16
  go_wp2
  have HA := Lib.hid hA
  clear hA
  go_loopw [5, 10] (fun p i wr => ∃ k : Nat, k ≤ len ∧ i = .int .i64 k ∧ p = bestV A (Plan.best t n k) ∧ free.St w wr []) (fun _ i _ => len - (intOf i).toNat)
  case atStart => exact ⟨0, by omega, rfl, by unfold bestV; cases A <;> rfl, H⟩
  case round =>
    clear H
    obtain ⟨k, hk, rfl, rfl, H⟩ := hrel
    have HC := HA.out.below H.below
    by_cases hkl : k < len
    · obtain ⟨b, off, rfl, hbB, hc⟩ := HC.at_ k hkl
      have hck := (hc k hkl).1
      have i0 : (0 : Int) ≤ (k : Int) := by omega
      have i1 : (k : Int) < (len : Int) := by omega
      have hst : Plan.best t n (k + 1) = if Plan.better t n k (Plan.best t n k) = true then some k else Plan.best t n k := rfl
      have hS : True := trivial
      cases hbest : Plan.best t n k with
      | none =>
        rw [hbest] at hst
        have e0 : bestV (some ⟨b, off, none⟩) none = .pointer none := rfl
        by_cases h1 : t k ≤ n
        · have HN : Hid (Plan.best t n (k + 1) = some k) := Lib.hid (by rw [hst]; simp [Plan.better, h1])
          clear hst
          go_wp2_with fail
          refine free.wp_region_old 20 (by kernel_rfl) (by kernel_rfl) ?_
          simp only [List.take_succ_cons, List.take_zero, List.drop_succ_cons, List.drop_zero]
          repeat (go_big_quiet_step (fail))
          refine wpQuiet_nil ?_
          intro wx hb
          have H := free.St.call (by repeat (first | exact H | apply free.St.alloc | apply free.St.drew)) hb
          have hS := H.has
          simp only [free.Has, free.cellsAt, World.size_alloc, World.size_drew, World.size_setCell, Nat.zero_add, Nat.reduceAdd, and_true] at hS
          go_wp2
          go_roundw
          case rel => exact ⟨k + 1, by omega, by go_num, by (rw [HN.out]; try rfl), H⟩
          case measure => simp [intOf]; omega
        · have HN : Hid (Plan.best t n (k + 1) = none) := Lib.hid (by rw [hst]; simp [Plan.better, h1])
          clear hst
          go_wp2_with fail
          refine free.wp_region_old 20 (by kernel_rfl) (by kernel_rfl) ?_
          simp only [List.take_succ_cons, List.take_zero, List.drop_succ_cons, List.drop_zero]
          repeat (go_big_quiet_step (fail))
          refine wpQuiet_nil ?_
          intro wx hb
          have H := free.St.call (by repeat (first | exact H | apply free.St.alloc | apply free.St.drew)) hb
          have hS := H.has
          simp only [free.Has, free.cellsAt, World.size_alloc, World.size_drew, World.size_setCell, Nat.zero_add, Nat.reduceAdd, and_true] at hS
          go_wp2
          go_roundw
          case rel => exact ⟨k + 1, by omega, by go_num, by (rw [HN.out]; try rfl), H⟩
          case measure => simp [intOf]; omega
      | some j =>
        rw [hbest] at hst
        have hj := Plan.best_lt t n k j hbest
        have hcj := (hc j (by omega)).1
        have e0 : bestV (some ⟨b, off, none⟩) (some j) = .pointer (some ⟨b, off + j * 2, none⟩) := rfl
        by_cases h1 : t k ≤ n
        · by_cases h2 : t j ≤ t k
          · have HN : Hid (Plan.best t n (k + 1) = some k) := Lib.hid (by rw [hst]; simp [Plan.better, h1, h2])
            clear hst
            go_wp2_with fail
            refine free.wp_region_old 20 (by kernel_rfl) (by kernel_rfl) ?_
            simp only [List.take_succ_cons, List.take_zero, List.drop_succ_cons, List.drop_zero]
            repeat (go_big_quiet_step (fail))
            refine wpQuiet_nil ?_
            intro wx hb
            have H := free.St.call (by repeat (first | exact H | apply free.St.alloc | apply free.St.drew)) hb
            have hS := H.has
            simp only [free.Has, free.cellsAt, World.size_alloc, World.size_drew, World.size_setCell, Nat.zero_add, Nat.reduceAdd, and_true] at hS
            go_wp2
            go_roundw
            case rel => exact ⟨k + 1, by omega, by go_num, by (rw [HN.out]; try rfl), H⟩
            case measure => simp [intOf]; omega
          · have HN : Hid (Plan.best t n (k + 1) = some j) := Lib.hid (by rw [hst]; simp [Plan.better, h1, h2])
            clear hst
            go_wp2_with fail
            refine free.wp_region_old 20 (by kernel_rfl) (by kernel_rfl) ?_
            simp only [List.take_succ_cons, List.take_zero, List.drop_succ_cons, List.drop_zero]
            repeat (go_big_quiet_step (fail))
            refine wpQuiet_nil ?_
            intro wx hb
            have H := free.St.call (by repeat (first | exact H | apply free.St.alloc | apply free.St.drew)) hb
            have hS := H.has
            simp only [free.Has, free.cellsAt, World.size_alloc, World.size_drew, World.size_setCell, Nat.zero_add, Nat.reduceAdd, and_true] at hS
            go_wp2
            go_roundw
            case rel => exact ⟨k + 1, by omega, by go_num, by (rw [HN.out]; try rfl), H⟩
            case measure => simp [intOf]; omega
        · have HN : Hid (Plan.best t n (k + 1) = some j) := Lib.hid (by rw [hst]; simp [Plan.better, h1])
          clear hst
          go_wp2_with fail
          refine free.wp_region_old 20 (by kernel_rfl) (by kernel_rfl) ?_
          simp only [List.take_succ_cons, List.take_zero, List.drop_succ_cons, List.drop_zero]
          repeat (go_big_quiet_step (fail))
          refine wpQuiet_nil ?_
          intro wx hb
          have H := free.St.call (by repeat (first | exact H | apply free.St.alloc | apply free.St.drew)) hb
          have hS := H.has
          simp only [free.Has, free.cellsAt, World.size_alloc, World.size_drew, World.size_setCell, Nat.zero_add, Nat.reduceAdd, and_true] at hS
          go_wp2
          go_roundw
          case rel => exact ⟨k + 1, by omega, by go_num, by (rw [HN.out]; try rfl), H⟩
          case measure => simp [intOf]; omega
    · have hk5 : k = len := by omega
      subst hk5
      cases hbest : Plan.best t n k with
      | none =>
        have e0 : bestV A none = .pointer none := by unfold bestV; cases A <;> rfl
        go_wp2
        go_ret
        exact ⟨by rw [hbest]; rfl, H.below⟩
      | some j =>
        have hj := Plan.best_lt t n k j hbest
        obtain ⟨b, off, rfl, hbB, hc⟩ := HC.at_ j hj
        have hcj := (hc j (by omega)).2
        have e0 : bestV (some ⟨b, off, none⟩) (some j) = .pointer (some ⟨b, off + j * 2, none⟩) := rfl
        go_wp2
        go_ret
        exact ⟨by rw [hbest]; rfl, H.below⟩

def idxI : Option Nat → Int
  | none => -1
  | some j => j

set_option maxHeartbeats 4000000 in
theorem rat_any (A : Option Addr) (len cap n : Nat) (t d : Nat → Nat) (hm : (len : Int) ≤ 9223372036854775807) (w : World) (hA : Changes w A len t d) :
    Calls Try.prog 17 #[.slice A len cap, .int .u64 n] w fun e w' => e = .returned (.int .u8 (Plan.keys d (Plan.best t n len) : Nat)) ∧ Below w.heap.size w w' := by
  have H := free.St.start w
  go_enter Try.func17, Try.ntmps17
  go_wp2
  have HA := Lib.hid hA
  clear hA
  go_loopw [5, 9] (fun p i wr => ∃ k : Nat, k ≤ len ∧ i = .int .i64 k ∧ p = .int .i64 (idxI (Plan.best t n k)) ∧ free.St w wr []) (fun _ i _ => len - (intOf i).toNat)
  case atStart => exact ⟨0, by omega, rfl, rfl, H⟩
  case round =>
    clear H
    obtain ⟨k, hk, rfl, rfl, H⟩ := hrel
    have HC := HA.out.below H.below
    by_cases hkl : k < len
    · obtain ⟨b, off, rfl, hbB, hc⟩ := HC.at_ k hkl
      have hck := (hc k hkl).1
      have i0 : (0 : Int) ≤ (k : Int) := by omega
      have i1 : (k : Int) < (len : Int) := by omega
      have hst : Plan.best t n (k + 1) = if Plan.better t n k (Plan.best t n k) = true then some k else Plan.best t n k := rfl
      have hS : True := trivial
      cases hbest : Plan.best t n k with
      | none =>
        rw [hbest] at hst
        have e0 : idxI none = -1 := rfl
        by_cases h1 : t k ≤ n
        · have HN : Hid (Plan.best t n (k + 1) = some k) := Lib.hid (by rw [hst]; simp [Plan.better, h1])
          clear hst
          go_wp2_with fail
          refine free.wp_region_old 23 (by kernel_rfl) (by kernel_rfl) ?_
          simp only [List.take_succ_cons, List.take_zero, List.drop_succ_cons, List.drop_zero]
          repeat (go_big_quiet_step (fail))
          refine wpQuiet_nil ?_
          intro wx hb
          have H := free.St.call (by repeat (first | exact H | apply free.St.alloc | apply free.St.drew)) hb
          have hS := H.has
          simp only [free.Has, free.cellsAt, World.size_alloc, World.size_drew, World.size_setCell, Nat.zero_add, Nat.reduceAdd, and_true] at hS
          go_wp2
          go_roundw
          case rel => exact ⟨k + 1, by omega, by go_num, by (rw [HN.out]; try rfl), H⟩
          case measure => simp [intOf]; omega
        · have HN : Hid (Plan.best t n (k + 1) = none) := Lib.hid (by rw [hst]; simp [Plan.better, h1])
          clear hst
          go_wp2_with fail
          refine free.wp_region_old 23 (by kernel_rfl) (by kernel_rfl) ?_
          simp only [List.take_succ_cons, List.take_zero, List.drop_succ_cons, List.drop_zero]
          repeat (go_big_quiet_step (fail))
          refine wpQuiet_nil ?_
          intro wx hb
          have H := free.St.call (by repeat (first | exact H | apply free.St.alloc | apply free.St.drew)) hb
          have hS := H.has
          simp only [free.Has, free.cellsAt, World.size_alloc, World.size_drew, World.size_setCell, Nat.zero_add, Nat.reduceAdd, and_true] at hS
          go_wp2
          go_roundw
          case rel => exact ⟨k + 1, by omega, by go_num, by (rw [HN.out]; try rfl), H⟩
          case measure => simp [intOf]; omega
      | some j =>
        rw [hbest] at hst
        have hj := Plan.best_lt t n k j hbest
        have hcj := (hc j (by omega)).1
        have e0 : idxI (some j) = (j : Int) := rfl
        have j0 : (0 : Int) ≤ (j : Int) := by omega
        have j1 : (j : Int) < (len : Int) := by omega
        have j2 : decide ((j : Int) < 0) = false := by rw [decide_eq_false_iff_not]; omega
        by_cases h1 : t k ≤ n
        · by_cases h2 : t j ≤ t k
          · have HN : Hid (Plan.best t n (k + 1) = some k) := Lib.hid (by rw [hst]; simp [Plan.better, h1, h2])
            clear hst
            go_wp2_with fail
            refine free.wp_region_old 23 (by kernel_rfl) (by kernel_rfl) ?_
            simp only [List.take_succ_cons, List.take_zero, List.drop_succ_cons, List.drop_zero]
            repeat (go_big_quiet_step (fail))
            refine wpQuiet_nil ?_
            intro wx hb
            have H := free.St.call (by repeat (first | exact H | apply free.St.alloc | apply free.St.drew)) hb
            have hS := H.has
            simp only [free.Has, free.cellsAt, World.size_alloc, World.size_drew, World.size_setCell, Nat.zero_add, Nat.reduceAdd, and_true] at hS
            go_wp2
            go_roundw
            case rel => exact ⟨k + 1, by omega, by go_num, by (rw [HN.out]; try rfl), H⟩
            case measure => simp [intOf]; omega
          · have HN : Hid (Plan.best t n (k + 1) = some j) := Lib.hid (by rw [hst]; simp [Plan.better, h1, h2])
            clear hst
            go_wp2_with fail
            refine free.wp_region_old 23 (by kernel_rfl) (by kernel_rfl) ?_
            simp only [List.take_succ_cons, List.take_zero, List.drop_succ_cons, List.drop_zero]
            repeat (go_big_quiet_step (fail))
            refine wpQuiet_nil ?_
            intro wx hb
            have H := free.St.call (by repeat (first | exact H | apply free.St.alloc | apply free.St.drew)) hb
            have hS := H.has
            simp only [free.Has, free.cellsAt, World.size_alloc, World.size_drew, World.size_setCell, Nat.zero_add, Nat.reduceAdd, and_true] at hS
            go_wp2
            go_roundw
            case rel => exact ⟨k + 1, by omega, by go_num, by (rw [HN.out]; try rfl), H⟩
            case measure => simp [intOf]; omega
        · have HN : Hid (Plan.best t n (k + 1) = some j) := Lib.hid (by rw [hst]; simp [Plan.better, h1])
          clear hst
          go_wp2_with fail
          refine free.wp_region_old 23 (by kernel_rfl) (by kernel_rfl) ?_
          simp only [List.take_succ_cons, List.take_zero, List.drop_succ_cons, List.drop_zero]
          repeat (go_big_quiet_step (fail))
          refine wpQuiet_nil ?_
          intro wx hb
          have H := free.St.call (by repeat (first | exact H | apply free.St.alloc | apply free.St.drew)) hb
          have hS := H.has
          simp only [free.Has, free.cellsAt, World.size_alloc, World.size_drew, World.size_setCell, Nat.zero_add, Nat.reduceAdd, and_true] at hS
          go_wp2
          go_roundw
          case rel => exact ⟨k + 1, by omega, by go_num, by (rw [HN.out]; try rfl), H⟩
          case measure => simp [intOf]; omega
    · have hk5 : k = len := by omega
      subst hk5
      cases hbest : Plan.best t n k with
      | none =>
        have e0 : idxI none = -1 := rfl
        go_wp2
        go_ret
        exact ⟨by rw [hbest]; rfl, H.below⟩
      | some j =>
        have hj := Plan.best_lt t n k j hbest
        obtain ⟨b, off, rfl, hbB, hc⟩ := HC.at_ j hj
        have hcj := (hc j (by omega)).2
        have e0 : idxI (some j) = (j : Int) := rfl
        go_wp2
        go_ret
        exact ⟨by rw [hbest]; rfl, H.below⟩
end Go.Proofs.Ytiafdnihgnjohaa
