/-
  The walk of JoypadPlans: of any plan the program's At is the document's. No conditions but that the slice reads as it does.
-/
import Derived.Test.YtiafdnihgnjohaaW3
import Derived.Test.YtiafdnihgnjohaaW5
namespace Go.Proofs.Ytiafdnihgnjohaa
open Go.RowKit Go.Sort
attribute [local go_sem] free.cell_old free.frozen_old free.u8_signed free.u8_max free.lt_plus
namespace Plan
def cells (t d : Nat → Nat) : Nat → List Value
  | 0 => []
  | k + 1 => cells t d k ++ [.int .u64 (t k : Nat), .int .u8 (d k : Nat)]
theorem cells_length (t d : Nat → Nat) : ∀ k, (cells t d k).length = k * 2
  | 0 => rfl
  | k + 1 => by simp only [cells, List.length_append, cells_length t d k]; simp; omega
theorem cells_at (t d : Nat → Nat) : ∀ k j, j < k → (cells t d k)[j * 2]? = some (.int .u64 (t j : Nat)) ∧ (cells t d k)[j * 2 + 1]? = some (.int .u8 (d j : Nat))
  | 0, _, h => absurd h (by omega)
  | k + 1, j, h => by
    have hl := cells_length t d k
    by_cases e : j < k
    · have := cells_at t d k j e
      simp only [cells]
      rw [List.getElem?_append_left (by omega), List.getElem?_append_left (by omega)]
      exact this
    · have e' : j = k := by omega
      subst e'
      simp only [cells]
      rw [List.getElem?_append_right (by omega), List.getElem?_append_right (by omega), hl]
      simp
end Plan

/-- An owned row of changes reads as these. -/
theorem Changes.of_own {w : World} {base : Nat} {A : Option Addr} {n c : Nat} {t d : Nat → Nat} (h : w.ownsRow base 41 2 (.slice A n c) n (Plan.cells t d n)) : Changes w A n t d := by
  refine ⟨fun k hk => ?_⟩
  rcases h.2 with ⟨_, h0⟩ | ⟨g, cap, cur, hv, _, hh, _⟩
  · omega
  · injection hv with hA _ _
    subst hA
    have hlt : g < w.heap.size := (h.lt g rfl).2
    refine ⟨g, 0, rfl, hlt, fun j hj => ?_⟩
    have hc := h.cells (g := g) rfl
    have ha := Plan.cells_at t d n j hj
    have h1 := hc _ _ ha.1
    have h2 := hc _ _ ha.2
    rw [Go.WideShapes.add_plain] at h1 h2
    exact ⟨h1, h2⟩
theorem Changes.of_row {w : World} {base : Nat} {v : Value} {n : Nat} {t d : Nat → Nat} (h : w.ownsRow base 41 2 v n (Plan.cells t d n)) : ∃ A c, v = .slice A n c ∧ Changes w A n t d := by
  rcases h.2 with ⟨rfl, h0⟩ | ⟨g, cap, cur, rfl, _⟩
  · subst h0
    exact ⟨none, 0, rfl, ⟨fun k hk => absurd hk (by omega)⟩⟩
  · exact ⟨_, _, rfl, Changes.of_own h⟩
theorem info41 : (Try.prog.info? 41).map (fun i => (i.zero, i.size, i.bytes)) = some (some (.agg #[.int .u64 0, .int .u8 0]), 2, 16) := by kernel_rfl


set_option maxHeartbeats 4000000 in
theorem plans_walk (A : Option Addr) (len cap n : Nat) (t d : Nat → Nat) (hm : (len : Int) ≤ 9223372036854775807) (w : World) (hA : Changes w A len t d) :
    Calls Try.prog 7 #[.slice A len cap, .int .u64 n] w fun e w' => e = .returned (.bool true) ∧ Below w.heap.size w w' := by
  have H := free.St.start w
  by_cases hlen : 100 < len
  · go_enter Try.func7, Try.ntmps7
    go_wp2_with (go_at_call 9; refine (awake_any _).mono ?_; rintro e wx ⟨rfl, hb⟩; have H := free.St.call (by repeat (first | exact H | apply free.St.alloc | apply free.St.drew)) hb; have hS := H.has; simp only [free.Has, free.cellsAt, World.size_alloc, World.size_drew, World.size_setCell, Nat.zero_add, Nat.reduceAdd, and_true] at hS)
    go_ret
    exact ⟨rfl, (free.St.below (by repeat (first | exact H | apply free.St.alloc | apply free.St.drew)))⟩
  · obtain ⟨i0, hi, hz0, hz1, hz2⟩ := info_parts info41
    have HA := Lib.hid hA
    clear hA
    go_enter Try.func7, Try.ntmps7
    go_wp2_with (go_at_call 9; refine (awake_any _).mono ?_; rintro e wx ⟨rfl, hb⟩; have H := free.St.call (by repeat (first | exact H | apply free.St.alloc | apply free.St.drew)) hb; have hS := H.has; simp only [free.Has, free.cellsAt, World.size_alloc, World.size_drew, World.size_setCell, Nat.zero_add, Nat.reduceAdd, and_true] at hS)
    go_loopw [5, 17] (fun v i wr => ∃ k : Nat, k ≤ len ∧ i = .int .i64 k ∧ wr.ownsRow w.heap.size 41 2 v k (Plan.cells t d k) ∧ Below w.heap.size w wr) (fun _ i _ => len - (intOf i).toNat)
    case atStart => exact ⟨0, by omega, rfl, World.ownsRow_nil _ _ _ _, H.below⟩
    case round =>
      clear hS H
      obtain ⟨k, hk, rfl, hown, hbl⟩ := hrel
      have HC := HA.out.below hbl
      by_cases hkl : k < len
      · obtain ⟨b, off, rfl, hbB, hc⟩ := HC.at_ k hkl
        have hck := (hc k hkl).1
        have hck2 := (hc k hkl).2
        have i0' : (0 : Int) ≤ (k : Int) := by omega
        have i1 : (k : Int) < (len : Int) := by omega
        have hsz : w.heap.size ≤ wr.heap.size := hbl.size
        go_wp2_with (at_builtin; refine wpList_append_own _ rfl _ _ 39 rfl w.heap.size 41 i0 (.agg #[.int .u64 0, .int .u8 0]) 2 16 Try.underlying39 hi hz0 hz1 hz2 rfl (by decide) _ _ _ rfl (hown.alloc _) ⟨wr.heap.size, 0, none⟩ 1 1 [.int .u64 (t k : Nat), .int .u8 (d k : Nat)] rfl rfl ?c1 ?c2 ?c3 ?c4 ?c5 ?_)
        case c1 =>
          intro j u hj
          rw [Go.WideShapes.add_plain]
          match j, hj with
          | 0, hj => simp at hj; subst hj; simp [go_sem]
          | 1, hj => simp at hj; subst hj; simp [go_sem]
          | j + 2, hj => simp at hj
        case c2 => intro u hu; simp at hu; rcases hu with rfl | rfl <;> rfl
        case c3 => unfold maxLen; omega
        case c4 => omega
        case c5 => simp; omega
        intro v' w1 hown' hgrow _
        have hb1 : Below w.heap.size w w1 := (hbl.alloc hsz _).grown hgrow (by simp; omega) (fun g hg => (hown.lt g hg).1)
        clear hown
        go_wp2
        go_roundw
        case rel => exact ⟨k + 1, by omega, by go_num, hown', hb1⟩
        case measure => simp [intOf]; omega
      · have hk5 : k = len := by omega
        subst hk5
        obtain ⟨A', c', e, hq⟩ := Changes.of_row hown
        subst e
        clear hown
        · go_wp2_with (first
            | (go_at_call 16; refine (at_any _ _ _ _ _ _ hm _ hq).mono ?_; rintro e wx ⟨rfl, hb⟩)
            | (go_at_call 17; refine (rat_any _ _ _ _ _ _ hm _ (HC.below hb)).mono ?_; rintro e wy ⟨rfl, hb2⟩))
          go_ret
          exact ⟨by simp, free.onward (free.onward hbl hb) hb2⟩
end Go.Proofs.Ytiafdnihgnjohaa
