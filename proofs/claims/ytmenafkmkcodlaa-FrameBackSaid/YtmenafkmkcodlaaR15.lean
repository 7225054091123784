/-
  The plain law of frames of which a bit is another one. Conditions stand in each theorem.
-/
import Derived.Test.YtmenafkmkcodlaaR12
namespace Go.Proofs.Ytmenafkmkcodlaa
open Go.RowKit sym
set_option linter.unusedVariables false
set_option linter.unusedSimpArgs false
theorem set_split {L : List Int} {j : Nat} (h : j < L.length) (v : Int) : L.set j v = L.take j ++ v :: L.drop (j + 1) ∧ L = L.take j ++ L.getD j 0 :: L.drop (j + 1) := by
  constructor
  · rw [List.set_eq_take_append_cons_drop, if_pos h]
  · rw [List.getD_eq_getElem?_getD, List.getElem?_eq_getElem h, Option.getD_some, ← List.drop_eq_getElem_cons h, List.take_append_drop]
theorem crcL_set_ne {L : List Int} (hB : Bs L) {j : Nat} (h : j < L.length) {v : Int} (hv : B v) (hne : v ≠ L.getD j 0) : crcL (L.set j v) ≠ crcL L := fun e => by
  obtain ⟨e1, e2⟩ := set_split h v
  rw [e1] at e
  have e3 : crcL L = crcL (L.take j ++ L.getD j 0 :: L.drop (j + 1)) := congrArg crcL e2
  rw [e3] at e
  exact crcL_ne_one _ _ hv (hB j) hne e
theorem getD_set {L : List Int} {p q : Nat} {v : Int} (h : p ≠ q) : (L.set p v).getD q 0 = L.getD q 0 := by
  rw [List.getD_eq_getElem?_getD, List.getElem?_set_ne h, ← List.getD_eq_getElem?_getD]
theorem getD_set_eq {L : List Int} {p : Nat} {v : Int} (h : p < L.length) : (L.set p v).getD p 0 = v := by
  rw [List.getD_eq_getElem?_getD, List.getElem?_set_self h, Option.getD_some]
theorem enc_parts {s : Int} {X : List Int} {n : Nat} (hl : X.length = n) : (encX s X).getD 0 0 = 165 ∧ (encX s X).getD 2 0 = (n : Int) ∧ (encX s X).getD (n + 3) 0 = crcL (s :: (n : Int) :: X) / 256 ∧ (encX s X).getD (n + 4) 0 = crcL (s :: (n : Int) :: X) % 256 ∧ ((encX s X).drop 1).take (n + 2) = s :: (n : Int) :: X := by
  subst hl
  refine ⟨rfl, rfl, ?_, ?_, ?_⟩
  · unfold encX
    rw [List.getD_eq_getElem?_getD, List.getElem?_append_right (by simp)]
    simp [show X.length + 3 - (X.length + 3) = 0 by omega]
  · unfold encX
    rw [List.getD_eq_getElem?_getD, List.getElem?_append_right (by simp)]
    simp [show X.length + 4 - (X.length + 3) = 1 by omega]
  · unfold encX
    show (([s, (X.length : Int)] ++ X) ++ _).take (X.length + 2) = _
    rw [List.take_append_of_le_length (by simp), List.take_of_length_le (by simp)]
    rfl
theorem spoilt_law {s : Int} {X : List Int} {n p : Nat} {v : Int} (hl : X.length = n) (hn : n ≤ 64) (hs : B s) (hb : Bs X) (hp : 3 ≤ p) (hp2 : p < n + 5) (hv : B v) (hne : v ≠ (encX s X).getD p 0) : 1 ≤ (scanL ((encX s X).set p v)).2.1 := by
  obtain ⟨g0, g2, g3, g4, gd⟩ := enc_parts (s := s) hl
  have hel : (encX s X).length = n + 5 := by rw [encX_length, hl]
  have hBc : Bs (s :: (n : Int) :: X) := Bs.cons hs (Bs.cons ⟨by omega, by omega⟩ hb)
  obtain ⟨k0, k1⟩ := crcL_W (s :: (n : Int) :: X)
  generalize hb' : (encX s X).set p v = b at *
  have bl : b.length = n + 5 := by rw [← hb', List.length_set, hel]
  have b0 : b.getD 0 0 = 165 := by rw [← hb', getD_set (by omega), g0]
  have b2 : whN b = n := by unfold whN; rw [← hb', getD_set (by omega), g2, Int.toNat_natCast]
  have hok : okF b = false := by
    unfold okF
    rw [b2, show n + 3 = n + 3 from rfl]
    by_cases h : p < n + 3
    · have e1 : (b.drop 1).take (n + 2) = (s :: (n : Int) :: X).set (p - 1) v := by
        rw [← gd, ← hb', List.drop_set, if_neg (by omega), List.take_set]
      have e3 : b.getD (n + 3) 0 = crcL (s :: (n : Int) :: X) / 256 := by rw [← hb', getD_set (by omega), g3]
      have e4 : b.getD (n + 4) 0 = crcL (s :: (n : Int) :: X) % 256 := by rw [← hb', getD_set (by omega), g4]
      have e5 : (s :: (n : Int) :: X).getD (p - 1) 0 = (encX s X).getD p 0 := by
        rw [← gd, List.getD_eq_getElem?_getD, List.getElem?_take, if_pos (by omega), List.getElem?_drop, ← List.getD_eq_getElem?_getD, show 1 + (p - 1) = p by omega]
      have := crcL_set_ne hBc (j := p - 1) (by simp; omega) hv (by rw [e5]; exact hne)
      rw [e1, e3, e4]
      have e6 : crcL (s :: (n : Int) :: X) / 256 * 256 + crcL (s :: (n : Int) :: X) % 256 = crcL (s :: (n : Int) :: X) := by omega
      rw [e6]
      exact beq_eq_false_iff_ne.2 this
    · have e1 : (b.drop 1).take (n + 2) = s :: (n : Int) :: X := by
        rw [← gd, ← hb', List.drop_set, if_neg (by omega), List.take_set, List.set_eq_of_length_le (by rw [List.length_take, List.length_drop]; omega)]
      rw [e1]
      apply beq_eq_false_iff_ne.2
      obtain ⟨v0, v1⟩ := hv
      by_cases h3 : p = n + 3
      · have e3 : b.getD (n + 3) 0 = v := by rw [← hb', h3, getD_set_eq (by omega)]
        have e4 : b.getD (n + 4) 0 = crcL (s :: (n : Int) :: X) % 256 := by rw [← hb', getD_set (by omega), g4]
        rw [h3, g3] at hne
        rw [e3, e4]
        omega
      · have h4 : p = n + 4 := by omega
        have e3 : b.getD (n + 3) 0 = crcL (s :: (n : Int) :: X) / 256 := by rw [← hb', getD_set (by omega), g3]
        have e4 : b.getD (n + 4) 0 = v := by rw [← hb', h4, getD_set_eq (by omega)]
        rw [h4, g4] at hne
        rw [e3, e4]
        omega
  have hat : atL b = 0 := by
    unfold atL
    rw [if_pos b0]
    unfold whL
    rw [b2, hok, if_neg (by omega), if_neg (by omega), if_neg (by omega)]
    rfl
  have hne' : b ≠ [] := by intro e; rw [e] at bl; simp at bl
  rw [scan_0 hne' hat]
  simp only
  omega
theorem two_bytes (a : BitVec 16) {y z y1 z1 : Int} (hy : up y1 = up y ^^^ up 1) (hz : up z1 = up z ^^^ up 128) : byteB (byteB a y1) z1 ≠ byteB (byteB a y) z := fun e => by
  have e1 := byteB_inj e
  have e2 : byteB a y1 = byteB a y ^^^ byteB 0#16 1 := by
    have := byteB_xor (a := a) (b := 0#16) hy
    rwa [BitVec.xor_zero] at this
  rw [e2, hz] at e1
  have c : ∀ p q : BitVec 16, (p ^^^ q) ^^^ p = q := fun p q => by rw [BitVec.xor_comm p q, BitVec.xor_assoc, BitVec.xor_self, BitVec.xor_zero]
  rw [c, c] at e1
  exact absurd e1 (by decide +kernel)
theorem crcL_pair_ne {P Q : List Int} {y z y1 z1 : Int} (hy : up y1 = up y ^^^ up 1) (hz : up z1 = up z ^^^ up 128) : crcL (P ++ y1 :: z1 :: Q) ≠ crcL (P ++ y :: z :: Q) := fun e => by
  have e := I_inj e
  rw [crcB_append, crcB_append] at e
  have e : crcB (byteB (byteB (crcB 0xffff#16 P) y1) z1) Q = crcB (byteB (byteB (crcB 0xffff#16 P) y) z) Q := e
  exact crcB_ne (two_bytes (crcB 0xffff#16 P) hy hz) Q e
/-- One bit, and two next to each other in one byte. -/
theorem bit_facts : ∀ (t : Fin 8) (x : Fin 256), bits .xor .u8 ((x.val : Nat) : Int) (Int.fdiv 128 ((2 : Int) ^ min t.val 8)) ≠ ((x.val : Nat) : Int) ∧ bits .xor .u8 ((x.val : Nat) : Int) (IntKind.u8.wrap ((1 : Int) * (2 : Int) ^ min t.val 8)) ≠ ((x.val : Nat) : Int) ∧
    (t.val < 7 → bits .xor .u8 (bits .xor .u8 ((x.val : Nat) : Int) (Int.fdiv 128 ((2 : Int) ^ min t.val 8))) (Int.fdiv 128 ((2 : Int) ^ min (t.val + 1) 8)) ≠ ((x.val : Nat) : Int)) := by decide +kernel
theorem mask_facts : ∀ t : Fin 8, B (Int.fdiv 128 ((2 : Int) ^ min t.val 8)) ∧ B (IntKind.u8.wrap ((1 : Int) * (2 : Int) ^ min t.val 8)) := by decide +kernel
theorem bit_ne {x : Int} (hx : B x) {t : Nat} (ht : t < 8) : bits .xor .u8 x (Int.fdiv 128 ((2 : Int) ^ min t 8)) ≠ x ∧ bits .xor .u8 x (IntKind.u8.wrap ((1 : Int) * (2 : Int) ^ min t 8)) ≠ x ∧ (t < 7 → bits .xor .u8 (bits .xor .u8 x (Int.fdiv 128 ((2 : Int) ^ min t 8))) (Int.fdiv 128 ((2 : Int) ^ min (t + 1) 8)) ≠ x) := by
  have := bit_facts ⟨t, ht⟩ ⟨x.toNat, by have := hx.1; have := hx.2; omega⟩
  simp only at this
  rwa [Int.toNat_of_nonneg hx.1] at this
theorem bit_B {x : Int} (hx : B x) {t : Nat} (ht : t < 8) : B (bits .xor .u8 x (Int.fdiv 128 ((2 : Int) ^ min t 8))) ∧ B (bits .xor .u8 x (IntKind.u8.wrap ((1 : Int) * (2 : Int) ^ min t 8))) :=
  ⟨(up_xor hx (mask_facts ⟨t, ht⟩).1).2, (up_xor hx (mask_facts ⟨t, ht⟩).2).2⟩
/-- A place of a row, another bit there. -/
def flip (X : List Int) (k : Nat) : List Int := X.set (k / 8) (bits .xor .u8 (X.getD (k / 8) 0) (Int.fdiv 128 ((2 : Int) ^ min (k % 8) 8)))
theorem flip_len (X : List Int) (k : Nat) : (flip X k).length = X.length := List.length_set ..
theorem flip_B {X : List Int} (h : Bs X) (k : Nat) : Bs (flip X k) := h.set _ (bit_B (h (k / 8)) (t := k % 8) (Nat.mod_lt k (by decide))).1
theorem flip_one {X : List Int} (h : Bs X) {k : Nat} (hk : k < 8 * X.length) : crcL (flip X k) ≠ crcL X := by
  have hj : k / 8 < X.length := by omega
  unfold flip
  exact crcL_set_ne h (j := k / 8) hj (bit_B (h (k / 8)) (t := k % 8) (Nat.mod_lt k (by decide))).1 (bit_ne (h (k / 8)) (t := k % 8) (Nat.mod_lt k (by decide))).1
theorem flip_two {X : List Int} (h : Bs X) {k : Nat} (hk : k + 1 < 8 * X.length) : crcL (flip (flip X k) (k + 1)) ≠ crcL X := by
  by_cases ht : k % 8 < 7
  · have e1 : (k + 1) / 8 = k / 8 := by omega
    have e2 : (k + 1) % 8 = k % 8 + 1 := by omega
    have e3 : flip (flip X k) (k + 1) = X.set (k / 8) (bits .xor .u8 (bits .xor .u8 (X.getD (k / 8) 0) (Int.fdiv 128 ((2 : Int) ^ min (k % 8) 8))) (Int.fdiv 128 ((2 : Int) ^ min (k % 8 + 1) 8))) := by
      unfold flip
      rw [e1, e2, getD_set_eq (by omega), List.set_set]
    rw [e3]
    exact crcL_set_ne h (j := k / 8) (by omega) (up_xor (bit_B (h (k / 8)) (t := k % 8) (Nat.mod_lt k (by decide))).1 (mask_facts ⟨k % 8 + 1, by omega⟩).1).2 ((bit_ne (h (k / 8)) (t := k % 8) (Nat.mod_lt k (by decide))).2.2 ht)
  · have e0 : k % 8 = 7 := by omega
    have e1 : (k + 1) / 8 = k / 8 + 1 := by omega
    have e2 : (k + 1) % 8 = 0 := by omega
    generalize hj : k / 8 = j at *
    have hj2 : j + 1 < X.length := by omega
    have hm1 : Int.fdiv 128 ((2 : Int) ^ min 7 8) = 1 := by decide
    have hm2 : Int.fdiv 128 ((2 : Int) ^ min 0 8) = 128 := by decide
    have e3 : flip (flip X k) (k + 1) = (X.set j (bits .xor .u8 (X.getD j 0) 1)).set (j + 1) (bits .xor .u8 (X.getD (j + 1) 0) 128) := by
      unfold flip
      rw [e1, e2, hj, e0, hm1, hm2, getD_set (by omega)]
    rw [e3]
    have u1 := (up_xor (h j) (y := 1) ⟨by decide, by decide⟩).1
    have u2 := (up_xor (h (j + 1)) (y := 128) ⟨by decide, by decide⟩).1
    generalize bits .xor .u8 (X.getD j 0) 1 = y1 at *
    generalize bits .xor .u8 (X.getD (j + 1) 0) 128 = z1 at *
    have hP : (X.take j).length = j := by rw [List.length_take]; omega
    have s1 := (set_split (L := X) (j := j) (by omega) y1).1
    have s2 := (set_split (L := X.set j y1) (j := j + 1) (by rw [List.length_set]; omega) z1).1
    have s3 : (X.set j y1).take (j + 1) = X.take j ++ [y1] := by
      rw [s1, show X.take j ++ y1 :: X.drop (j + 1) = (X.take j ++ [y1]) ++ X.drop (j + 1) by simp]
      exact List.take_left' (by simp [hP])
    have s4 : (X.set j y1).drop (j + 1 + 1) = X.drop (j + 1 + 1) := by rw [List.drop_set, if_pos (by omega)]
    have s5 := (set_split (L := X) (j := j) (by omega) 0).2
    have s6 : X.drop (j + 1) = X.getD (j + 1) 0 :: X.drop (j + 1 + 1) := by
      rw [List.getD_eq_getElem?_getD, List.getElem?_eq_getElem hj2, Option.getD_some, ← List.drop_eq_getElem_cons hj2]
    rw [s6] at s5
    have s7 : crcL X = crcL (X.take j ++ X.getD j 0 :: X.getD (j + 1) 0 :: X.drop (j + 1 + 1)) := congrArg crcL s5
    rw [s2, s3, s4, s7, List.append_assoc]
    exact crcL_pair_ne u1 u2
end Go.Proofs.Ytmenafkmkcodlaa
