/-
  The plain law of a frame's check: a byte's step is linear, and loses nothing. Conditions stand in each theorem.
-/
import Derived.Test.YtmenafkmkcodlaaR0
namespace Go.Proofs.Ytmenafkmkcodlaa
open Go.RowKit sym
set_option linter.unusedVariables false
set_option linter.unusedSimpArgs false
/-! ### Numbers of 16 bits -/
def I (a : BitVec 16) : Int := (a.toNat : Int)
theorem I_lt (a : BitVec 16) : 0 ≤ I a ∧ I a < 65536 := by have := a.isLt; unfold I; omega
theorem I_of {x : Int} (h : W x) : I (BitVec.ofNat 16 x.toNat) = x := by
  unfold I
  obtain ⟨h1, h2⟩ := h
  rw [BitVec.toNat_ofNat]
  omega
theorem I_inj {a b : BitVec 16} (h : I a = I b) : a = b := BitVec.eq_of_toNat_eq (by unfold I at h; omega)
theorem I_xor (a b : BitVec 16) : bits .xor .u16 (I a) (I b) = I (a ^^^ b) := by
  unfold I
  rw [u16_xor_nat _ _ a.isLt b.isLt, BitVec.toNat_xor]
/-- One bit's step. -/
def st (a : BitVec 16) : BitVec 16 := if a.msb then (a <<< 1) ^^^ 0x1021#16 else a <<< 1
theorem xor4 (a b c : BitVec 16) : (a ^^^ c) ^^^ (b ^^^ c) = a ^^^ b := by
  rw [BitVec.xor_comm b c, BitVec.xor_assoc, ← BitVec.xor_assoc c c b, BitVec.xor_self, BitVec.zero_xor]
theorem st_xor (a b : BitVec 16) : st (a ^^^ b) = st a ^^^ st b := by
  unfold st
  rw [BitVec.msb_xor, BitVec.shiftLeft_xor_distrib]
  cases ha : a.msb <;> cases hb : b.msb <;> simp only [Bool.xor_false, Bool.xor_true, Bool.not_false, Bool.not_true, if_true, Bool.false_eq_true, if_false]
  · rw [BitVec.xor_assoc]
  · rw [BitVec.xor_assoc, BitVec.xor_assoc, BitVec.xor_comm (b <<< 1)]
  · rw [xor4]
theorem st_zero : st 0 = 0 := by decide
theorem lsb_st (a : BitVec 16) : (st a).getLsbD 0 = a.msb := by
  unfold st
  cases ha : a.msb
  · simp
  · simp
theorem st_inj {a : BitVec 16} (h : st a = 0#16) : a = 0#16 := by
  have hm : a.msb = false := by rw [← lsb_st, h]; rfl
  unfold st at h
  rw [hm] at h
  simp only [Bool.false_eq_true, if_false] at h
  apply BitVec.eq_of_getLsbD_eq
  intro i hi
  by_cases e : i = 15
  · subst e
    rw [BitVec.msb_eq_getLsbD_last] at hm
    simpa using hm
  · have := congrArg (fun v => v.getLsbD (i + 1)) h
    simp only [BitVec.getLsbD_shiftLeft, BitVec.getLsbD_zero] at this
    have hlt : i + 1 < 16 := by omega
    simpa [hlt] using this
def sts : Nat → BitVec 16 → BitVec 16
  | 0, a => a
  | k + 1, a => sts k (st a)
theorem sts_xor : ∀ (k : Nat) (a b : BitVec 16), sts k (a ^^^ b) = sts k a ^^^ sts k b
  | 0, a, b => rfl
  | k + 1, a, b => by simp only [sts, st_xor, sts_xor k]
theorem sts_inj : ∀ (k : Nat) {a : BitVec 16}, sts k a = 0#16 → a = 0#16
  | 0, a, h => h
  | k + 1, a, h => st_inj (sts_inj k h)
theorem sts_zero : ∀ k : Nat, sts k 0 = 0
  | 0 => rfl
  | k + 1 => by simp only [sts, st_zero, sts_zero k]
/-- A byte, in the upper half. -/
def up (y : Int) : BitVec 16 := BitVec.ofNat 16 (y.toNat * 256)
def byteB (a : BitVec 16) (y : Int) : BitVec 16 := sts 8 (a ^^^ up y)
/-- The check of bytes. -/
def crcB (a : BitVec 16) (X : List Int) : BitVec 16 := X.foldl byteB a
def crcL (X : List Int) : Int := I (crcB 0xffff#16 X)
theorem crcL_W (X : List Int) : W (crcL X) := I_lt _
/-- As the program computes it. -/
def stepI (x : Int) : Int := if bits .and .u16 x 32768 ≠ 0 then bits .xor .u16 (IntKind.u16.wrap (x * (2 : Int) ^ (1 : Nat))) 4129 else IntKind.u16.wrap (x * (2 : Int) ^ (1 : Nat))
def roundsI : Nat → Int → Int
  | 0, x => x
  | k + 1, x => stepI (roundsI k x)
theorem I_shl (a : BitVec 16) : IntKind.u16.wrap (I a * (2 : Int) ^ (1 : Nat)) = I (a <<< 1) := by
  rw [wu16]
  unfold I
  rw [BitVec.toNat_shiftLeft, Nat.shiftLeft_eq]
  simp only [Nat.reducePow]
  omega
theorem and_msb (a : BitVec 16) : bits .and .u16 (I a) 32768 ≠ 0 ↔ a.msb = true := by
  have h := (bits_nat .u16 16 (by decide) (fun n h0 h1 => by rw [wu16]; have h1 : n < 65536 := h1; omega) a.toNat 32768 a.isLt (by decide)).1
  have h : bits .and .u16 (I a) 32768 = ((a.toNat &&& 32768 : Nat) : Int) := h
  rw [h]
  have hz : ((a.toNat &&& 32768 : Nat) : Int) ≠ 0 ↔ a.toNat.testBit 15 = true := by
    have hb : ∀ i, (a.toNat &&& 2 ^ 15).testBit i = (a.toNat.testBit i && decide (15 = i)) := fun i => by rw [Nat.testBit_and, Nat.testBit_two_pow]
    constructor
    · intro hne
      cases ht : a.toNat.testBit 15 with
      | true => rfl
      | false =>
        exfalso
        apply hne
        have : a.toNat &&& 2 ^ 15 = 0 := by
          apply Nat.eq_of_testBit_eq
          intro i
          rw [hb, Nat.zero_testBit]
          by_cases e : 15 = i
          · subst e; simp [ht]
          · simp [e]
        rw [show (32768 : Nat) = 2 ^ 15 from rfl, this]
        rfl
    · intro ht e
      have e : a.toNat &&& 2 ^ 15 = 0 := by have e : ((a.toNat &&& 2 ^ 15 : Nat) : Int) = 0 := e; omega
      have := hb 15
      rw [e, ht, Nat.zero_testBit] at this
      simp at this
  rw [hz, BitVec.msb_eq_getLsbD_last]
  rfl
theorem stepI_is (a : BitVec 16) : stepI (I a) = I (st a) := by
  unfold stepI st
  rw [I_shl]
  by_cases h : a.msb = true
  · rw [if_pos ((and_msb a).2 h), if_pos h]
    exact I_xor (a <<< 1) 0x1021#16
  · rw [if_neg (fun e => h ((and_msb a).1 e)), if_neg h]
theorem sts_end : ∀ (k : Nat) (a : BitVec 16), sts (k + 1) a = st (sts k a)
  | 0, a => rfl
  | k + 1, a => by
    show sts (k + 1) (st a) = st (sts k (st a))
    exact sts_end k (st a)
theorem roundsI_is (a : BitVec 16) : ∀ k : Nat, roundsI k (I a) = I (sts k a)
  | 0 => rfl
  | k + 1 => by rw [roundsI, roundsI_is a k, stepI_is, sts_end]
theorem wrap_up {y : Int} (h : B y) : IntKind.u16.wrap (IntKind.u16.wrap y * (2 : Int) ^ (8 : Nat)) = I (up y) := by
  obtain ⟨h0, h1⟩ := h
  rw [wu16 y, wu16]
  unfold I up
  rw [BitVec.toNat_ofNat]
  have : (2 : Int) ^ (8 : Nat) = 256 := rfl
  rw [this]
  omega
theorem byte_is (a : BitVec 16) {y : Int} (h : B y) : roundsI 8 (bits .xor .u16 (I a) (IntKind.u16.wrap (IntKind.u16.wrap y * (2 : Int) ^ (8 : Nat)))) = I (byteB a y) := by
  rw [wrap_up h, I_xor, roundsI_is]
  rfl
/-- As the document computes it. -/
def rstepI (x o : Int) : Int := if x.tdiv 32768 ≠ o then bits .xor .i64 ((IntKind.i64.wrap (x * 2)).tmod 65536) 4129 else (IntKind.i64.wrap (x * 2)).tmod 65536
theorem i64_xor_nat (a b : Nat) (ha : a < 65536) (hb : b < 65536) : bits .xor .i64 (a : Int) (b : Int) = ((a ^^^ b : Nat) : Int) := by
  show IntKind.i64.wrap ((BitVec.ofInt 64 a ^^^ BitVec.ofInt 64 b).toNat : Nat) = _
  rw [BitVec.toNat_xor, BitVec.toNat_ofInt, BitVec.toNat_ofInt]
  have e1 : ((a : Int) % ((2 ^ 64 : Nat) : Int)).toNat = a := by omega
  have e2 : ((b : Int) % ((2 ^ 64 : Nat) : Int)).toNat = b := by omega
  rw [e1, e2]
  have : a ^^^ b < 2 ^ 16 := Nat.xor_lt_two_pow (n := 16) ha hb
  exact wi64 _ (by omega) (by omega)
theorem rstepI_is (a : BitVec 16) (o : Bool) : rstepI (I a) (if o then 1 else 0) = I (st (a ^^^ if o then 0x8000#16 else 0#16)) := by
  have hl := a.isLt
  have hd : (I a).tdiv 32768 = if a.msb then 1 else 0 := by
    unfold I
    rw [Int.tdiv_eq_ediv_of_nonneg (by omega), BitVec.msb_eq_decide]
    simp only [Nat.reducePow, Nat.reduceSub]
    by_cases h : 32768 ≤ a.toNat
    · simp only [h, decide_true, if_true]; omega
    · simp only [h, decide_false, Bool.false_eq_true, if_false]; omega
  have hx : (IntKind.i64.wrap (I a * 2)).tmod 65536 = I (a <<< 1) := by
    have := I_lt a
    rw [wi64 _ (by omega) (by omega), Int.tmod_eq_emod_of_nonneg (by omega), ← I_shl, wu16]
    rfl
  have hs : st (a ^^^ if o then 0x8000#16 else 0#16) = if (a.msb != o) then (a <<< 1) ^^^ 0x1021#16 else a <<< 1 := by
    cases o with
    | false =>
      simp only [Bool.false_eq_true, if_false, BitVec.xor_zero, Bool.bne_false]
      rfl
    | true =>
      simp only [if_true, Bool.bne_true]
      rw [st_xor, show st 0x8000#16 = 0x1021#16 by decide]
      unfold st
      cases ha : a.msb
      · simp
      · simp only [if_true, Bool.not_true, Bool.false_eq_true, if_false]
        rw [BitVec.xor_assoc, BitVec.xor_self, BitVec.xor_zero]
  unfold rstepI
  rw [hd, hx, hs]
  have hx2 : bits .xor .i64 (I (a <<< 1)) 4129 = I ((a <<< 1) ^^^ 0x1021#16) := by
    unfold I
    rw [BitVec.toNat_xor]
    exact i64_xor_nat _ 4129 (a <<< 1).isLt (by decide)
  cases ha : a.msb <;> cases o <;> simp [hx2]
/-- A byte's upper bit first. -/
def rrI : Nat → Int → Int → Int
  | 0, x, y => x
  | k + 1, x, y => rstepI (rrI k x y) ((y.tdiv ((2 : Int) ^ (7 - k))).tmod 2)
def rrB : Nat → BitVec 16 → BitVec 16 → BitVec 16
  | 0, a, Y => a
  | k + 1, a, Y => st (rrB k a Y ^^^ if Y.getLsbD (15 - k) then 0x8000#16 else 0#16)
theorem st_peel (a Y : BitVec 16) : st (a ^^^ Y) = st (a ^^^ if Y.msb then 0x8000#16 else 0#16) ^^^ (Y <<< 1) := by
  rw [st_xor, st_xor, BitVec.xor_assoc]
  congr 1
  unfold st
  cases h : Y.msb
  · simp [show (0#16).msb = false by decide]
  · simp only [if_true, show (0x8000#16).msb = true by decide, show (0x8000#16) <<< 1 = 0#16 by decide]
    rw [BitVec.zero_xor, BitVec.xor_comm]
theorem rrB_is (a Y : BitVec 16) : ∀ k, k ≤ 16 → rrB k a Y ^^^ (Y <<< k) = sts k (a ^^^ Y)
  | 0, _ => by simp [rrB, sts]
  | k + 1, hk => by
    have ih := rrB_is a Y k (by omega)
    have hm : (Y <<< k).msb = Y.getLsbD (15 - k) := by
      rw [BitVec.msb_eq_getLsbD_last, BitVec.getLsbD_shiftLeft]
      simp
      omega
    rw [sts_end, ← ih, st_peel (rrB k a Y) (Y <<< k), hm, rrB, ← BitVec.shiftLeft_add]
theorem up_bit {y : Int} (h : B y) {k : Nat} (hk : k < 8) : (y.tdiv ((2 : Int) ^ (7 - k))).tmod 2 = if (up y).getLsbD (15 - k) then 1 else 0 := by
  obtain ⟨h0, h1⟩ := h
  obtain ⟨n, rfl⟩ := Int.eq_ofNat_of_zero_le h0
  have hn : n < 256 := by omega
  have e : ((n : Int).tdiv ((2 : Int) ^ (7 - k))).tmod 2 = ((n / 2 ^ (7 - k) % 2 : Nat) : Int) := by
    have h2 : ((2 : Int) ^ (7 - k)) = ((2 ^ (7 - k) : Nat) : Int) := (Int.natCast_pow 2 (7 - k)).symm
    rw [h2]
    rfl
  rw [e]
  unfold up
  rw [BitVec.getLsbD_ofNat, Int.toNat_natCast]
  have e2 : n * 256 = n <<< 8 := by rw [Nat.shiftLeft_eq]
  rw [e2, Nat.testBit_shiftLeft]
  have g1 : decide (15 - k < 16) = true := by simp; omega
  have g2 : decide (15 - k ≥ 8) = true := by simp; omega
  have g3 : 15 - k - 8 = 7 - k := by omega
  rw [g1, g2, g3, Bool.true_and, Bool.true_and, Nat.testBit_eq_decide_div_mod_eq]
  rcases Nat.mod_two_eq_zero_or_one (n / 2 ^ (7 - k)) with h | h <;> simp [h]
theorem rrI_is (a : BitVec 16) {y : Int} (h : B y) : ∀ k, k ≤ 8 → rrI k (I a) y = I (rrB k a (up y))
  | 0, _ => rfl
  | k + 1, hk => by rw [rrI, rrI_is a h k (by omega), up_bit h (by omega), rstepI_is, rrB]
theorem up_shl (y : Int) : (up y) <<< 8 = 0#16 := by
  apply BitVec.eq_of_toNat_eq
  unfold up
  rw [BitVec.toNat_shiftLeft, BitVec.toNat_ofNat, Nat.shiftLeft_eq, show (0#16).toNat = 0 from rfl]
  omega
theorem rbyte_is (a : BitVec 16) {y : Int} (h : B y) : rrI 8 (I a) y = I (byteB a y) := by
  rw [rrI_is a h 8 (by omega)]
  have := rrB_is a (up y) 8 (by omega)
  rw [up_shl, BitVec.xor_zero] at this
  rw [this]
  rfl
/-! ### What a check tells -/
theorem byteB_xor {a b : BitVec 16} {y z u : Int} (h : up u = up y ^^^ up z) : byteB (a ^^^ b) u = byteB a y ^^^ byteB b z := by
  unfold byteB
  rw [← sts_xor, h]
  congr 1
  simp only [BitVec.xor_assoc]
  congr 1
  rw [← BitVec.xor_assoc, ← BitVec.xor_assoc, BitVec.xor_comm b]
theorem byteB_inj {a b : BitVec 16} {y z : Int} (h : byteB a y = byteB b z) : a ^^^ b = up y ^^^ up z := by
  have e : sts 8 ((a ^^^ up y) ^^^ (b ^^^ up z)) = 0#16 := by
    rw [sts_xor]
    have h : sts 8 (a ^^^ up y) = sts 8 (b ^^^ up z) := h
    rw [h, BitVec.xor_self]
  have e2 := sts_inj 8 e
  have e3 : (a ^^^ b) ^^^ (up y ^^^ up z) = 0#16 := by
    rw [← e2]
    simp only [BitVec.xor_assoc]
    congr 1
    rw [← BitVec.xor_assoc, ← BitVec.xor_assoc, BitVec.xor_comm b]
  have e4 := congrArg (fun v => v ^^^ (up y ^^^ up z)) e3
  simp only [BitVec.zero_xor] at e4
  rw [BitVec.xor_assoc, BitVec.xor_self, BitVec.xor_zero] at e4
  exact e4
theorem crcB_ne {a b : BitVec 16} (h : a ≠ b) : ∀ X : List Int, crcB a X ≠ crcB b X := by
  intro X
  induction X generalizing a b with
  | nil => exact h
  | cons y X ih =>
    refine ih (a := byteB a y) (b := byteB b y) fun e => h ?_
    have := byteB_inj e
    rw [BitVec.xor_self] at this
    have e4 := congrArg (fun v => v ^^^ b) this
    simp only [BitVec.zero_xor] at e4
    rw [BitVec.xor_assoc, BitVec.xor_self, BitVec.xor_zero] at e4
    exact e4
theorem up_inj {y z : Int} (hy : B y) (hz : B z) (h : up y = up z) : y = z := by
  have := congrArg BitVec.toNat h
  unfold up at this
  rw [BitVec.toNat_ofNat, BitVec.toNat_ofNat] at this
  obtain ⟨h1, h2⟩ := hy
  obtain ⟨h3, h4⟩ := hz
  omega
theorem byteB_ne {a : BitVec 16} {y z : Int} (hy : B y) (hz : B z) (h : y ≠ z) : byteB a y ≠ byteB a z := fun e => by
  have := byteB_inj e
  rw [BitVec.xor_self] at this
  have e4 := congrArg (fun v => v ^^^ up z) this
  simp only [BitVec.zero_xor] at e4
  rw [BitVec.xor_assoc, BitVec.xor_self, BitVec.xor_zero] at e4
  exact h (up_inj hy hz e4.symm)
theorem crcB_append (a : BitVec 16) (X Y : List Int) : crcB a (X ++ Y) = crcB (crcB a X) Y := List.foldl_append ..
theorem crcL_ne_one (X Z : List Int) {y z : Int} (hy : B y) (hz : B z) (h : y ≠ z) : crcL (X ++ y :: Z) ≠ crcL (X ++ z :: Z) := fun e => by
  have e := I_inj e
  rw [crcB_append, crcB_append] at e
  exact crcB_ne (byteB_ne hy hz h) Z e
/-! ### What stands in bytes -/
def whN (b : List Int) : Nat := (b.getD 2 0).toNat
/-- The check is as it must be. -/
def okF (b : List Int) : Bool := crcL ((b.drop 1).take (whN b + 2)) == b.getD (whN b + 3) 0 * 256 + b.getD (whN b + 4) 0
def whL (b : List Int) : Nat := if b.length < 3 then 2 else if 64 < whN b then 0 else if b.length < whN b + 5 then 2 else if okF b = true then 1 else 0
/-- 0: passed over; 1: a frame; 2: one waits. -/
def atL (b : List Int) : Nat := if b.getD 0 0 = 165 then whL b else 0
def frOfL (b : List Int) : Int × List Int := (b.getD 1 0, (b.drop 3).take (whN b))
/-- Frames, how many are passed over, what waits. -/
def scanF : Nat → List Int → List (Int × List Int) × Nat × List Int
  | 0, b => ([], 0, b)
  | k + 1, b => match b with
    | [] => ([], 0, [])
    | x :: t => match atL (x :: t) with
      | 0 => ((scanF k t).1, (scanF k t).2.1 + 1, (scanF k t).2.2)
      | 1 => (frOfL (x :: t) :: (scanF k ((x :: t).drop (whN (x :: t) + 5))).1, (scanF k ((x :: t).drop (whN (x :: t) + 5))).2.1, (scanF k ((x :: t).drop (whN (x :: t) + 5))).2.2)
      | _ => ([], 0, x :: t)
def scanL (b : List Int) : List (Int × List Int) × Nat × List Int := scanF b.length b
theorem scanF_more : ∀ (k : Nat) (b : List Int), b.length ≤ k → scanF k b = scanF (k + 1) b
  | 0, b, h => by
    have : b = [] := List.eq_nil_of_length_eq_zero (by omega)
    subst this
    rfl
  | k + 1, [], h => rfl
  | k + 1, x :: t, h => by
    have h1 : t.length ≤ k := by simpa using h
    have h2 : ((x :: t).drop (whN (x :: t) + 5)).length ≤ k := by simp; omega
    simp only [scanF]
    rw [scanF_more k t h1, scanF_more k _ h2]
    rfl
theorem scanF_any : ∀ (k j : Nat) (b : List Int), b.length ≤ k → scanF (k + j) b = scanF k b
  | k, 0, b, h => rfl
  | k, j + 1, b, h => by rw [← Nat.add_assoc, ← scanF_more (k + j) b (by omega), scanF_any k j b h]
theorem scanF_is {k : Nat} {b : List Int} (h : b.length ≤ k) : scanF k b = scanL b := by
  obtain ⟨j, rfl⟩ := Nat.exists_eq_add_of_le h
  exact scanF_any _ j b (Nat.le_refl _)
theorem scan_nil : scanL [] = ([], 0, []) := rfl
theorem scan_0 {b : List Int} (hb : b ≠ []) (h : atL b = 0) : scanL b = ((scanL (b.drop 1)).1, (scanL (b.drop 1)).2.1 + 1, (scanL (b.drop 1)).2.2) := by
  match b, hb with
  | x :: t, _ =>
    have : scanL (x :: t) = scanF (t.length + 1) (x :: t) := rfl
    rw [this]
    simp only [scanF, h, List.drop_succ_cons, List.drop_zero]
    rfl
theorem scan_1 {b : List Int} (hb : b ≠ []) (h : atL b = 1) : scanL b = (frOfL b :: (scanL (b.drop (whN b + 5))).1, (scanL (b.drop (whN b + 5))).2.1, (scanL (b.drop (whN b + 5))).2.2) := by
  match b, hb with
  | x :: t, _ =>
    have : scanL (x :: t) = scanF (t.length + 1) (x :: t) := rfl
    rw [this]
    simp only [scanF, h]
    rw [scanF_is (k := t.length) (b := (x :: t).drop (whN (x :: t) + 5)) (by simp only [List.length_drop, List.length_cons]; omega)]
theorem scan_2 {b : List Int} (h : atL b = 2) : scanL b = ([], 0, b) := by
  match b with
  | [] => rfl
  | x :: t =>
    have : scanL (x :: t) = scanF (t.length + 1) (x :: t) := rfl
    rw [this]
    simp only [scanF, h]
theorem at_le (b : List Int) : atL b = 0 ∨ atL b = 1 ∨ atL b = 2 := by
  unfold atL whL
  repeat' split
  all_goals simp
theorem at_1 {b : List Int} (h : atL b = 1) : b.getD 0 0 = 165 ∧ whN b ≤ 64 ∧ whN b + 5 ≤ b.length ∧ okF b = true := by
  unfold atL whL at h
  repeat' split at h
  all_goals first | (simp at h; done) | skip
  exact ⟨by assumption, by omega, by omega, by assumption⟩
theorem at_2 {b : List Int} (h : atL b = 2) : b.getD 0 0 = 165 ∧ (b.length < 3 ∨ (whN b ≤ 64 ∧ b.length < whN b + 5)) := by
  unfold atL whL at h
  repeat' split at h
  all_goals first | (simp at h; done) | skip
  · exact ⟨by assumption, .inl (by assumption)⟩
  · exact ⟨by assumption, .inr ⟨by omega, by assumption⟩⟩
end Go.Proofs.Ytmenafkmkcodlaa
