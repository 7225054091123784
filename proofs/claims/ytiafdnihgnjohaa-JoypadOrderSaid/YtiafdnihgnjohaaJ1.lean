/-
  JoypadOrder: the plain law (whatever order changes stand in, of which no two have one number, the same keys are down; between two changes they stay down) and the walk by computing. A slice of at most 100 changes; no other condition.
-/
import Derived.Test.YtiafdnihgnjohaaW6
import Derived.Test.YtiafdnihgnjohaaR0
namespace Go.Proofs.Ytiafdnihgnjohaa
open Go.RowKit sym
set_option linter.unusedVariables false
set_option linter.unusedSimpArgs false
set_option maxRecDepth 100000
namespace Plan
theorem best_none (t : Nat → Nat) (n : Nat) : ∀ (k : Nat), best t n k = none → ∀ c, c < k → n < t c
  | 0, _, c, hc => absurd hc (by omega)
  | k + 1, h, c, hc => by
    simp only [best] at h
    split at h
    · cases h
    · rename_i hb
      rw [h] at hb
      simp only [better, decide_eq_true_eq] at hb
      by_cases e : c = k
      · subst e; omega
      · exact best_none t n k h c (by omega)
theorem best_some (t : Nat → Nat) (n : Nat) : ∀ (k j : Nat), best t n k = some j → j < k ∧ t j ≤ n ∧ ∀ c, c < k → t c ≤ n → t c ≤ t j
  | 0, _, h => by cases h
  | k + 1, j, h => by
    simp only [best] at h
    cases hb : best t n k with
    | none =>
      rw [hb] at h
      have hn := best_none t n k hb
      split at h
      · rename_i hc
        injection h with h
        subst h
        simp only [better, decide_eq_true_eq] at hc
        refine ⟨by omega, hc, fun c hck hcn => ?_⟩
        by_cases e : c = k
        · subst e; exact Nat.le_refl _
        · have := hn c (by omega); omega
      · cases h
    | some i =>
      rw [hb] at h
      obtain ⟨h1, h2, h3⟩ := best_some t n k i hb
      split at h
      · rename_i hc
        injection h with h
        subst h
        simp only [better, Bool.and_eq_true, decide_eq_true_eq] at hc
        refine ⟨by omega, hc.1, fun c hck hcn => ?_⟩
        by_cases e : c = k
        · subst e; exact Nat.le_refl _
        · have := h3 c (by omega) hcn; omega
      · rename_i hc
        injection h with h
        subst h
        simp only [better, Bool.and_eq_true, decide_eq_true_eq, not_and] at hc
        refine ⟨by omega, h2, fun c hck hcn => ?_⟩
        by_cases e : c = k
        · subst e; have := hc hcn; omega
        · exact h3 c (by omega) hcn

/-- Where the second plan takes its i-th change from. -/
def sig (len kk i : Nat) : Nat := if len - 1 - i + kk < len then len - 1 - i + kk else len - 1 - i + kk - len
theorem sig_lt {len kk i : Nat} (hi : i < len) (hk : kk < len) : sig len kk i < len := by unfold sig; split <;> omega
theorem sig_sig {len kk i : Nat} (hi : i < len) (hk : kk < len) : sig len kk (sig len kk i) = i := by unfold sig; split <;> split <;> omega
theorem sig_mod {len kk i : Nat} (hi : i < len) (hk : kk < len) : ((len : Int) - 1 - (i : Int) + (kk : Int)) % (len : Int) = ((sig len kk i : Nat) : Int) := by
  unfold sig
  split
  · rename_i h
    rw [Int.emod_eq_of_lt (by omega) (by omega)]; omega
  · rename_i h
    have e : (len : Int) - 1 - (i : Int) + (kk : Int) = ((len - 1 - i + kk - len : Nat) : Int) + (len : Int) := by omega
    rw [e, Int.add_emod_right, Int.emod_eq_of_lt (by omega) (by omega)]

theorem order_same (t d : Nat → Nat) (n len kk : Nat) (hk : kk < len) (hd : ∀ a, a < len → ∀ b, b < a → t a ≠ t b) :
    keys d (best t n len) = keys (fun i => d (sig len kk i)) (best (fun i => t (sig len kk i)) n len) := by
  cases h1 : best t n len with
  | none =>
    have g1 := best_none t n len h1
    cases h2 : best (fun i => t (sig len kk i)) n len with
    | none => rfl
    | some j =>
      obtain ⟨a, b, _⟩ := best_some _ n len j h2
      have := g1 _ (sig_lt a hk)
      omega
  | some i =>
    obtain ⟨a1, b1, c1⟩ := best_some t n len i h1
    cases h2 : best (fun i => t (sig len kk i)) n len with
    | none =>
      have g2 := best_none _ n len h2 (sig len kk i) (sig_lt a1 hk)
      rw [sig_sig a1 hk] at g2
      omega
    | some j =>
      obtain ⟨a2, b2, c2⟩ := best_some _ n len j h2
      have e1 := c1 _ (sig_lt a2 hk) b2
      have e2 := c2 (sig len kk i) (sig_lt a1 hk) (by rw [sig_sig a1 hk]; exact b1)
      rw [sig_sig a1 hk] at e2
      have e : t (sig len kk j) = t i := by omega
      have hs := sig_lt a2 hk
      have e3 : sig len kk j = i := by
        rcases Nat.lt_trichotomy (sig len kk j) i with h | h | h
        · exact absurd e.symm (hd i a1 _ h)
        · exact h
        · exact absurd e (hd _ hs i h)
      simp only [keys]
      rw [e3]

/-- No change between n and n + m, among the first k. -/
def stays (t : Nat → Nat) (n m : Nat) : Nat → Bool
  | 0 => true
  | k + 1 => if n < t k ∧ t k - n ≤ m then false else stays t n m k
theorem stays_at (t : Nat → Nat) (n m : Nat) : ∀ k, stays t n m k = true → ∀ c, c < k → (t c ≤ n + m ↔ t c ≤ n)
  | 0, _, c, hc => absurd hc (by omega)
  | k + 1, h, c, hc => by
    simp only [stays] at h
    split at h
    · cases h
    · by_cases e : c = k
      · subst e; omega
      · exact stays_at t n m k h c (by omega)
theorem best_stays (t : Nat → Nat) (n m : Nat) : ∀ k, (∀ c, c < k → (t c ≤ n + m ↔ t c ≤ n)) → best t (n + m) k = best t n k
  | 0, _ => rfl
  | k + 1, h => by
    simp only [best]
    rw [best_stays t n m k (fun c hc => h c (by omega))]
    have e : ∀ o, better t (n + m) k o = better t n k o := fun o => by
      have := h k (by omega)
      cases o <;> simp only [better, this]
    rw [e]
end Plan
def tOf (X : List Int) (i : Nat) : Nat := (X.getD (i * 2) 0).toNat
def dOf (X : List Int) (i : Nat) : Nat := (X.getD (i * 2 + 1) 0).toNat
/-- Times and keys, as they can be. -/
def TD (X : List Int) : Prop := ∀ i, (0 ≤ X.getD (i * 2) 0 ∧ X.getD (i * 2) 0 < 18446744073709551616) ∧ 0 ≤ X.getD (i * 2 + 1) 0 ∧ X.getD (i * 2 + 1) 0 < 256
/-- The first changes of the other plan. -/
def sgl (X : List Int) (n kk : Nat) : Nat → List Int
  | 0 => []
  | i + 1 => sgl X n kk i ++ [X.getD (Plan.sig n kk i * 2) 0, X.getD (Plan.sig n kk i * 2 + 1) 0]
def atC : RCtr := ⟨16, [some [.u64, .u8], none], fun | [.row [.u64, .u8] n xs, .av (.v (.one (.int _ .u64 x)))] => some (.chk (n ≤ 1000 ∧ TD xs ∧ 0 ≤ x) (.leaf [.av (.one (.int false .u8 (Plan.keys (dOf xs) (Plan.best (tOf xs) x.toNat n) : Nat)))])) | _ => none⟩
def jtab : List RCtr := [atC]
def awC : Ctr := ⟨9, fun | [] => some (.leaf (.v (.one (.bool true true)))) | _ => none⟩
def awT : List Ctr := [awC]
theorem best_congr {t t' : Nat → Nat} (x : Nat) : ∀ k, (∀ c, c < k → t c = t' c) → Plan.best t x k = Plan.best t' x k
  | 0, _ => rfl
  | k + 1, h => by
    have ih := best_congr x k (fun c hc => h c (by omega))
    have hb : Plan.better t x k (Plan.best t' x k) = Plan.better t' x k (Plan.best t' x k) := by
      cases hh : Plan.best t' x k with
      | none => simp only [Plan.better, h k (by omega)]
      | some j =>
        have := Plan.best_lt t' x k j hh
        simp only [Plan.better, h k (by omega), h j (by omega)]
    simp only [Plan.best, ih, hb]
theorem keys_congr {t t' d d' : Nat → Nat} (x : Nat) {k : Nat} (h : ∀ c, c < k → t c = t' c) (hd : ∀ c, c < k → d c = d' c) : Plan.keys d (Plan.best t x k) = Plan.keys d' (Plan.best t' x k) := by
  rw [best_congr x k h]
  cases hh : Plan.best t' x k with
  | none => rfl
  | some j => exact hd j (Plan.best_lt t' x k j hh)
theorem sgl_length (X : List Int) (n kk : Nat) : ∀ k, (sgl X n kk k).length = k * 2
  | 0 => rfl
  | k + 1 => by simp only [sgl, List.length_append, sgl_length X n kk k]; simp; omega
theorem sgl_at (X : List Int) (n kk : Nat) : ∀ k j, j < k → (sgl X n kk k).getD (j * 2) 0 = X.getD (Plan.sig n kk j * 2) 0 ∧ (sgl X n kk k).getD (j * 2 + 1) 0 = X.getD (Plan.sig n kk j * 2 + 1) 0
  | 0, _, h => absurd h (by omega)
  | k + 1, j, h => by
    have hl := sgl_length X n kk k
    simp only [sgl, List.getD_eq_getElem?_getD]
    by_cases e : j = k
    · subst e
      rw [List.getElem?_append_right (by omega), List.getElem?_append_right (by omega), hl, Nat.sub_self, show j * 2 + 1 - j * 2 = 1 by omega]
      simp [List.getD_eq_getElem?_getD]
    · have ih := sgl_at X n kk k j (by omega)
      simp only [List.getD_eq_getElem?_getD] at ih
      rw [List.getElem?_append_left (by omega), List.getElem?_append_left (by omega)]
      exact ih
theorem take2 {X : List Int} {i : Nat} (h : i * 2 + 1 < X.length) : X.take (i * 2) ++ [X.getD (i * 2) 0, X.getD (i * 2 + 1) 0] = X.take ((i + 1) * 2) := by
  rw [show (i + 1) * 2 = i * 2 + 1 + 1 by omega, List.take_succ_eq_append_getElem h, List.take_succ_eq_append_getElem (by omega : i * 2 < X.length), List.getD_eq_getElem?_getD, List.getD_eq_getElem?_getD, List.getElem?_eq_getElem h, List.getElem?_eq_getElem (by omega : i * 2 < X.length), List.append_assoc]
  rfl
theorem sgl_TD {X : List Int} (h : TD X) (n kk k : Nat) : TD (sgl X n kk k) := fun i => by
  by_cases hi : i < k
  · obtain ⟨e1, e2⟩ := sgl_at X n kk k i hi
    rw [e1, e2]
    exact h _
  · have hl := sgl_length X n kk k
    rw [List.getD_eq_getElem?_getD, List.getD_eq_getElem?_getD, List.getElem?_eq_none (by omega), List.getElem?_eq_none (by omega)]
    exact ⟨⟨by decide, by decide⟩, by decide, by decide⟩
theorem awC_ok (w : World) : awC.ok Try.prog w := by
  refine ⟨⟨_, Try.func9, rfl⟩, fun args t ht => ?_⟩
  unfold awC at ht
  simp only at ht
  split at ht
  · cases ht
    exact ⟨rfl, fun K hK => ⟨_, hK, rfl, fun w' hb => awake_any w'⟩⟩
  · cases ht
theorem awT_ok (w : World) : Ctrs Try.prog w (ctrOf awT) := ctrs_of fun c hc => by
  simp only [awT, List.mem_cons, List.not_mem_nil, or_false] at hc
  subst hc
  exact awC_ok w
theorem atC_ok : atC.Ok Try.prog := by
  refine ⟨⟨_, Try.func16, rfl⟩, fun w cas us t ht ha K hK => ?_⟩
  unfold atC at ht
  simp only at ht
  split at ht
  · rename_i n X lit x
    cases ht
    obtain ⟨⟨big, hT, hx⟩, hK⟩ := hK
    obtain ⟨args, g1, rfl, g3⟩ := argsIs ha
    obtain ⟨y0, y1, rfl, q0, q1⟩ := all2_2 g1
    obtain ⟨A, c, rfl, hX, hc⟩ := argRow q0
    obtain ⟨rfl, o1⟩ := argAv q1
    have hl : X.length = n * 2 := hX.1
    have hC : Changes w A n (tOf X) (dOf X) := ⟨fun k hk => by
      obtain ⟨b, off, e, hb, _⟩ := hX.2 (k * 2) (by omega)
      refine ⟨b, off, e, hb, fun j hj => ?_⟩
      obtain ⟨b1, off1, e1, _, h1⟩ := hX.2 (j * 2) (by omega)
      obtain ⟨b2, off2, e2, _, h2⟩ := hX.2 (j * 2 + 1) (by omega)
      rw [e] at e1 e2
      cases e1
      cases e2
      have m1 : j * 2 % [IntKind.u64, IntKind.u8].length = 0 := by show j * 2 % 2 = 0; omega
      have m2 : (j * 2 + 1) % [IntKind.u64, IntKind.u8].length = 1 := by show (j * 2 + 1) % 2 = 1; omega
      rw [m1] at h1
      rw [m2] at h2
      obtain ⟨⟨p1, _⟩, p2, _⟩ := hT j
      have t1 : ((tOf X j : Nat) : Int) = X.getD (j * 2) 0 := by unfold tOf; omega
      have t2 : ((dOf X j : Nat) : Int) = X.getD (j * 2 + 1) 0 := by unfold dOf; omega
      rw [t1, t2]
      exact ⟨h1, h2⟩⟩
    have hx' : ((x.toNat : Nat) : Int) = x := by omega
    have := at_any A n c x.toNat (tOf X) (dOf X) (by omega) w hC
    rw [hx'] at this
    exact this.mono fun e w' ⟨he, hb⟩ => ⟨_, [_], hK, .cons ⟨rfl, rfl⟩ .nil, he, hb⟩
  · cases ht
theorem jtab_ok : ∀ c ∈ jtab, c.Ok Try.prog := fun c hc => by
  simp only [jtab, List.mem_cons, List.not_mem_nil, or_false] at hc
  subst hc
  exact atC_ok
theorem wu64 (x : Int) : IntKind.wrap .u64 x = x % 18446744073709551616 := by simp [IntKind.wrap, IntKind.bits, IntKind.signed]
theorem winc {j : Nat} (h : j < 1000000000) : IntKind.i64.wrap ((j : Int) + 1) = ((j + 1 : Nat) : Int) := by rw [wi64 _ (by omega) (by omega)]; omega
structure jbP where
  P : List Int
  p : Nat
  pn : Bool
  pc : Nat
  Q : List Int
  q : Nat
  qn : Bool
  qc : Nat
  i : Nat
structure jbX where
  j : Nat
structure jbY where
structure jbZ where
def jbSt (A : Option Addr) (X : List Int) (n cap : Nat) (u v : Int) (kk : Nat) : jbP → jbX → ASt := fun ⟨P, p, pn, pc, Q, q, qn, qc, i⟩ ⟨j⟩ => ⟨slots (List.replicate 136 .any) [(0, .v (.one (.xr A [.u64, .u8] X n cap))), (2, .v (.one (.int false .u64 u))), (3, .v (.one (.int false .u8 v))), (9, .v (.one (.gs 0 pn 2 0 p pc))), (10, .v (.one (.gs 1 qn 2 0 q qc))), (11, .v (.one (.int false .i64 (kk : Int)))), (12, .v (.one (.int false .i64 (i : Int)))), (36, .v (.one (.int false .i64 (n : Int)))), (37, .v (.one (.int false .i64 (i : Int)))), (40, .v (.one (.int false .i64 (i : Int)))), (41, .v (.one (.int false .i64 (j : Int))))], [⟨[.row pn [.u64, .u8] P pc], 41⟩, ⟨[.row qn [.u64, .u8] Q qc], 41⟩]⟩
def jbFin (A : Option Addr) (X : List Int) (n cap : Nat) (u v : Int) (kk : Nat) : jbP → jbY → ASt := fun ⟨P, p, pn, pc, Q, q, qn, qc, i⟩ ⟨⟩ => ⟨slots (List.replicate 136 .any) [(0, .v (.one (.xr A [.u64, .u8] X n cap))), (2, .v (.one (.int false .u64 u))), (3, .v (.one (.int false .u8 v))), (9, .v (.one (.gs 0 pn 2 0 p pc))), (10, .v (.one (.gs 1 qn 2 0 q qc))), (11, .v (.one (.int false .i64 (kk : Int)))), (12, .v (.one (.int false .i64 (i : Int)))), (36, .v (.one (.int false .i64 (n : Int)))), (37, .v (.one (.int false .i64 (i : Int))))], [⟨[.row pn [.u64, .u8] P pc], 41⟩, ⟨[.row qn [.u64, .u8] Q qc], 41⟩]⟩
def jbBck (A : Option Addr) (X : List Int) (n cap : Nat) (u v : Int) (kk : Nat) : jbP → jbZ → ASt := fun ⟨P, p, pn, pc, Q, q, qn, qc, i⟩ ⟨⟩ => ⟨slots (List.replicate 136 .any) [(8, .v (.one (.bool true true)))], [⟨[.dead], 41⟩, ⟨[.dead], 41⟩]⟩
def jbNxP : ASt → Option jbP := fun s => match sym.gX s 9 with | none => none | some P => match sym.gL s 9 with | none => none | some p => match sym.gN s 9 with | none => none | some pn => match sym.gC s 9 with | none => none | some pc => match sym.gX s 10 with | none => none | some Q => match sym.gL s 10 with | none => none | some q => match sym.gN s 10 with | none => none | some qn => match sym.gC s 10 with | none => none | some qc => match (sym.gI s 12).map Int.toNat with | none => none | some i => some ⟨P, p, pn, pc, Q, q, qn, qc, i⟩
def jbNxX : ASt → Option jbX := fun s => match (sym.gI s 41).map Int.toNat with | none => none | some j => some ⟨j⟩
def jbNxY : ASt → Option jbY := fun s => some ⟨⟩
def jbNxZ : ASt → Option jbZ := fun s => some ⟨⟩
def jbRo : ASt → List (Option Nat) := (fun _ => [])
def jbRf : ASt → List (Option Nat) := (fun _ => [])
def jbRb : ASt → List (Option Nat) := (fun _ => [])
structure jbInv (A : Option Addr) (X : List Int) (n cap : Nat) (u v : Int) (kk : Nat) (p : jbP) (x : jbX) : Prop where
  i1 : p.i < n
  j1 : x.j ≤ p.i
  big : n ≤ 100
  ne : ∀ b, b < x.j → tOf X p.i ≠ tOf X b
structure jbPost (A : Option Addr) (X : List Int) (n cap : Nat) (u v : Int) (kk : Nat) (p : jbP) (x : jbY) : Prop where
  ne : ∀ b, b < p.i → tOf X p.i ≠ tOf X b
structure jbBack (A : Option Addr) (X : List Int) (n cap : Nat) (u v : Int) (kk : Nat) (p : jbP) (x : jbZ) : Prop where
def jbLp (A : Option Addr) (X : List Int) (n cap : Nat) (u v : Int) (kk : Nat) : Lp := ⟨8, 2, fun s => match jbNxP s with
  | some p => match jbNxX s with
    | some x => some (loopT 2 2 true jbRo (jbSt A X n cap u v kk p) (jbFin A X n cap u v kk p) (jbBck A X n cap u v kk p) (jbInv A X n cap u v kk p) (jbPost A X n cap u v kk p) (jbBack A X n cap u v kk p) s x)
    | none => none
  | none => none⟩
theorem jbstep_tree (w : World)  (A : Option Addr) (X : List Int) (n cap : Nat) (u v : Int) (kk : Nat) (P : List Int) (p : Nat) (pn : Bool) (pc : Nat) (Q : List Int) (q : Nat) (qn : Bool) (qc : Nat) (i : Nat) (j : Nat) :
    roundT Try.prog w (flatT Try.prog) (noCtr) (callT Try.prog w (flatT Try.prog) (noCtr) (noPre) (noLoop) 20) ((noLoop) 8) (roundOf (bodyAt Try.prog 8 2)) 2 2 jbRo jbRf jbRb (jbSt A X n cap u v kk ⟨P, p, pn, pc, Q, q, qn, qc, i⟩) (jbFin A X n cap u v kk ⟨P, p, pn, pc, Q, q, qn, qc, i⟩) (jbBck A X n cap u v kk ⟨P, p, pn, pc, Q, q, qn, qc, i⟩) jbNxX jbNxY jbNxZ ⟨j⟩ =
(.br (decide ((↑j : Int) < (↑i : Int)))
 (.chk (sym.XR w A [IntKind.u64, IntKind.u8] X n ∧
  (0 : Int) ≤ (↑i : Int) ∧ (↑i : Int) < (↑n : Int) ∧ (0 : Nat) < [IntKind.u64, IntKind.u8].length)
 (.chk (sym.XC w A [IntKind.u64, IntKind.u8] X ∧ (0 : Nat) < X.length)
 (.chk (sym.XC w A [IntKind.u64, IntKind.u8] X ∧
  (0 : Nat) < (1 : Nat) ∧ (↑i : Int).toNat * [IntKind.u64, IntKind.u8].length + (1 : Nat) ≤ X.length)
 (.chk (sym.XR w A [IntKind.u64, IntKind.u8] X n ∧
  (0 : Int) ≤ (↑j : Int) ∧ (↑j : Int) < (↑n : Int) ∧ (0 : Nat) < [IntKind.u64, IntKind.u8].length)
 (.chk (sym.XC w A [IntKind.u64, IntKind.u8] X ∧ (0 : Nat) < X.length)
 (.chk (sym.XC w A [IntKind.u64, IntKind.u8] X ∧
  (0 : Nat) < (1 : Nat) ∧ (↑j : Int).toNat * [IntKind.u64, IntKind.u8].length + (1 : Nat) ≤ X.length)
 (.br (X.getD ((↑i : Int).toNat * [IntKind.u64, IntKind.u8].length + (0 : Nat)) (0 : Int) ==
  X.getD ((↑j : Int).toNat * [IntKind.u64, IntKind.u8].length + (0 : Nat)) (0 : Int))
  (.chk (true = true)
  (.leaf (.inr (.inr ⟨⟩))))
  (.chk (A = A ∧ [IntKind.u64, IntKind.u8] = [IntKind.u64, IntKind.u8] ∧ X = X ∧ n = n ∧ cap = cap)
  (.chk (IntKind.u64 = IntKind.u64 ∧ u = u)
  (.chk (IntKind.u8 = IntKind.u8 ∧ v = v)
  (.chk (pn = pn ∧ (2 : Nat) = (2 : Nat) ∧ (0 : Nat) = (0 : Nat) ∧ p = p ∧ pc = pc)
  (.chk (qn = qn ∧ (2 : Nat) = (2 : Nat) ∧ (0 : Nat) = (0 : Nat) ∧ q = q ∧ qc = qc)
  (.chk (IntKind.i64 = IntKind.i64 ∧ (↑kk : Int) = (↑kk : Int))
  (.chk (IntKind.i64 = IntKind.i64 ∧ (↑i : Int) = (↑i : Int))
  (.chk (IntKind.i64 = IntKind.i64 ∧ (↑n : Int) = (↑n : Int))
  (.chk (IntKind.i64 = IntKind.i64 ∧ (↑i : Int) = (↑i : Int))
  (.chk (IntKind.i64 = IntKind.i64 ∧ (↑i : Int) = (↑i : Int))
  (.chk (IntKind.i64 = IntKind.i64 ∧
  IntKind.i64.wrap ((↑j : Int) + (1 : Int)) = (↑(IntKind.i64.wrap ((↑j : Int) + (1 : Int))).toNat : Int))
  (.chk (pn = pn ∧ [IntKind.u64, IntKind.u8] = [IntKind.u64, IntKind.u8] ∧ P = P ∧ pc = pc)
  (.chk (qn = qn ∧ [IntKind.u64, IntKind.u8] = [IntKind.u64, IntKind.u8] ∧ Q = Q ∧ qc = qc)
  (.leaf (.inl ⟨(IntKind.i64.wrap ((↑j : Int) + (1 : Int))).toNat⟩))))))))))))))))))))))
 (.chk (A = A ∧ [IntKind.u64, IntKind.u8] = [IntKind.u64, IntKind.u8] ∧ X = X ∧ n = n ∧ cap = cap)
 (.chk (IntKind.u64 = IntKind.u64 ∧ u = u)
 (.chk (IntKind.u8 = IntKind.u8 ∧ v = v)
 (.chk (pn = pn ∧ (2 : Nat) = (2 : Nat) ∧ (0 : Nat) = (0 : Nat) ∧ p = p ∧ pc = pc)
 (.chk (qn = qn ∧ (2 : Nat) = (2 : Nat) ∧ (0 : Nat) = (0 : Nat) ∧ q = q ∧ qc = qc)
 (.chk (IntKind.i64 = IntKind.i64 ∧ (↑kk : Int) = (↑kk : Int))
 (.chk (IntKind.i64 = IntKind.i64 ∧ (↑i : Int) = (↑i : Int))
 (.chk (IntKind.i64 = IntKind.i64 ∧ (↑n : Int) = (↑n : Int))
 (.chk (IntKind.i64 = IntKind.i64 ∧ (↑i : Int) = (↑i : Int))
 (.chk (pn = pn ∧ [IntKind.u64, IntKind.u8] = [IntKind.u64, IntKind.u8] ∧ P = P ∧ pc = pc)
 (.chk (qn = qn ∧ [IntKind.u64, IntKind.u8] = [IntKind.u64, IntKind.u8] ∧ Q = Q ∧ qc = qc)
 (.leaf (.inr (.inl ⟨⟩))))))))))))))) := by kernel_rfl
def jbMu (A : Option Addr) (X : List Int) (n cap : Nat) (u v : Int) (kk : Nat) (p : jbP) (x : jbX) : Nat := p.i - x.j
theorem jb_step (w : World) (A : Option Addr) (X : List Int) (n cap : Nat) (u v : Int) (kk : Nat) (p : jbP) (x : jbX) (hX : XR w A [.u64, .u8] X n) (hc : n ≤ cap) (hkk : 0 < n → kk < n) (hT : TD X) (h : jbInv A X n cap u v kk p x) : Hid (roundT Try.prog w (flatT Try.prog) (noCtr) (callT Try.prog w (flatT Try.prog) (noCtr) (noPre) (noLoop) 20) ((noLoop) 8) (roundOf (bodyAt Try.prog 8 2)) 2 2 jbRo jbRf jbRb (jbSt A X n cap u v kk p) (jbFin A X n cap u v kk p) (jbBck A X n cap u v kk p) jbNxX jbNxY jbNxZ x) (Kept (jbInv A X n cap u v kk p) (jbPost A X n cap u v kk p) (jbBack A X n cap u v kk p) (jbMu A X n cap u v kk p) x) := by
  obtain ⟨P, p, pn, pc, Q, q, qn, qc, i⟩ := p
  obtain ⟨j⟩ := x
  constructor
  rw [jbstep_tree]
  simp only [T.holds, Kept, jbMu, and_self, true_and, and_true]
  obtain ⟨i1, j1, big, ne⟩ := h
  simp only at i1 j1 big ne
  have hl : X.length = n * 2 := hX.1
  have wj := winc (show j < 1000000000 by omega)
  simp only [T.holds, List.length_singleton, show [IntKind.u64, IntKind.u8].length = 2 from rfl, Int.toNat_natCast, Nat.mul_one, Nat.sub_zero, Nat.zero_add, Nat.add_zero, Nat.zero_mul, true_and, and_true, and_self, decide_eq_true_eq, decide_eq_false_iff_not, bne_iff_ne, ne_eq, Bool.not_eq_true, bne_eq_false_iff_eq, not_true_eq_false, false_implies, true_implies, beq_iff_eq, beq_eq_false_iff_ne]
  refine ⟨fun hlt => ?_, fun hge => ⟨fun b hb => ne b (by have hb : b < i := hb; omega)⟩⟩
  have hlt : j < i := by omega
  rw [wj]
  refine ⟨⟨hX, by omega, by omega, by decide⟩, ⟨hX.2, by omega⟩, ⟨hX.2, by decide, by omega⟩, ⟨hX, by omega, by omega, by decide⟩, ⟨hX.2, by omega⟩, ⟨hX.2, by decide, by omega⟩, fun _ => ⟨⟩, fun hne => ⟨rfl, ⟨i1, by show j + 1 ≤ i; omega, big, fun b hb => ?_⟩, ?_⟩⟩
  · have hb : b < j + 1 := hb
    by_cases e : b = j
    · subst e
      show tOf X i ≠ tOf X b
      have h1 := (hT i).1.1
      have h2 := (hT b).1.1
      unfold tOf
      omega
    · exact ne b (by omega)
  · rw [Int.toNat_natCast]; omega
theorem jbLp_ok (w : World) (A : Option Addr) (X : List Int) (n cap : Nat) (u v : Int) (kk : Nat) (hX : XR w A [.u64, .u8] X n) (hc : n ≤ cap) (hkk : 0 < n → kk < n) (hT : TD X) : (jbLp A X n cap u v kk).ok Try.prog w := by
  intro s t h
  unfold jbLp at h
  simp only at h
  split at h
  · rename_i p _
    split at h
    · rename_i x _
      cases h
      exact loop_ok base2 (ctrs_none _ w) (callT_ok base2.mixed base2.names base2.eqs (ctrs_none _ w).ok (ctrs_none _ w).there (pre_none _ _) (loops_none _ _) 20) ((loops_none _ _) 8) (c := roundOf (bodyAt Try.prog 8 2)) (by kernel_rfl) (id := 2) (n := 2) (hr := true) (ro := jbRo) (rf := jbRf) (rr := jbRb) (st := jbSt A X n cap u v kk p) (fin := jbFin A X n cap u v kk p) (bck := jbBck A X n cap u v kk p) (inv := jbInv A X n cap u v kk p) (post := jbPost A X n cap u v kk p) (back := jbBack A X n cap u v kk p) (nx := jbNxX) (fx := jbNxY) (bx := jbNxZ) (jbMu A X n cap u v kk p) (nf := 2) (nf' := 2) (nf'' := 2) (fun x => by kernel_rfl) (fun y => by kernel_rfl) (fun z => by kernel_rfl) (.inl rfl) (fun x hx => jb_step w A X n cap u v kk p x hX hc hkk hT hx) s x
    · cases h
  · cases h
structure jaP where
structure jaX where
  P : List Int
  p : Nat
  pn : Bool
  pc : Nat
  Q : List Int
  q : Nat
  qn : Bool
  qc : Nat
  i : Nat
structure jaY where
  P : List Int
  p : Nat
  pn : Bool
  pc : Nat
  Q : List Int
  q : Nat
  qn : Bool
  qc : Nat
structure jaZ where
def jaSt (A : Option Addr) (X : List Int) (n cap : Nat) (u v : Int) (kk : Nat) : jaP → jaX → ASt := fun ⟨⟩ ⟨P, p, pn, pc, Q, q, qn, qc, i⟩ => ⟨slots (List.replicate 136 .any) [(0, .v (.one (.xr A [.u64, .u8] X n cap))), (2, .v (.one (.int false .u64 u))), (3, .v (.one (.int false .u8 v))), (9, .v (.one (.gs 0 pn 2 0 p pc))), (10, .v (.one (.gs 1 qn 2 0 q qc))), (11, .v (.one (.int false .i64 (kk : Int)))), (36, .v (.one (.int false .i64 (n : Int)))), (37, .v (.one (.int false .i64 (i : Int))))], [⟨[.row pn [.u64, .u8] P pc], 41⟩, ⟨[.row qn [.u64, .u8] Q qc], 41⟩]⟩
def jaFin (A : Option Addr) (X : List Int) (n cap : Nat) (u v : Int) (kk : Nat) : jaP → jaY → ASt := fun ⟨⟩ ⟨P, p, pn, pc, Q, q, qn, qc⟩ => ⟨slots (List.replicate 136 .any) [(0, .v (.one (.xr A [.u64, .u8] X n cap))), (2, .v (.one (.int false .u64 u))), (3, .v (.one (.int false .u8 v))), (9, .v (.one (.gs 0 pn 2 0 p pc))), (10, .v (.one (.gs 1 qn 2 0 q qc)))], [⟨[.row pn [.u64, .u8] P pc], 41⟩, ⟨[.row qn [.u64, .u8] Q qc], 41⟩]⟩
def jaBck (A : Option Addr) (X : List Int) (n cap : Nat) (u v : Int) (kk : Nat) : jaP → jaZ → ASt := fun ⟨⟩ ⟨⟩ => ⟨slots (List.replicate 136 .any) [(8, .v (.one (.bool true true)))], []⟩
def jaNxP : ASt → Option jaP := fun s => some ⟨⟩
def jaNxX : ASt → Option jaX := fun s => match sym.gX s 9 with | none => none | some P => match sym.gL s 9 with | none => none | some p => match sym.gN s 9 with | none => none | some pn => match sym.gC s 9 with | none => none | some pc => match sym.gX s 10 with | none => none | some Q => match sym.gL s 10 with | none => none | some q => match sym.gN s 10 with | none => none | some qn => match sym.gC s 10 with | none => none | some qc => match (sym.gI s 37).map Int.toNat with | none => none | some i => some ⟨P, p, pn, pc, Q, q, qn, qc, i⟩
def jaNxY : ASt → Option jaY := fun s => match sym.gX s 9 with | none => none | some P => match sym.gL s 9 with | none => none | some p => match sym.gN s 9 with | none => none | some pn => match sym.gC s 9 with | none => none | some pc => match sym.gX s 10 with | none => none | some Q => match sym.gL s 10 with | none => none | some q => match sym.gN s 10 with | none => none | some qn => match sym.gC s 10 with | none => none | some qc => some ⟨P, p, pn, pc, Q, q, qn, qc⟩
def jaNxZ : ASt → Option jaZ := fun s => some ⟨⟩
def jaRo : ASt → List (Option Nat) := (fun s => [sym.rowAt s 9, sym.rowAt s 10])
def jaRf : ASt → List (Option Nat) := (fun s => [sym.rowAt s 9, sym.rowAt s 10])
def jaRb : ASt → List (Option Nat) := (fun s => [])
structure jaInv (A : Option Addr) (X : List Int) (n cap : Nat) (u v : Int) (kk : Nat) (p : jaP) (x : jaX) : Prop where
  i1 : x.i ≤ n
  big : n ≤ 100
  pl : x.P.length = x.p * 2
  pd : x.p ≤ x.pc ∧ x.pc ≤ maxLen
  pnil : x.pn = true → x.p = 0 ∧ x.pc = 0
  ql : x.Q.length = x.q * 2
  qd : x.q ≤ x.qc ∧ x.qc ≤ maxLen
  qnil : x.qn = true → x.q = 0 ∧ x.qc = 0
  pi : x.p = x.i ∧ x.q = x.i
  pe : x.P = X.take (x.i * 2)
  qe : x.Q = sgl X n kk x.i
  ne : ∀ a, a < x.i → ∀ b, b < a → tOf X a ≠ tOf X b
structure jaPost (A : Option Addr) (X : List Int) (n cap : Nat) (u v : Int) (kk : Nat) (p : jaP) (x : jaY) : Prop where
  pl : x.P.length = x.p * 2
  pd : x.p ≤ x.pc ∧ x.pc ≤ maxLen
  pnil : x.pn = true → x.p = 0 ∧ x.pc = 0
  ql : x.Q.length = x.q * 2
  qd : x.q ≤ x.qc ∧ x.qc ≤ maxLen
  qnil : x.qn = true → x.q = 0 ∧ x.qc = 0
  pi : x.p = n ∧ x.q = n
  pe : x.P = X
  qe : x.Q = sgl X n kk n
  ne : ∀ a, a < n → ∀ b, b < a → tOf X a ≠ tOf X b
structure jaBack (A : Option Addr) (X : List Int) (n cap : Nat) (u v : Int) (kk : Nat) (p : jaP) (x : jaZ) : Prop where
def jaLp (A : Option Addr) (X : List Int) (n cap : Nat) (u v : Int) (kk : Nat) : Lp := ⟨8, 0, fun s => match jaNxP s with
  | some p => match jaNxX s with
    | some x => some (loopT 0 0 true jaRo (jaSt A X n cap u v kk p) (jaFin A X n cap u v kk p) (jaBck A X n cap u v kk p) (jaInv A X n cap u v kk p) (jaPost A X n cap u v kk p) (jaBack A X n cap u v kk p) s x)
    | none => none
  | none => none⟩
theorem jastep_tree (w : World) (A : Option Addr) (X : List Int) (n cap : Nat) (u v : Int) (kk : Nat) (P : List Int) (p : Nat) (pn : Bool) (pc : Nat) (Q : List Int) (q : Nat) (qn : Bool) (qc : Nat) (i : Nat) :
    roundT Try.prog w (flatT Try.prog) (noCtr) (callT Try.prog w (flatT Try.prog) (noCtr) (noPre) (lpOf Try.prog [jbLp A X n cap u v kk]) 20) ((lpOf Try.prog [jbLp A X n cap u v kk]) 8) (roundOf (bodyAt Try.prog 8 0)) 0 0 jaRo jaRf jaRb (jaSt A X n cap u v kk ⟨⟩) (jaFin A X n cap u v kk ⟨⟩) (jaBck A X n cap u v kk ⟨⟩) jaNxX jaNxY jaNxZ ⟨P, p, pn, pc, Q, q, qn, qc, i⟩ =
(.br (decide ((↑i : Int) < (↑n : Int)))
 (.chk (sym.textAt Go.Proofs.Try.prog (8 : Go.FuncId) (2 : Nat) = sym.textAt Go.Proofs.Try.prog (8 : Go.FuncId) (2 : Nat))
 (.chk (A = A ∧ [IntKind.u64, IntKind.u8] = [IntKind.u64, IntKind.u8] ∧ X = X ∧ n = n ∧ cap = cap)
 (.chk (IntKind.u64 = IntKind.u64 ∧ u = u)
 (.chk (IntKind.u8 = IntKind.u8 ∧ v = v)
 (.chk (pn = pn ∧ (2 : Nat) = (2 : Nat) ∧ (0 : Nat) = (0 : Nat) ∧ p = p ∧ pc = pc)
 (.chk (qn = qn ∧ (2 : Nat) = (2 : Nat) ∧ (0 : Nat) = (0 : Nat) ∧ q = q ∧ qc = qc)
 (.chk (IntKind.i64 = IntKind.i64 ∧ (↑kk : Int) = (↑kk : Int))
 (.chk (IntKind.i64 = IntKind.i64 ∧ (↑i : Int) = (↑(↑i : Int).toNat : Int))
 (.chk (IntKind.i64 = IntKind.i64 ∧ (↑n : Int) = (↑n : Int))
 (.chk (IntKind.i64 = IntKind.i64 ∧ (↑i : Int) = (↑(↑i : Int).toNat : Int))
 (.chk (IntKind.i64 = IntKind.i64 ∧ (↑i : Int) = (↑(↑i : Int).toNat : Int))
 (.chk (IntKind.i64 = IntKind.i64 ∧ (0 : Int) = (↑(0 : Nat) : Int))
 (.chk (pn = pn ∧ [IntKind.u64, IntKind.u8] = [IntKind.u64, IntKind.u8] ∧ P = P ∧ pc = pc)
 (.chk (qn = qn ∧ [IntKind.u64, IntKind.u8] = [IntKind.u64, IntKind.u8] ∧ Q = Q ∧ qc = qc)
 (.chk (jbInv A X n cap u v kk
  { P := P, p := p, pn := pn, pc := pc, Q := Q, q := q, qn := qn, qc := qc, i := (↑i : Int).toNat } { j := (0 : Nat) })
 (.all fun x : Bool =>
  (.br (x)
   (.all fun x_1 : sym.Got jbY
  (jbPost A X n cap u v kk
    { P := P, p := p, pn := pn, pc := pc, Q := Q, q := q, qn := qn, qc := qc, i := (↑i : Int).toNat }) =>
    (.chk (sym.XR w A [IntKind.u64, IntKind.u8] X n ∧
  (0 : Int) ≤ (↑(↑i : Int).toNat : Int) ∧
    (↑(↑i : Int).toNat : Int) < (↑n : Int) ∧ (0 : Nat) < [IntKind.u64, IntKind.u8].length)
    (.chk (sym.XC w A [IntKind.u64, IntKind.u8] X ∧
  (0 : Nat) < (2 : Nat) ∧
    (↑(↑i : Int).toNat : Int).toNat * [IntKind.u64, IntKind.u8].length + (2 : Nat) ≤ X.length)
    (.chk (True ∧
  (pn = pn ∧
      (0 : Nat) = (0 : Nat) ∧
        pc = pc ∧
          p * [IntKind.u64, IntKind.u8].length ≤ P.length ∧
            p ≤ pc ∧ pc ≤ Go.maxLen ∧ (pn = true → pc = (0 : Nat))) ∧
    (p + (1 : Nat)) * (16 : Nat) ≤ (140737488355328 : Nat))
    (.all fun x_2 : sym.Grown pn (1 : Nat) (p + (1 : Nat)) =>
     (.chk ((↑n : Int) ≠ (0 : Int))
     (.chk (sym.XR w A [IntKind.u64, IntKind.u8] X n ∧
  (0 : Int) ≤
      (IntKind.i64.wrap
            (IntKind.i64.wrap (IntKind.i64.wrap ((↑n : Int) - (1 : Int)) - (↑(↑i : Int).toNat : Int)) +
              (↑kk : Int))).tmod
        (↑n : Int) ∧
    (IntKind.i64.wrap
              (IntKind.i64.wrap (IntKind.i64.wrap ((↑n : Int) - (1 : Int)) - (↑(↑i : Int).toNat : Int)) +
                (↑kk : Int))).tmod
          (↑n : Int) <
        (↑n : Int) ∧
      (0 : Nat) < [IntKind.u64, IntKind.u8].length)
     (.chk (sym.XC w A [IntKind.u64, IntKind.u8] X ∧
  (0 : Nat) < (2 : Nat) ∧
    ((IntKind.i64.wrap
                  (IntKind.i64.wrap (IntKind.i64.wrap ((↑n : Int) - (1 : Int)) - (↑(↑i : Int).toNat : Int)) +
                    (↑kk : Int))).tmod
              (↑n : Int)).toNat *
          [IntKind.u64, IntKind.u8].length +
        (2 : Nat) ≤
      X.length)
     (.chk (True ∧
  (qn = qn ∧
      (0 : Nat) = (0 : Nat) ∧
        qc = qc ∧
          q * [IntKind.u64, IntKind.u8].length ≤ Q.length ∧
            q ≤ qc ∧ qc ≤ Go.maxLen ∧ (qn = true → qc = (0 : Nat))) ∧
    (q + (1 : Nat)) * (16 : Nat) ≤ (140737488355328 : Nat))
     (.all fun x_3 : sym.Grown qn (1 : Nat) (q + (1 : Nat)) =>
      (.chk (A = A ∧ [IntKind.u64, IntKind.u8] = [IntKind.u64, IntKind.u8] ∧ X = X ∧ n = n ∧ cap = cap)
      (.chk (IntKind.u64 = IntKind.u64 ∧ u = u)
      (.chk (IntKind.u8 = IntKind.u8 ∧ v = v)
      (.chk (x_2.nl' = x_2.nl' ∧
  [IntKind.u64, IntKind.u8].length = (2 : Nat) ∧
    (0 : Nat) = (0 : Nat) ∧ p + (1 : Nat) = p + (1 : Nat) ∧ x_2.cap = x_2.cap)
      (.chk (x_3.nl' = x_3.nl' ∧
  [IntKind.u64, IntKind.u8].length = (2 : Nat) ∧
    (0 : Nat) = (0 : Nat) ∧ q + (1 : Nat) = q + (1 : Nat) ∧ x_3.cap = x_3.cap)
      (.chk (IntKind.i64 = IntKind.i64 ∧ (↑kk : Int) = (↑kk : Int))
      (.chk (IntKind.i64 = IntKind.i64 ∧ (↑n : Int) = (↑n : Int))
      (.chk (IntKind.i64 = IntKind.i64 ∧
  IntKind.i64.wrap ((↑(↑i : Int).toNat : Int) + (1 : Int)) =
    (↑(IntKind.i64.wrap ((↑(↑i : Int).toNat : Int) + (1 : Int))).toNat : Int))
      (.chk (x_2.nl' = x_2.nl' ∧
  [IntKind.u64, IntKind.u8] = [IntKind.u64, IntKind.u8] ∧
    List.take (p * [IntKind.u64, IntKind.u8].length) P ++
          [X.getD ((↑(↑i : Int).toNat : Int).toNat * [IntKind.u64, IntKind.u8].length + (0 : Nat)) (0 : Int),
            X.getD ((↑(↑i : Int).toNat : Int).toNat * [IntKind.u64, IntKind.u8].length + (1 : Nat)) (0 : Int)] =
        List.take (p * [IntKind.u64, IntKind.u8].length) P ++
          [X.getD ((↑(↑i : Int).toNat : Int).toNat * [IntKind.u64, IntKind.u8].length + (0 : Nat)) (0 : Int),
            X.getD ((↑(↑i : Int).toNat : Int).toNat * [IntKind.u64, IntKind.u8].length + (1 : Nat)) (0 : Int)] ∧
      x_2.cap = x_2.cap)
      (.chk (x_3.nl' = x_3.nl' ∧
  [IntKind.u64, IntKind.u8] = [IntKind.u64, IntKind.u8] ∧
    List.take (q * [IntKind.u64, IntKind.u8].length) Q ++
          [X.getD
              (((IntKind.i64.wrap
                          (IntKind.i64.wrap
                              (IntKind.i64.wrap ((↑n : Int) - (1 : Int)) - (↑(↑i : Int).toNat : Int)) +
                            (↑kk : Int))).tmod
                      (↑n : Int)).toNat *
                  [IntKind.u64, IntKind.u8].length +
                (0 : Nat))
              (0 : Int),
            X.getD
              (((IntKind.i64.wrap
                          (IntKind.i64.wrap
                              (IntKind.i64.wrap ((↑n : Int) - (1 : Int)) - (↑(↑i : Int).toNat : Int)) +
                            (↑kk : Int))).tmod
                      (↑n : Int)).toNat *
                  [IntKind.u64, IntKind.u8].length +
                (1 : Nat))
              (0 : Int)] =
        List.take (q * [IntKind.u64, IntKind.u8].length) Q ++
          [X.getD
              (((IntKind.i64.wrap
                          (IntKind.i64.wrap
                              (IntKind.i64.wrap ((↑n : Int) - (1 : Int)) - (↑(↑i : Int).toNat : Int)) +
                            (↑kk : Int))).tmod
                      (↑n : Int)).toNat *
                  [IntKind.u64, IntKind.u8].length +
                (0 : Nat))
              (0 : Int),
            X.getD
              (((IntKind.i64.wrap
                          (IntKind.i64.wrap
                              (IntKind.i64.wrap ((↑n : Int) - (1 : Int)) - (↑(↑i : Int).toNat : Int)) +
                            (↑kk : Int))).tmod
                      (↑n : Int)).toNat *
                  [IntKind.u64, IntKind.u8].length +
                (1 : Nat))
              (0 : Int)] ∧
      x_3.cap = x_3.cap)
      (.leaf (.inl ⟨List.take (p * [IntKind.u64, IntKind.u8].length) P ++
  [X.getD ((↑(↑i : Int).toNat : Int).toNat * [IntKind.u64, IntKind.u8].length + (0 : Nat)) (0 : Int),
    X.getD ((↑(↑i : Int).toNat : Int).toNat * [IntKind.u64, IntKind.u8].length + (1 : Nat)) (0 : Int)], p + (1 : Nat), x_2.nl', x_2.cap, List.take (q * [IntKind.u64, IntKind.u8].length) Q ++
  [X.getD
      (((IntKind.i64.wrap
                  (IntKind.i64.wrap (IntKind.i64.wrap ((↑n : Int) - (1 : Int)) - (↑(↑i : Int).toNat : Int)) +
                    (↑kk : Int))).tmod
              (↑n : Int)).toNat *
          [IntKind.u64, IntKind.u8].length +
        (0 : Nat))
      (0 : Int),
    X.getD
      (((IntKind.i64.wrap
                  (IntKind.i64.wrap (IntKind.i64.wrap ((↑n : Int) - (1 : Int)) - (↑(↑i : Int).toNat : Int)) +
                    (↑kk : Int))).tmod
              (↑n : Int)).toNat *
          [IntKind.u64, IntKind.u8].length +
        (1 : Nat))
      (0 : Int)], q + (1 : Nat), x_3.nl', x_3.cap, (IntKind.i64.wrap ((↑(↑i : Int).toNat : Int) + (1 : Int))).toNat⟩))))))))))))))))))))))
   (.all fun x_1 : sym.Got jbZ
  (jbBack A X n cap u v kk
    { P := P, p := p, pn := pn, pc := pc, Q := Q, q := q, qn := qn, qc := qc, i := (↑i : Int).toNat }) =>
    (.chk (true = true)
    (.leaf (.inr (.inr ⟨⟩))))))))))))))))))))))
 (.chk (A = A ∧ [IntKind.u64, IntKind.u8] = [IntKind.u64, IntKind.u8] ∧ X = X ∧ n = n ∧ cap = cap)
 (.chk (IntKind.u64 = IntKind.u64 ∧ u = u)
 (.chk (IntKind.u8 = IntKind.u8 ∧ v = v)
 (.chk (pn = pn ∧ (2 : Nat) = (2 : Nat) ∧ (0 : Nat) = (0 : Nat) ∧ p = p ∧ pc = pc)
 (.chk (qn = qn ∧ (2 : Nat) = (2 : Nat) ∧ (0 : Nat) = (0 : Nat) ∧ q = q ∧ qc = qc)
 (.chk (pn = pn ∧ [IntKind.u64, IntKind.u8] = [IntKind.u64, IntKind.u8] ∧ P = P ∧ pc = pc)
 (.chk (qn = qn ∧ [IntKind.u64, IntKind.u8] = [IntKind.u64, IntKind.u8] ∧ Q = Q ∧ qc = qc)
 (.leaf (.inr (.inl ⟨P, p, pn, pc, Q, q, qn, qc⟩))))))))))) := by kernel_rfl
def jaMu (A : Option Addr) (X : List Int) (n cap : Nat) (u v : Int) (kk : Nat) (p : jaP) (x : jaX) : Nat := n - x.i
theorem ja_step (w : World) (A : Option Addr) (X : List Int) (n cap : Nat) (u v : Int) (kk : Nat) (p : jaP) (x : jaX) (hX : XR w A [.u64, .u8] X n) (hc : n ≤ cap) (hkk : 0 < n → kk < n) (hT : TD X) (h : jaInv A X n cap u v kk p x) : Hid (roundT Try.prog w (flatT Try.prog) (noCtr) (callT Try.prog w (flatT Try.prog) (noCtr) (noPre) (lpOf Try.prog [jbLp A X n cap u v kk]) 20) ((lpOf Try.prog [jbLp A X n cap u v kk]) 8) (roundOf (bodyAt Try.prog 8 0)) 0 0 jaRo jaRf jaRb (jaSt A X n cap u v kk p) (jaFin A X n cap u v kk p) (jaBck A X n cap u v kk p) jaNxX jaNxY jaNxZ x) (Kept (jaInv A X n cap u v kk p) (jaPost A X n cap u v kk p) (jaBack A X n cap u v kk p) (jaMu A X n cap u v kk p) x) := by
  obtain ⟨⟩ := p
  obtain ⟨P, p, pn, pc, Q, q, qn, qc, i⟩ := x
  constructor
  rw [jastep_tree]
  simp only [T.holds, Kept, jaMu, and_self, true_and, and_true]
  obtain ⟨i1, big, pl, pd, pnil, ql, qd, qnil, ⟨pi, qi⟩, pe, qe, ne⟩ := h
  simp only at i1 big pl pd pnil ql qd qnil pi qi pe qe ne
  have hl : X.length = n * 2 := hX.1
  subst pi
  subst qi
  have wi := winc (show q < 1000000000 by omega)
  have w1 : IntKind.i64.wrap ((n : Int) - 1) = (n : Int) - 1 := wi64 _ (by omega) (by omega)
  simp only [T.holds, List.length_singleton, show [IntKind.u64, IntKind.u8].length = 2 from rfl, Int.toNat_natCast, Nat.mul_one, Nat.sub_zero, Nat.zero_add, Nat.add_zero, Nat.zero_mul, true_and, and_true, and_self, decide_eq_true_eq, decide_eq_false_iff_not, bne_iff_ne, ne_eq, Bool.not_eq_true, bne_eq_false_iff_eq, not_true_eq_false, false_implies, true_implies, beq_iff_eq, beq_eq_false_iff_ne]
  refine ⟨fun hlt => ?_, fun hge => ?_⟩
  · have hlt : q < n := by omega
    have hkk := hkk (by omega)
    have w2 : IntKind.i64.wrap ((n : Int) - 1 - (q : Int)) = (n : Int) - 1 - q := wi64 _ (by omega) (by omega)
    have w3 : IntKind.i64.wrap ((n : Int) - 1 - (q : Int) + (kk : Int)) = (n : Int) - 1 - q + kk := wi64 _ (by omega) (by omega)
    have w4 : ((n : Int) - 1 - (q : Int) + (kk : Int)).tmod (n : Int) = ((Plan.sig n kk q : Nat) : Int) := by
      rw [Int.tmod_eq_emod_of_nonneg (by omega), Plan.sig_mod hlt hkk]
    have hs := Plan.sig_lt hlt hkk
    simp only [w1, w2, w3, w4, wi, Int.toNat_natCast]
    have tp : List.take (q * 2) P = P := List.take_of_length_le (by omega)
    have tq : List.take (q * 2) Q = Q := List.take_of_length_le (by omega)
    rw [tp, tq]
    refine ⟨rfl, ⟨hlt, Nat.zero_le _, big, fun b hb => absurd hb (Nat.not_lt_zero _)⟩, fun b => ⟨fun _ y => ?_, fun _ z => ⟨⟩⟩⟩
    have yn := y.so.ne
    simp only [Int.toNat_natCast] at yn
    refine ⟨⟨hX, by omega, by omega, by decide⟩, ⟨hX.2, by decide, by omega⟩, ⟨⟨by omega, pd.1, pd.2, fun e => (pnil e).2⟩, by omega⟩, fun g => ⟨by omega, ⟨hX, by omega, by omega, by decide⟩, ⟨hX.2, by decide, by omega⟩, ⟨⟨by omega, qd.1, qd.2, fun e => (qnil e).2⟩, by omega⟩, fun g2 => ⟨trivial, ⟨by show q + 1 ≤ n; omega, big, ?_, ⟨g.le, g.max⟩, (rowR g).nil, ?_, ⟨g2.le, g2.max⟩, (rowR g2).nil, ⟨rfl, rfl⟩, ?_, ?_, ?_⟩, by omega⟩⟩⟩
    · show (P ++ [X.getD (q * 2) 0, X.getD (q * 2 + 1) 0]).length = (q + 1) * 2
      simp; omega
    · show (Q ++ [_, _]).length = (q + 1) * 2
      simp; omega
    · show P ++ [X.getD (q * 2) 0, X.getD (q * 2 + 1) 0] = X.take ((q + 1) * 2)
      rw [pe, take2 (by omega)]
    · show Q ++ [_, _] = sgl X n kk (q + 1)
      rw [qe]
      rfl
    · intro a ha b hb
      have ha : a < q + 1 := ha
      by_cases e : a = q
      · subst e; exact yn b hb
      · exact ne a (by omega) b hb
  · have hq : q = n := by omega
    subst hq
    exact ⟨pl, pd, pnil, ql, qd, qnil, ⟨rfl, rfl⟩, by show P = X; rw [pe, List.take_of_length_le (by omega)], qe, ne⟩
theorem jaLp_ok (w : World) (A : Option Addr) (X : List Int) (n cap : Nat) (u v : Int) (kk : Nat) (hX : XR w A [.u64, .u8] X n) (hc : n ≤ cap) (hkk : 0 < n → kk < n) (hT : TD X) : (jaLp A X n cap u v kk).ok Try.prog w := by
  intro s t h
  unfold jaLp at h
  simp only at h
  split at h
  · rename_i p _
    split at h
    · rename_i x _
      cases h
      exact loop_ok base2 (ctrs_none _ w) (callT_ok base2.mixed base2.names base2.eqs (ctrs_none _ w).ok (ctrs_none _ w).there (pre_none _ _) (lps_ok fun l hl => by (simp only [List.mem_cons, List.not_mem_nil, or_false] at hl; subst hl; exact jbLp_ok w A X n cap u v kk hX hc hkk hT)) 20) ((lps_ok fun l hl => by (simp only [List.mem_cons, List.not_mem_nil, or_false] at hl; subst hl; exact jbLp_ok w A X n cap u v kk hX hc hkk hT)) 8) (c := roundOf (bodyAt Try.prog 8 0)) (by kernel_rfl) (id := 0) (n := 0) (hr := true) (ro := jaRo) (rf := jaRf) (rr := jaRb) (st := jaSt A X n cap u v kk p) (fin := jaFin A X n cap u v kk p) (bck := jaBck A X n cap u v kk p) (inv := jaInv A X n cap u v kk p) (post := jaPost A X n cap u v kk p) (back := jaBack A X n cap u v kk p) (nx := jaNxX) (fx := jaNxY) (bx := jaNxZ) (jaMu A X n cap u v kk p) (nf := 2) (nf' := 2) (nf'' := 0) (fun x => by kernel_rfl) (fun y => by kernel_rfl) (fun z => by kernel_rfl) (.inl rfl) (fun x hx => ja_step w A X n cap u v kk p x hX hc hkk hT hx) s x
    · cases h
  · cases h
structure jcP where
  P : List Int
  p : Nat
  pn : Bool
  pc : Nat
  Q : List Int
  q : Nat
  qn : Bool
  qc : Nat
structure jcX where
  st : Bool
  i : Nat
structure jcY where
  st : Bool
def jcSt (A : Option Addr) (X : List Int) (n cap : Nat) (u v : Int) (kk : Nat) : jcP → jcX → ASt := fun ⟨P, p, pn, pc, Q, q, qn, qc⟩ ⟨st, i⟩ => ⟨slots (List.replicate 136 .any) [(0, .v (.one (.xr A [.u64, .u8] X n cap))), (2, .v (.one (.int false .u64 u))), (3, .v (.one (.int false .u8 v))), (9, .v (.one (.gs 0 pn 2 0 p pc))), (10, .v (.one (.gs 1 qn 2 0 q qc))), (14, .v (.one (.bool false st))), (81, .v (.one (.int false .i64 (n : Int)))), (82, .v (.one (.int false .i64 (i : Int))))], [⟨[.row pn [.u64, .u8] P pc], 41⟩, ⟨[.row qn [.u64, .u8] Q qc], 41⟩]⟩
def jcFin (A : Option Addr) (X : List Int) (n cap : Nat) (u v : Int) (kk : Nat) : jcP → jcY → ASt := fun ⟨P, p, pn, pc, Q, q, qn, qc⟩ ⟨st⟩ => ⟨slots (List.replicate 136 .any) [(0, .v (.one (.xr A [.u64, .u8] X n cap))), (2, .v (.one (.int false .u64 u))), (3, .v (.one (.int false .u8 v))), (9, .v (.one (.gs 0 pn 2 0 p pc))), (10, .v (.one (.gs 1 qn 2 0 q qc))), (14, .v (.one (.bool false st)))], [⟨[.row pn [.u64, .u8] P pc], 41⟩, ⟨[.row qn [.u64, .u8] Q qc], 41⟩]⟩
def jcBck (A : Option Addr) (X : List Int) (n cap : Nat) (u v : Int) (kk : Nat) : jcP → Empty → ASt := fun _ z => nomatch z
def jcNxP : ASt → Option jcP := fun s => match sym.gX s 9 with | none => none | some P => match sym.gL s 9 with | none => none | some p => match sym.gN s 9 with | none => none | some pn => match sym.gC s 9 with | none => none | some pc => match sym.gX s 10 with | none => none | some Q => match sym.gL s 10 with | none => none | some q => match sym.gN s 10 with | none => none | some qn => match sym.gC s 10 with | none => none | some qc => some ⟨P, p, pn, pc, Q, q, qn, qc⟩
def jcNxX : ASt → Option jcX := fun s => match sym.gB s 14 with | none => none | some st => match (sym.gI s 82).map Int.toNat with | none => none | some i => some ⟨st, i⟩
def jcNxY : ASt → Option jcY := fun s => match sym.gB s 14 with | none => none | some st => some ⟨st⟩
def jcNxZ : ASt → Option Empty := fun _ => none
def jcRo : ASt → List (Option Nat) := (fun _ => [])
def jcRf : ASt → List (Option Nat) := (fun _ => [])
def jcRb : ASt → List (Option Nat) := (fun _ => [])
structure jcInv (A : Option Addr) (X : List Int) (n cap : Nat) (u v : Int) (kk : Nat) (p : jcP) (x : jcX) : Prop where
  i1 : x.i ≤ n
  big : n ≤ 100
  se : x.st = Plan.stays (tOf X) u.toNat v.toNat x.i
structure jcPost (A : Option Addr) (X : List Int) (n cap : Nat) (u v : Int) (kk : Nat) (p : jcP) (x : jcY) : Prop where
  se : x.st = Plan.stays (tOf X) u.toNat v.toNat n
def jcBack (A : Option Addr) (X : List Int) (n cap : Nat) (u v : Int) (kk : Nat) (p : jcP) (x : Empty) : Prop := False
def jcLp (A : Option Addr) (X : List Int) (n cap : Nat) (u v : Int) (kk : Nat) : Lp := ⟨8, 4, fun s => match jcNxP s with
  | some p => match jcNxX s with
    | some x => some (loopT 4 2 false jcRo (jcSt A X n cap u v kk p) (jcFin A X n cap u v kk p) (jcBck A X n cap u v kk p) (jcInv A X n cap u v kk p) (jcPost A X n cap u v kk p) (jcBack A X n cap u v kk p) s x)
    | none => none
  | none => none⟩
theorem jcstep_tree (w : World) (A : Option Addr) (X : List Int) (n cap : Nat) (u v : Int) (kk : Nat) (P : List Int) (p : Nat) (pn : Bool) (pc : Nat) (Q : List Int) (q : Nat) (qn : Bool) (qc : Nat) (st : Bool) (i : Nat) :
    roundT Try.prog w (flatT Try.prog) (noCtr) (callT Try.prog w (flatT Try.prog) (noCtr) (noPre) (noLoop) 20) ((noLoop) 8) (roundOf (bodyAt Try.prog 8 4)) 4 2 jcRo jcRf jcRb (jcSt A X n cap u v kk ⟨P, p, pn, pc, Q, q, qn, qc⟩) (jcFin A X n cap u v kk ⟨P, p, pn, pc, Q, q, qn, qc⟩) (jcBck A X n cap u v kk ⟨P, p, pn, pc, Q, q, qn, qc⟩) jcNxX jcNxY jcNxZ ⟨st, i⟩ =
(.br (decide ((↑i : Int) < (↑n : Int)))
 (.chk (sym.XR w A [IntKind.u64, IntKind.u8] X n ∧
  (0 : Int) ≤ (↑i : Int) ∧ (↑i : Int) < (↑n : Int) ∧ (0 : Nat) < [IntKind.u64, IntKind.u8].length)
 (.chk (sym.XC w A [IntKind.u64, IntKind.u8] X ∧ (0 : Nat) < X.length)
 (.chk (sym.XC w A [IntKind.u64, IntKind.u8] X ∧
  (0 : Nat) < (1 : Nat) ∧ (↑i : Int).toNat * [IntKind.u64, IntKind.u8].length + (1 : Nat) ≤ X.length)
 (.br (decide (X.getD ((↑i : Int).toNat * [IntKind.u64, IntKind.u8].length + (0 : Nat)) (0 : Int) > u))
  (.chk (sym.XR w A [IntKind.u64, IntKind.u8] X n ∧
  (0 : Int) ≤ (↑i : Int) ∧ (↑i : Int) < (↑n : Int) ∧ (0 : Nat) < [IntKind.u64, IntKind.u8].length)
  (.chk (sym.XC w A [IntKind.u64, IntKind.u8] X ∧ (0 : Nat) < X.length)
  (.chk (sym.XC w A [IntKind.u64, IntKind.u8] X ∧
  (0 : Nat) < (1 : Nat) ∧ (↑i : Int).toNat * [IntKind.u64, IntKind.u8].length + (1 : Nat) ≤ X.length)
  (.br (decide
  (([IntKind.u64, IntKind.u8].getD (0 : Nat) IntKind.u8).wrap
      (X.getD ((↑i : Int).toNat * [IntKind.u64, IntKind.u8].length + (0 : Nat)) (0 : Int) - u) ≤
    IntKind.u64.wrap v))
   (.chk (A = A ∧ [IntKind.u64, IntKind.u8] = [IntKind.u64, IntKind.u8] ∧ X = X ∧ n = n ∧ cap = cap)
   (.chk (IntKind.u64 = IntKind.u64 ∧ u = u)
   (.chk (IntKind.u8 = IntKind.u8 ∧ v = v)
   (.chk (pn = pn ∧ (2 : Nat) = (2 : Nat) ∧ (0 : Nat) = (0 : Nat) ∧ p = p ∧ pc = pc)
   (.chk (qn = qn ∧ (2 : Nat) = (2 : Nat) ∧ (0 : Nat) = (0 : Nat) ∧ q = q ∧ qc = qc)
   (.chk (false = false)
   (.chk (IntKind.i64 = IntKind.i64 ∧ (↑n : Int) = (↑n : Int))
   (.chk (IntKind.i64 = IntKind.i64 ∧
  IntKind.i64.wrap ((↑i : Int) + (1 : Int)) = (↑(IntKind.i64.wrap ((↑i : Int) + (1 : Int))).toNat : Int))
   (.chk (pn = pn ∧ [IntKind.u64, IntKind.u8] = [IntKind.u64, IntKind.u8] ∧ P = P ∧ pc = pc)
   (.chk (qn = qn ∧ [IntKind.u64, IntKind.u8] = [IntKind.u64, IntKind.u8] ∧ Q = Q ∧ qc = qc)
   (.leaf (.inl ⟨false, (IntKind.i64.wrap ((↑i : Int) + (1 : Int))).toNat⟩))))))))))))
   (.chk (A = A ∧ [IntKind.u64, IntKind.u8] = [IntKind.u64, IntKind.u8] ∧ X = X ∧ n = n ∧ cap = cap)
   (.chk (IntKind.u64 = IntKind.u64 ∧ u = u)
   (.chk (IntKind.u8 = IntKind.u8 ∧ v = v)
   (.chk (pn = pn ∧ (2 : Nat) = (2 : Nat) ∧ (0 : Nat) = (0 : Nat) ∧ p = p ∧ pc = pc)
   (.chk (qn = qn ∧ (2 : Nat) = (2 : Nat) ∧ (0 : Nat) = (0 : Nat) ∧ q = q ∧ qc = qc)
   (.chk (st = st)
   (.chk (IntKind.i64 = IntKind.i64 ∧ (↑n : Int) = (↑n : Int))
   (.chk (IntKind.i64 = IntKind.i64 ∧
  IntKind.i64.wrap ((↑i : Int) + (1 : Int)) = (↑(IntKind.i64.wrap ((↑i : Int) + (1 : Int))).toNat : Int))
   (.chk (pn = pn ∧ [IntKind.u64, IntKind.u8] = [IntKind.u64, IntKind.u8] ∧ P = P ∧ pc = pc)
   (.chk (qn = qn ∧ [IntKind.u64, IntKind.u8] = [IntKind.u64, IntKind.u8] ∧ Q = Q ∧ qc = qc)
   (.leaf (.inl ⟨st, (IntKind.i64.wrap ((↑i : Int) + (1 : Int))).toNat⟩))))))))))))))))
  (.chk (A = A ∧ [IntKind.u64, IntKind.u8] = [IntKind.u64, IntKind.u8] ∧ X = X ∧ n = n ∧ cap = cap)
  (.chk (IntKind.u64 = IntKind.u64 ∧ u = u)
  (.chk (IntKind.u8 = IntKind.u8 ∧ v = v)
  (.chk (pn = pn ∧ (2 : Nat) = (2 : Nat) ∧ (0 : Nat) = (0 : Nat) ∧ p = p ∧ pc = pc)
  (.chk (qn = qn ∧ (2 : Nat) = (2 : Nat) ∧ (0 : Nat) = (0 : Nat) ∧ q = q ∧ qc = qc)
  (.chk (st = st)
  (.chk (IntKind.i64 = IntKind.i64 ∧ (↑n : Int) = (↑n : Int))
  (.chk (IntKind.i64 = IntKind.i64 ∧
  IntKind.i64.wrap ((↑i : Int) + (1 : Int)) = (↑(IntKind.i64.wrap ((↑i : Int) + (1 : Int))).toNat : Int))
  (.chk (pn = pn ∧ [IntKind.u64, IntKind.u8] = [IntKind.u64, IntKind.u8] ∧ P = P ∧ pc = pc)
  (.chk (qn = qn ∧ [IntKind.u64, IntKind.u8] = [IntKind.u64, IntKind.u8] ∧ Q = Q ∧ qc = qc)
  (.leaf (.inl ⟨st, (IntKind.i64.wrap ((↑i : Int) + (1 : Int))).toNat⟩))))))))))))))))
 (.chk (A = A ∧ [IntKind.u64, IntKind.u8] = [IntKind.u64, IntKind.u8] ∧ X = X ∧ n = n ∧ cap = cap)
 (.chk (IntKind.u64 = IntKind.u64 ∧ u = u)
 (.chk (IntKind.u8 = IntKind.u8 ∧ v = v)
 (.chk (pn = pn ∧ (2 : Nat) = (2 : Nat) ∧ (0 : Nat) = (0 : Nat) ∧ p = p ∧ pc = pc)
 (.chk (qn = qn ∧ (2 : Nat) = (2 : Nat) ∧ (0 : Nat) = (0 : Nat) ∧ q = q ∧ qc = qc)
 (.chk (st = st)
 (.chk (pn = pn ∧ [IntKind.u64, IntKind.u8] = [IntKind.u64, IntKind.u8] ∧ P = P ∧ pc = pc)
 (.chk (qn = qn ∧ [IntKind.u64, IntKind.u8] = [IntKind.u64, IntKind.u8] ∧ Q = Q ∧ qc = qc)
 (.leaf (.inr (.inl ⟨st⟩)))))))))))) := by kernel_rfl
def jcMu (A : Option Addr) (X : List Int) (n cap : Nat) (u v : Int) (kk : Nat) (p : jcP) (x : jcX) : Nat := n - x.i
theorem jc_step (w : World) (A : Option Addr) (X : List Int) (n cap : Nat) (u v : Int) (kk : Nat) (p : jcP) (x : jcX) (hX : XR w A [.u64, .u8] X n) (hc : n ≤ cap) (hkk : 0 < n → kk < n) (hT : TD X) (hu : 0 ≤ u ∧ u < 18446744073709551616) (hv : 0 ≤ v ∧ v < 256) (h : jcInv A X n cap u v kk p x) : Hid (roundT Try.prog w (flatT Try.prog) (noCtr) (callT Try.prog w (flatT Try.prog) (noCtr) (noPre) (noLoop) 20) ((noLoop) 8) (roundOf (bodyAt Try.prog 8 4)) 4 2 jcRo jcRf jcRb (jcSt A X n cap u v kk p) (jcFin A X n cap u v kk p) (jcBck A X n cap u v kk p) jcNxX jcNxY jcNxZ x) (Kept (jcInv A X n cap u v kk p) (jcPost A X n cap u v kk p) (jcBack A X n cap u v kk p) (jcMu A X n cap u v kk p) x) := by
  obtain ⟨P, p, pn, pc, Q, q, qn, qc⟩ := p
  obtain ⟨st, i⟩ := x
  constructor
  rw [jcstep_tree]
  simp only [T.holds, Kept, jcMu, and_self, true_and, and_true]
  obtain ⟨i1, big, se⟩ := h
  simp only at i1 big se
  have hl : X.length = n * 2 := hX.1
  have wi := winc (show i < 1000000000 by omega)
  have wv : IntKind.u64.wrap v = v := by simp [IntKind.wrap, IntKind.bits, IntKind.signed]; omega
  obtain ⟨⟨t0, t1⟩, _⟩ := hT i
  have tt : ((tOf X i : Nat) : Int) = X.getD (i * 2) 0 := by unfold tOf; omega
  simp only [T.holds, List.length_singleton, show [IntKind.u64, IntKind.u8].length = 2 from rfl, Int.toNat_natCast, Nat.mul_one, Nat.sub_zero, Nat.zero_add, Nat.add_zero, Nat.zero_mul, true_and, and_true, and_self, decide_eq_true_eq, decide_eq_false_iff_not, bne_iff_ne, ne_eq, Bool.not_eq_true, bne_eq_false_iff_eq, not_true_eq_false, false_implies, true_implies, beq_iff_eq, beq_eq_false_iff_ne]
  refine ⟨fun hlt => ?_, fun hge => ?_⟩
  · have hlt : i < n := by omega
    rw [wi, wv]
    simp only [Int.toNat_natCast, true_and]
    refine ⟨⟨hX, by omega, by omega, by decide⟩, ⟨hX.2, by omega⟩, ⟨hX.2, by decide, by omega⟩, fun hgt => ⟨⟨hX, by omega, by omega, by decide⟩, ⟨hX.2, by omega⟩, ⟨hX.2, by decide, by omega⟩, fun hle => ⟨⟨?_, big, ?_⟩, ?_⟩, fun hle => ⟨⟨?_, big, ?_⟩, ?_⟩⟩, fun hgt => ⟨⟨?_, big, ?_⟩, ?_⟩⟩
    all_goals try (show i + 1 ≤ n; omega)
    all_goals try (show n - (i + 1) < n - i; omega)
    · have ws : IntKind.u64.wrap (X.getD (i * 2) 0 - u) = X.getD (i * 2) 0 - u := by rw [wu64]; omega
      change IntKind.u64.wrap (X.getD (i * 2) 0 - u) ≤ v at hle
      rw [ws] at hle
      show false = Plan.stays (tOf X) u.toNat v.toNat (i + 1)
      simp only [Plan.stays]
      rw [if_pos (by omega)]
    · have ws : IntKind.u64.wrap (X.getD (i * 2) 0 - u) = X.getD (i * 2) 0 - u := by rw [wu64]; omega
      change ¬ IntKind.u64.wrap (X.getD (i * 2) 0 - u) ≤ v at hle
      rw [ws] at hle
      show st = Plan.stays (tOf X) u.toNat v.toNat (i + 1)
      simp only [Plan.stays]
      rw [if_neg (by omega), se]
    · show st = Plan.stays (tOf X) u.toNat v.toNat (i + 1)
      simp only [Plan.stays]
      rw [if_neg (by omega), se]
  · refine ⟨?_⟩
    show st = _
    rw [se, show i = n by omega]
theorem jcLp_ok (w : World) (A : Option Addr) (X : List Int) (n cap : Nat) (u v : Int) (kk : Nat) (hX : XR w A [.u64, .u8] X n) (hc : n ≤ cap) (hkk : 0 < n → kk < n) (hT : TD X) (hu : 0 ≤ u ∧ u < 18446744073709551616) (hv : 0 ≤ v ∧ v < 256) : (jcLp A X n cap u v kk).ok Try.prog w := by
  intro s t h
  unfold jcLp at h
  simp only at h
  split at h
  · rename_i p _
    split at h
    · rename_i x _
      cases h
      exact loop_ok base2 (ctrs_none _ w) (callT_ok base2.mixed base2.names base2.eqs (ctrs_none _ w).ok (ctrs_none _ w).there (pre_none _ _) (loops_none _ _) 20) ((loops_none _ _) 8) (c := roundOf (bodyAt Try.prog 8 4)) (by kernel_rfl) (id := 4) (n := 2) (hr := false) (ro := jcRo) (rf := jcRf) (rr := jcRb) (st := jcSt A X n cap u v kk p) (fin := jcFin A X n cap u v kk p) (bck := jcBck A X n cap u v kk p) (inv := jcInv A X n cap u v kk p) (post := jcPost A X n cap u v kk p) (back := jcBack A X n cap u v kk p) (nx := jcNxX) (fx := jcNxY) (bx := jcNxZ) (jcMu A X n cap u v kk p) (nf := 2) (nf' := 2) (nf'' := 2) (fun x => by kernel_rfl) (fun y => by kernel_rfl) (fun z => nomatch z) (.inr fun z => nomatch z) (fun x hx => jc_step w A X n cap u v kk p x hX hc hkk hT hu hv hx) s x
    · cases h
  · cases h
theorem order_tree (w : World) (A : Option Addr) (X : List Int) (n cap : Nat) (u v : Int) (kk : Nat) (u0 : Int) :
    callV Try.prog w (flatT Try.prog) (ctrOf awT) (preOf w jtab) (lpOf Try.prog [jaLp A X n cap u v kk, jbLp A X n cap u v kk, jcLp A X n cap u v kk]) 20 8 [.v (.one (.xr A [.u64, .u8] X n cap)), .v (.one (.int false .u64 u0)), .v (.one (.int false .u64 u)), .v (.one (.int false .u8 v))] =
(.br (decide ((↑n : Int) > (100 : Int)))
 (.leaf (.v (.one (.bool true true))))
 (.br ((↑n : Int) == (0 : Int))
  (.leaf (.v (.one (.bool true true))))
  (.chk (IntKind.u64.wrap (↑n : Int) ≠ (0 : Int))
  (.chk (sym.textAt Go.Proofs.Try.prog (8 : Go.FuncId) (0 : Nat) = sym.textAt Go.Proofs.Try.prog (8 : Go.FuncId) (0 : Nat))
  (.chk (A = A ∧ [IntKind.u64, IntKind.u8] = [IntKind.u64, IntKind.u8] ∧ X = X ∧ n = n ∧ cap = cap)
  (.chk (IntKind.u64 = IntKind.u64 ∧ u = u)
  (.chk (IntKind.u8 = IntKind.u8 ∧ v = v)
  (.chk (true = true ∧ (0 : Nat) = (0 : Nat) ∧ (0 : Nat) = (0 : Nat))
  (.chk (true = true ∧ (0 : Nat) = (0 : Nat) ∧ (0 : Nat) = (0 : Nat))
  (.chk (IntKind.i64 = IntKind.i64 ∧ IntKind.i64.wrap (u0.tmod (IntKind.u64.wrap (↑n : Int))) = (↑kk : Int))
  (.chk (IntKind.i64 = IntKind.i64 ∧ (↑n : Int) = (↑n : Int))
  (.chk (IntKind.i64 = IntKind.i64 ∧ (0 : Int) = (↑(0 : Nat) : Int))
  (.chk (true = true ∧ ([] : List Int) = [])
  (.chk (true = true ∧ ([] : List Int) = [])
  (.chk (jaInv A X n cap u v kk { }
  { P := [], p := (0 : Nat), pn := true, pc := (0 : Nat), Q := [], q := (0 : Nat), qn := true,
    qc := (0 : Nat), i := (0 : Nat) })
  (.all fun x : Bool =>
   (.br (x)
    (.all fun x_1 : sym.Got jaY
  (jaPost A X n cap u v kk { }) =>
     (.chk (sym.textAt Go.Proofs.Try.prog (8 : Go.FuncId) (4 : Nat) = sym.textAt Go.Proofs.Try.prog (8 : Go.FuncId) (4 : Nat))
     (.chk (A = A ∧ [IntKind.u64, IntKind.u8] = [IntKind.u64, IntKind.u8] ∧ X = X ∧ n = n ∧ cap = cap)
     (.chk (IntKind.u64 = IntKind.u64 ∧ u = u)
     (.chk (IntKind.u8 = IntKind.u8 ∧ v = v)
     (.chk (x_1.1.3 = x_1.1.3 ∧ (2 : Nat) = (2 : Nat) ∧ (0 : Nat) = (0 : Nat) ∧ x_1.1.2 = x_1.1.2 ∧ x_1.1.4 = x_1.1.4)
     (.chk (x_1.1.7 = x_1.1.7 ∧ (2 : Nat) = (2 : Nat) ∧ (0 : Nat) = (0 : Nat) ∧ x_1.1.6 = x_1.1.6 ∧ x_1.1.8 = x_1.1.8)
     (.chk (true = true)
     (.chk (IntKind.i64 = IntKind.i64 ∧ (↑n : Int) = (↑n : Int))
     (.chk (IntKind.i64 = IntKind.i64 ∧ (0 : Int) = (↑(0 : Nat) : Int))
     (.chk (x_1.1.3 = x_1.1.3 ∧
  [IntKind.u64, IntKind.u8] = [IntKind.u64, IntKind.u8] ∧ x_1.1.1 = x_1.1.1 ∧ x_1.1.4 = x_1.1.4)
     (.chk (x_1.1.7 = x_1.1.7 ∧
  [IntKind.u64, IntKind.u8] = [IntKind.u64, IntKind.u8] ∧ x_1.1.5 = x_1.1.5 ∧ x_1.1.8 = x_1.1.8)
     (.chk (jcInv A X n cap u v kk
  { P := x_1.1.1, p := x_1.1.2, pn := x_1.1.3, pc := x_1.1.4, Q := x_1.1.5, q := x_1.1.6, qn := x_1.1.7, qc := x_1.1.8 }
  { st := true, i := (0 : Nat) })
     (.all fun x_2 : sym.Got jcY
  (jcPost A X n cap u v kk
    { P := x_1.1.1, p := x_1.1.2, pn := x_1.1.3, pc := x_1.1.4, Q := x_1.1.5, q := x_1.1.6, qn := x_1.1.7,
      qc := x_1.1.8 }) =>
      (.chk ((x_1.1.3 = x_1.1.3 ∧ ((0 : Nat) + x_1.1.2) * (2 : Nat) ≤ x_1.1.1.length ∧ x_1.1.2 ≤ x_1.1.4) ∧ True)
      (.chk (x_1.1.2 ≤ (1000 : Nat) ∧
  TD
      (sym.cutL x_1.1.1 (0 : Nat) ((0 : Nat) + x_1.1.2) (2 : Nat)) ∧
    (0 : Int) ≤ u)
      (.chk ((x_1.1.7 = x_1.1.7 ∧ ((0 : Nat) + x_1.1.6) * (2 : Nat) ≤ x_1.1.5.length ∧ x_1.1.6 ≤ x_1.1.8) ∧ True)
      (.chk (x_1.1.6 ≤ (1000 : Nat) ∧
  TD
      (sym.cutL x_1.1.5 (0 : Nat) ((0 : Nat) + x_1.1.6) (2 : Nat)) ∧
    (0 : Int) ≤ u)
      (.br ((↑(Plan.keys
        (dOf
          (sym.cutL x_1.1.1 (0 : Nat) ((0 : Nat) + x_1.1.2) (2 : Nat)))
        (Plan.best
          (tOf
            (sym.cutL x_1.1.1 (0 : Nat) ((0 : Nat) + x_1.1.2) (2 : Nat)))
          u.toNat x_1.1.2)) :
    Int) ==
  (↑(Plan.keys
        (dOf
          (sym.cutL x_1.1.5 (0 : Nat) ((0 : Nat) + x_1.1.6) (2 : Nat)))
        (Plan.best
          (tOf
            (sym.cutL x_1.1.5 (0 : Nat) ((0 : Nat) + x_1.1.6) (2 : Nat)))
          u.toNat x_1.1.6)) :
    Int))
       (.br (!x_2.1.1)
        (.leaf (.v (.one (.bool true true))))
        (.br (decide (IntKind.u64.wrap (u + IntKind.u64.wrap v) < u))
         (.leaf (.v (.one (.bool true true))))
         (.chk ((x_1.1.3 = x_1.1.3 ∧ ((0 : Nat) + x_1.1.2) * (2 : Nat) ≤ x_1.1.1.length ∧ x_1.1.2 ≤ x_1.1.4) ∧ True)
         (.chk (x_1.1.2 ≤ (1000 : Nat) ∧
  TD
      (sym.cutL x_1.1.1 (0 : Nat) ((0 : Nat) + x_1.1.2) (2 : Nat)) ∧
    (0 : Int) ≤ IntKind.u64.wrap (u + IntKind.u64.wrap v))
         (.chk ((x_1.1.3 = x_1.1.3 ∧ ((0 : Nat) + x_1.1.2) * (2 : Nat) ≤ x_1.1.1.length ∧ x_1.1.2 ≤ x_1.1.4) ∧ True)
         (.chk (x_1.1.2 ≤ (1000 : Nat) ∧
  TD
      (sym.cutL x_1.1.1 (0 : Nat) ((0 : Nat) + x_1.1.2) (2 : Nat)) ∧
    (0 : Int) ≤ u)
         (.leaf (.v (.one (.bool false ((↑(Plan.keys
        (dOf
          (sym.cutL x_1.1.1 (0 : Nat) ((0 : Nat) + x_1.1.2) (2 : Nat)))
        (Plan.best
          (tOf
            (sym.cutL x_1.1.1 (0 : Nat) ((0 : Nat) + x_1.1.2) (2 : Nat)))
          (IntKind.u64.wrap (u + IntKind.u64.wrap v)).toNat x_1.1.2)) :
    Int) ==
  (↑(Plan.keys
        (dOf
          (sym.cutL x_1.1.1 (0 : Nat) ((0 : Nat) + x_1.1.2) (2 : Nat)))
        (Plan.best
          (tOf
            (sym.cutL x_1.1.1 (0 : Nat) ((0 : Nat) + x_1.1.2) (2 : Nat)))
          u.toNat x_1.1.2)) :
    Int))))))))))))
       (.leaf (.v (.one (.bool true false)))))))))))))))))))))))
    (.all fun x_1 : sym.Got jaZ
  (jaBack A X n cap u v kk { }) =>
     (.leaf (.v (.one (.bool true true)))))))))))))))))))))) := by kernel_rfl
set_option maxHeartbeats 2000000 in
theorem order_walk (w : World) (A : Option Addr) (X : List Int) (n cap : Nat) (u0 u v : Int) (hX : XR w A [.u64, .u8] X n) (hc : n ≤ cap) (hT : TD X) (hu0 : 0 ≤ u0 ∧ u0 < 18446744073709551616) (hu : 0 ≤ u ∧ u < 18446744073709551616) (hv : 0 ≤ v ∧ v < 256) :
    Calls Try.prog 8 #[.slice A n cap, .int .u64 u0, .int .u64 u, .int .u8 v] w fun e w' => e = .returned (.bool true) ∧ Below w.heap.size w w' := by
  have hl : X.length = n * 2 := hX.1
  generalize hkk : u0.toNat % n = kk
  have hk' : 0 < n → kk < n := fun h => by rw [← hkk]; exact Nat.mod_lt _ h
  refine val_eq base2 (awT_ok w) (preOf_ok jtab_ok w) (lps_ok (ls := [jaLp A X n cap u v kk, jbLp A X n cap u v kk, jcLp A X n cap u v kk]) fun l hl => ?_) (order_tree w A X n cap u v kk u0) rfl ?_
  · simp only [List.mem_cons, List.not_mem_nil, or_false] at hl
    rcases hl with rfl | rfl | rfl
    · exact jaLp_ok w _ _ _ _ _ _ _ hX hc hk' hT
    · exact jbLp_ok w _ _ _ _ _ _ _ hX hc hk' hT
    · exact jcLp_ok w _ _ _ _ _ _ _ hX hc hk' hT hu hv
  by_cases hbig : 100 < n
  · exact ⟨fun _ => ⟨rfl, rfl⟩, fun h => absurd (of_decide_eq_false h) (by omega)⟩
  by_cases h0 : n = 0
  · subst h0
    exact ⟨fun _ => ⟨rfl, rfl⟩, fun _ => ⟨fun _ => ⟨rfl, rfl⟩, fun h => by simp at h⟩⟩
  have hk := hk' (by omega)
  have wn : IntKind.u64.wrap (n : Int) = n := by simp [IntKind.wrap, IntKind.bits, IntKind.signed]; omega
  have ut : u0.tmod (n : Int) = ((kk : Nat) : Int) := by
    rw [Int.tmod_eq_emod_of_nonneg hu0.1, ← hkk]
    obtain ⟨a, rfl⟩ := Int.eq_ofNat_of_zero_le hu0.1
    simp
  have wk : IntKind.i64.wrap ((kk : Nat) : Int) = kk := wi64 _ (by omega) (by omega)
  have wv : IntKind.u64.wrap v = v := by simp [IntKind.wrap, IntKind.bits, IntKind.signed]; omega
  have hn0 : (((n : Nat) : Int) == 0) = false := by simp; omega
  rw [wn, ut, wk, wv, hn0]
  simp only [T.holds, show ((0 : Nat) : Int) = 0 from rfl, Nat.zero_add, true_and, and_true, and_self, Bool.false_eq_true, false_implies, forall_const]
  refine ⟨fun _ => ⟨rfl, rfl⟩, fun _ => ⟨by omega, ⟨Nat.zero_le _, by omega, rfl, ⟨Nat.le_refl _, Nat.zero_le _⟩, fun _ => ⟨rfl, rfl⟩, rfl, ⟨Nat.le_refl _, Nat.zero_le _⟩, fun _ => ⟨rfl, rfl⟩, ⟨rfl, rfl⟩, (by show ([] : List Int) = X.take (0 * 2); simp), rfl, fun a ha => absurd ha (Nat.not_lt_zero _)⟩, fun b => ⟨fun _ x => ?_, fun _ _ => ⟨rfl, rfl⟩⟩⟩⟩
  obtain ⟨⟨P, p, pn, pc, Q, q, qn, qc⟩, pl, pd, pnil, ql, qd, qnil, ⟨pi, qi⟩, pe, qe, ne⟩ := x
  simp only at pl pd pnil ql qd qnil pi qi pe qe ne
  subst pi
  subst pe
  subst qe
  have hq : q = p := qi
  subst hq
  have c1 : cutL P 0 q 2 = P := by unfold cutL; rw [Nat.zero_mul, List.drop_zero, List.take_of_length_le (by omega)]
  have c2 : cutL (sgl P q kk q) 0 q 2 = sgl P q kk q := by unfold cutL; rw [Nat.zero_mul, List.drop_zero, List.take_of_length_le (by omega)]
  simp only [c1, c2]
  have ct : ∀ c, c < q → tOf (sgl P q kk q) c = tOf P (Plan.sig q kk c) := fun c hc => by
    unfold tOf
    rw [(sgl_at P q kk q c hc).1]
  have cd : ∀ c, c < q → dOf (sgl P q kk q) c = dOf P (Plan.sig q kk c) := fun c hc => by
    unfold dOf
    rw [(sgl_at P q kk q c hc).2]
  have e1 : Plan.keys (dOf P) (Plan.best (tOf P) u.toNat q) = Plan.keys (dOf (sgl P q kk q)) (Plan.best (tOf (sgl P q kk q)) u.toNat q) := by
    rw [keys_congr u.toNat ct cd]
    exact Plan.order_same _ _ _ _ _ hk ne
  rw [← e1]
  simp only [beq_self_eq_true, forall_const, Bool.true_eq_false, false_implies, and_true]
  refine ⟨⟨Nat.zero_le _, by omega, rfl⟩, fun y => ⟨⟨by omega, pd.1⟩, ⟨by omega, hT, hu.1⟩, ⟨by omega, qd.1⟩, ⟨by omega, sgl_TD hT _ _ _, hu.1⟩, fun _ => ⟨rfl, rfl⟩, fun hst => ⟨fun _ => ⟨rfl, rfl⟩, fun hlt => ?_⟩⟩⟩
  have hst : y.it.st = true := by simpa using hst
  have hlt := of_decide_eq_false hlt
  rw [wu64] at hlt
  have wuv : IntKind.u64.wrap (u + v) = u + v := by rw [wu64]; omega
  rw [wuv]
  refine ⟨⟨by omega, pd.1⟩, ⟨by omega, hT, by omega⟩, ⟨by omega, pd.1⟩, ⟨by omega, hT, hu.1⟩, rfl, ?_⟩
  have hs := y.so.se
  rw [hst] at hs
  have hb := Plan.best_stays (tOf P) u.toNat v.toNat q (Plan.stays_at (tOf P) u.toNat v.toNat q hs.symm)
  rw [show (u + v).toNat = u.toNat + v.toNat by omega, hb]
  simp only [AV.γ, V.γ, Sc.γ, beq_self_eq_true]
end Go.Proofs.Ytiafdnihgnjohaa
