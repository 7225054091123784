/-
  The document's answer to orders: what they come to is what the program's come to. Rows have at most 1000000 orders; registers and numbers are as they can be.
-/
import Derived.Test.YtmbahohmiecfiaaR6
namespace Go.Proofs.Ytmbahohmiecfiaa
open Go.RowKit sym
set_option linter.unusedVariables false
set_option linter.unusedSimpArgs false
set_option maxRecDepth 100000
def rrC (op n : Int) (r : Nat) : Bool :=  (bif
    decide
      (op < (1 : Int)) then
  true
else
  bif
      decide
        (op > (24 : Int)) then
    true
  else
    bif
        decide
          (op > (2 : Int)) then
      bif n != (0 : Int) then
        true
      else
        bif op == (2 : Int) then
          bif
              decide
                (n <
                  (0 : Int)) then
            true
          else
            bif
                decide
                  (n >
                    (17 : Int)) then
              true
            else
              bif
                  decide
                    (op ≥
                      (3 : Int)) then
                bif decide ((↑r : Int) < (1 : Int)) then true
                else
                  bif
                      decide
                        (op ≥
                          (7 : Int)) then
                    decide ((↑r : Int) < (2 : Int))
                  else false
              else
                bif
                    decide
                      (op ≥
                        (7 : Int)) then
                  decide ((↑r : Int) < (2 : Int))
                else false
        else
          bif
              decide
                (op ≥
                  (3 : Int)) then
            bif decide ((↑r : Int) < (1 : Int)) then true
            else
              bif
                  decide
                    (op ≥
                      (7 : Int)) then
                decide ((↑r : Int) < (2 : Int))
              else false
          else
            bif
                decide
                  (op ≥
                    (7 : Int)) then
              decide ((↑r : Int) < (2 : Int))
            else false
    else
      bif op == (2 : Int) then
        bif
            decide
              (n <
                (0 : Int)) then
          true
        else
          bif
              decide
                (n >
                  (17 : Int)) then
            true
          else
            bif
                decide
                  (op ≥
                    (3 : Int)) then
              bif decide ((↑r : Int) < (1 : Int)) then true
              else
                bif
                    decide
                      (op ≥
                        (7 : Int)) then
                  decide ((↑r : Int) < (2 : Int))
                else false
            else
              bif
                  decide
                    (op ≥
                      (7 : Int)) then
                decide ((↑r : Int) < (2 : Int))
              else false
      else
        bif
            decide
              (op ≥
                (3 : Int)) then
          bif decide ((↑r : Int) < (1 : Int)) then true
          else
            bif
                decide
                  (op ≥
                    (7 : Int)) then
              decide ((↑r : Int) < (2 : Int))
            else false
        else
          bif
              decide
                (op ≥
                  (7 : Int)) then
            decide ((↑r : Int) < (2 : Int))
          else false)
theorem rrC_is (op n : Int) (r : Nat) : rrC op n r = true ↔ op < 1 ∨ 24 < op ∨ (2 < op ∧ n ≠ 0) ∨ (op = 2 ∧ (n < 0 ∨ 17 < n)) ∨ (3 ≤ op ∧ r < 1) ∨ (7 ≤ op ∧ r < 2) := by
  unfold rrC
  simp only [Bool.cond_eq_ite, decide_eq_true_eq, bne_iff_ne, beq_iff_eq]
  repeat' split
  all_goals simp only [true_iff, Bool.false_eq_true, false_iff, decide_eq_true_eq]
  all_goals omega
theorem err_is {op n : Int} {r : Nat} (h : rrC op n r = true) : takesL op n < 0 ∨ (r : Int) < takesL op n := by
  have h := (rrC_is op n r).1 h
  unfold takesL
  split
  · omega
  · split
    · exact .inl (by decide)
    · split <;> omega
theorem ok_is {op n : Int} {r : Nat} (h : rrC op n r = false) : (1 ≤ op ∧ op ≤ 24) ∧ (2 < op → n = 0) ∧ (op = 2 → 0 ≤ n ∧ n < 18) ∧ (3 ≤ op → 1 ≤ r) ∧ (7 ≤ op → 2 ≤ r) := by
  have h : ¬ rrC op n r = true := by rw [h]; exact Bool.false_ne_true
  rw [rrC_is] at h
  omega
theorem tmod_in (x : Int) : -65536 < x.tmod 65536 ∧ x.tmod 65536 < 65536 := by
  rcases Int.le_total 0 x with h | h
  · rw [Int.tmod_eq_emod_of_nonneg h]; omega
  · have := Int.neg_tmod (-x) 65536
    rw [Int.neg_neg] at this
    rw [this, Int.tmod_eq_emod_of_nonneg (by omega)]
    omega
theorem u16m (x : Int) : IntKind.u16.wrap ((IntKind.i64.wrap (x.tmod 65536 + 65536)).tmod 65536) = IntKind.u16.wrap x := by
  have h : ∃ k, x.tmod 65536 = x + 65536 * k := ⟨-(x.tdiv 65536), by have := Int.mul_tdiv_add_tmod x 65536; omega⟩
  have hb := tmod_in x
  obtain ⟨k, hk⟩ := h
  rw [wi64 _ (by omega) (by omega), Int.tmod_eq_emod_of_nonneg (by omega), wu16, wu16]
  omega
theorem set_last {R : List Int} {r : Nat} (h : R.length = r) (h1 : 1 ≤ r) (v : Int) : R.set (r - 1) v = R.take (r - 1) ++ [v] := by
  rw [List.set_eq_take_append_cons_drop, if_pos (by omega), List.drop_of_length_le (by omega)]
theorem all_set {R : List Int} (h : ∀ v ∈ R, I6 v) (k : Nat) {v : Int} (hv : I6 v) : ∀ x ∈ R.set k v, I6 x := fun x hx => by
  rcases List.mem_or_eq_of_mem_set hx with h1 | rfl
  · exact h x h1
  · exact hv
theorem all_grow {R : List Int} (h : ∀ v ∈ R, I6 v) (k : Nat) {v : Int} (hv : I6 v) : ∀ x ∈ R.take k ++ [v], I6 x := fun x hx => by
  rcases List.mem_append.1 hx with h1 | h1
  · exact h x (List.mem_of_mem_take h1)
  · simp at h1; subst h1; exact hv
theorem all_get {R : List Int} (h : ∀ v ∈ R, I6 v) (k : Nat) : I6 (R.getD k 0) := by
  rw [List.getD_eq_getElem?_getD]
  cases hk : R[k]? with
  | none => exact ⟨by decide, by decide⟩
  | some x => exact h x (List.mem_of_getElem? hk)
theorem I6_ite {c : Prop} [Decidable c] {a b : Int} (h1 : I6 a) (h2 : I6 b) : I6 (if c then a else b) := by split <;> assumption
theorem I6_ite1 {c : Prop} [Decidable c] {p q : Int × Int} (h1 : c → I6 p.1) (h2 : ¬ c → I6 q.1) : I6 (if c then p else q).1 := by
  split
  · exact h1 (by assumption)
  · exact h2 (by assumption)
theorem b2_I6 (b : Bool) : I6 (B2 b) := by cases b <;> exact ⟨by decide, by decide⟩
theorem bits_I6 (o : BinOp) (x y : Int) : I6 (bits o .i64 x y) := by unfold bits; cases o <;> exact w_I6 _
theorem nameL_I6 {qa qf qb qc qd qe qh ql sp pc ad va ki ba n : Int} (h : RgB qa qf qb qc qd qe qh ql sp pc ad va ki ba) : I6 (nameL qa qf qb qc qd qe qh ql sp pc ad va ki ba n) := by
  obtain ⟨_, _, h1, h2, h3, h4⟩ := h
  unfold nameL pairL
  repeat' (first | exact w_I6 _ | assumption | refine I6_ite ?_ ?_)
theorem fdiv_I6 {x : Int} (h : I6 x) (k : Nat) : I6 (x.fdiv (2 ^ k)) := by
  obtain ⟨h1, h2⟩ := h
  rw [fd]
  have hp : (0 : Int) < 2 ^ k := Int.pow_pos (by decide)
  rcases Int.lt_or_le x 0 with hx | hx
  · have h3 : x ≤ x / 2 ^ k := Int.le_ediv_of_mul_le hp (by
      have := Int.mul_le_mul_of_nonpos_left (a := x) (b := 2 ^ k) (c := 1) (by omega) (by omega)
      omega)
    have h4 := Int.ediv_neg_of_neg_of_pos hx hp
    exact ⟨by omega, by omega⟩
  · have h3 := Int.ediv_nonneg hx (Int.le_of_lt hp)
    have h4 := Int.ediv_le_self (2 ^ k) hx
    exact ⟨by omega, by omega⟩
theorem tmod_I6 {x y : Int} (h : I6 x) (hy : I6 y) (h0 : y ≠ 0) : I6 (x.tmod y) := by
  obtain ⟨y1, y2⟩ := hy
  rcases Int.le_total 0 x with hx | hx
  · have e := Int.emod_lt x h0
    have e2 := Int.emod_nonneg x h0
    rw [Int.tmod_eq_emod_of_nonneg hx]
    exact ⟨by omega, by omega⟩
  · have := Int.neg_tmod (-x) y
    rw [Int.neg_neg] at this
    have e := Int.emod_lt (-x) h0
    have e2 := Int.emod_nonneg (-x) h0
    rw [this, Int.tmod_eq_emod_of_nonneg (by omega)]
    exact ⟨by omega, by omega⟩
theorem twoL_I6 (op : Int) {x y : Int} (hx : I6 x) (hy : I6 y) : I6 (twoL op x y).1 := by
  have z : I6 0 := ⟨by decide, by decide⟩
  unfold twoL
  by_cases a7 : op = 7
  · rw [if_pos a7]; dsimp only; exact b2_I6 _
  rw [if_neg a7]
  by_cases a8 : op = 8
  · rw [if_pos a8]; dsimp only; exact b2_I6 _
  rw [if_neg a8]
  by_cases a9 : op = 9
  · rw [if_pos a9]; dsimp only; exact bits_I6 _ _ _
  rw [if_neg a9]
  by_cases a10 : op = 10
  · rw [if_pos a10]; dsimp only; exact bits_I6 _ _ _
  rw [if_neg a10]
  by_cases a11 : op = 11
  · rw [if_pos a11]; dsimp only; exact bits_I6 _ _ _
  rw [if_neg a11]
  by_cases a18 : op = 18
  · rw [if_pos a18]; dsimp only; exact w_I6 _
  rw [if_neg a18]
  by_cases a19 : op = 19
  · rw [if_pos a19]; dsimp only; exact fdiv_I6 hx _
  rw [if_neg a19]
  by_cases a20 : op = 20
  · rw [if_pos a20]; dsimp only; exact w_I6 _
  rw [if_neg a20]
  by_cases a21 : op = 21
  · rw [if_pos a21]; dsimp only; exact w_I6 _
  rw [if_neg a21]
  by_cases a22 : op = 22
  · rw [if_pos a22]; dsimp only; exact w_I6 _
  rw [if_neg a22]
  by_cases a23 : op = 23
  · rw [if_pos a23]
    by_cases h0 : y = 0
    · rw [if_pos h0]; dsimp only; exact z
    · rw [if_neg h0]; dsimp only; exact w_I6 _
  rw [if_neg a23]
  by_cases a24 : op = 24
  · rw [if_pos a24]
    by_cases h0 : y = 0
    · rw [if_pos h0]; dsimp only; exact z
    · rw [if_neg h0]; dsimp only; exact tmod_I6 hx hy h0
  rw [if_neg a24]
  show I6 (cmpL op x y)
  unfold cmpL
  repeat' split
  all_goals exact b2_I6 _
structure rrP where
structure rrX where
  R : List Int
  r : Nat
  nl : Bool
  d : Nat
  i : Nat
structure rrY where
  R : List Int
  r : Nat
  nl : Bool
  d : Nat
structure rrZ where
  er : Int
def rrSt (A : Option Addr) (L : List Int) (m cap : Nat) (qa qf qb qc qd qe qh ql sp pc : Int) (ad va ki ba : Int) (AB : Option Addr) (Bx : List Int) (nb cb : Nat) (ev : Value) (F : Int → Int) : rrP → rrX → ASt := fun ⟨⟩ ⟨R, r, nl, d, i⟩ => ⟨slots (List.replicate 162 .any) [(0, .v (.one (.xr A [.i64, .i64] L m cap))), (3, .v (.one (.ptr 0 0))), (4, .v (.one (.int true .i64 0))), (5, .v (.one (.int true .i64 0))), (6, .v (.one (.gs 1 nl 1 0 r d))), (14, .v (.one (.xr A [.i64, .i64] L m cap))), (15, .v (.one (.int false .i64 (m : Int)))), (16, .v (.one (.int false .i64 (i : Int))))], [⟨[.int false .u8 qa, .int false .u8 qf, .int false .u8 qb, .int false .u8 qc, .int false .u8 qd, .int false .u8 qe, .int false .u8 qh, .int false .u8 ql, .int false .u16 sp, .int false .u16 pc, .int false .i64 ad, .int false .i64 va, .int false .i64 ki, .int false .i64 ba, .xr AB [.u8] Bx nb cb], 28⟩, ⟨[.row nl [.i64] R d], 3⟩]⟩
def rrFin (A : Option Addr) (L : List Int) (m cap : Nat) (qa qf qb qc qd qe qh ql sp pc : Int) (ad va ki ba : Int) (AB : Option Addr) (Bx : List Int) (nb cb : Nat) (ev : Value) (F : Int → Int) : rrP → rrY → ASt := fun ⟨⟩ ⟨R, r, nl, d⟩ => ⟨slots (List.replicate 162 .any) [(4, .v (.one (.int true .i64 0))), (5, .v (.one (.int true .i64 0))), (6, .v (.one (.gs 1 nl 1 0 r d)))], [⟨[.int false .u8 qa, .int false .u8 qf, .int false .u8 qb, .int false .u8 qc, .int false .u8 qd, .int false .u8 qe, .int false .u8 qh, .int false .u8 ql, .int false .u16 sp, .int false .u16 pc, .int false .i64 ad, .int false .i64 va, .int false .i64 ki, .int false .i64 ba, .xr AB [.u8] Bx nb cb], 28⟩, ⟨[.row nl [.i64] R d], 3⟩]⟩
def rrBck (A : Option Addr) (L : List Int) (m cap : Nat) (qa qf qb qc qd qe qh ql sp pc : Int) (ad va ki ba : Int) (AB : Option Addr) (Bx : List Int) (nb cb : Nat) (ev : Value) (F : Int → Int) : rrP → rrZ → ASt := fun ⟨⟩ ⟨er⟩ => ⟨slots (List.replicate 162 .any) [(4, .v (.one (.int true .i64 0))), (5, .v (.one (.int false .i64 er)))], [⟨[.dead], 28⟩]⟩
def rrNxP : ASt → Option rrP := fun s => some ⟨⟩
def rrNxX : ASt → Option rrX := fun s => match sym.gX s 6 with | none => none | some R => match sym.gL s 6 with | none => none | some r => match sym.gN s 6 with | none => none | some nl => match sym.gC s 6 with | none => none | some d => match (sym.gI s 16).map Int.toNat with | none => none | some i => some ⟨R, r, nl, d, i⟩
def rrNxY : ASt → Option rrY := fun s => match sym.gX s 6 with | none => none | some R => match sym.gL s 6 with | none => none | some r => match sym.gN s 6 with | none => none | some nl => match sym.gC s 6 with | none => none | some d => some ⟨R, r, nl, d⟩
def rrNxZ : ASt → Option rrZ := fun s => match sym.gI s 5 with | none => none | some er => some ⟨er⟩
def rrRo : ASt → List (Option Nat) := (fun s => [sym.rowAt s 6])
def rrRf : ASt → List (Option Nat) := (fun s => [sym.rowAt s 6])
def rrRb : ASt → List (Option Nat) := (fun s => [])
structure rrInv (A : Option Addr) (L : List Int) (m cap : Nat) (qa qf qb qc qd qe qh ql sp pc : Int) (ad va ki ba : Int) (AB : Option Addr) (Bx : List Int) (nb cb : Nat) (ev : Value) (F : Int → Int) (p : rrP) (x : rrX) : Prop where
  i1 : x.i ≤ m
  big : m ≤ 1000000
  rl : x.R.length = x.r
  rd : x.r ≤ x.d ∧ x.d ≤ maxLen
  nil : x.nl = true → x.r = 0 ∧ x.d = 0
  ri : x.r ≤ x.i
  rg : ∀ v ∈ x.R, I6 v
  eq : evalL (nameL qa qf qb qc qd qe qh ql sp pc ad va ki ba) F (L.drop (x.i * 2)) x.R = evalL (nameL qa qf qb qc qd qe qh ql sp pc ad va ki ba) F L []
structure rrPost (A : Option Addr) (L : List Int) (m cap : Nat) (qa qf qb qc qd qe qh ql sp pc : Int) (ad va ki ba : Int) (AB : Option Addr) (Bx : List Int) (nb cb : Nat) (ev : Value) (F : Int → Int) (p : rrP) (x : rrY) : Prop where
  rl : x.R.length = x.r
  rd : x.r ≤ x.d ∧ x.d ≤ maxLen
  nil : x.nl = true → x.r = 0 ∧ x.d = 0
  eq : evalL (nameL qa qf qb qc qd qe qh ql sp pc ad va ki ba) F [] x.R = evalL (nameL qa qf qb qc qd qe qh ql sp pc ad va ki ba) F L []
structure rrBack (A : Option Addr) (L : List Int) (m cap : Nat) (qa qf qb qc qd qe qh ql sp pc : Int) (ad va ki ba : Int) (AB : Option Addr) (Bx : List Int) (nb cb : Nat) (ev : Value) (F : Int → Int) (p : rrP) (x : rrZ) : Prop where
  eq : evalL (nameL qa qf qb qc qd qe qh ql sp pc ad va ki ba) F L [] = (0, x.er)
def rrLp (A : Option Addr) (L : List Int) (m cap : Nat) (qa qf qb qc qd qe qh ql sp pc : Int) (ad va ki ba : Int) (AB : Option Addr) (Bx : List Int) (nb cb : Nat) (ev : Value) (F : Int → Int) : Lp := ⟨13, 0, fun s => match rrNxP s with
  | some p => match rrNxX s with
    | some x => some (loopT 0 1 true rrRo (rrSt A L m cap qa qf qb qc qd qe qh ql sp pc ad va ki ba AB Bx nb cb ev F p) (rrFin A L m cap qa qf qb qc qd qe qh ql sp pc ad va ki ba AB Bx nb cb ev F p) (rrBck A L m cap qa qf qb qc qd qe qh ql sp pc ad va ki ba AB Bx nb cb ev F p) (rrInv A L m cap qa qf qb qc qd qe qh ql sp pc ad va ki ba AB Bx nb cb ev F p) (rrPost A L m cap qa qf qb qc qd qe qh ql sp pc ad va ki ba AB Bx nb cb ev F p) (rrBack A L m cap qa qf qb qc qd qe qh ql sp pc ad va ki ba AB Bx nb cb ev F p) s x)
    | none => none
  | none => none⟩
theorem rrstep_tree (w : World) (A : Option Addr) (L : List Int) (m cap : Nat) (qa qf qb qc qd qe qh ql sp pc : Int) (ad va ki ba : Int) (AB : Option Addr) (Bx : List Int) (nb cb : Nat) (ev : Value) (F : Int → Int) (R : List Int) (r : Nat) (nl : Bool) (d : Nat) (i : Nat) :
    roundT Try.prog w (flatT Try.prog) (ctrOf rtabC) (callT Try.prog w (flatT Try.prog) (ctrOf rtabC) (preOf w [rpkC ev F]) (lpOf Try.prog [oneLp 13 6]) 20) ((lpOf Try.prog [oneLp 13 6]) 13) (roundOf (bodyAt Try.prog 13 0)) 0 1 rrRo rrRf rrRb (rrSt A L m cap qa qf qb qc qd qe qh ql sp pc ad va ki ba AB Bx nb cb ev F ⟨⟩) (rrFin A L m cap qa qf qb qc qd qe qh ql sp pc ad va ki ba AB Bx nb cb ev F ⟨⟩) (rrBck A L m cap qa qf qb qc qd qe qh ql sp pc ad va ki ba AB Bx nb cb ev F ⟨⟩) rrNxX rrNxY rrNxZ ⟨R, r, nl, d, i⟩ =
(.br (decide ((↑i : Int) < (↑m : Int)))
 (.chk (sym.XR w A [IntKind.i64, IntKind.i64] L m ∧
  (0 : Int) ≤ (↑i : Int) ∧ (↑i : Int) < (↑m : Int) ∧ (0 : Nat) < [IntKind.i64, IntKind.i64].length)
 (.chk (sym.XC w A [IntKind.i64, IntKind.i64] L ∧ (0 : Nat) < L.length)
 (.chk (sym.XC w A [IntKind.i64, IntKind.i64] L ∧
  (0 : Nat) < (1 : Nat) ∧ (↑i : Int).toNat * [IntKind.i64, IntKind.i64].length + (1 : Nat) ≤ L.length)
 (.chk (sym.XR w A [IntKind.i64, IntKind.i64] L m ∧
  (0 : Int) ≤ (↑i : Int) ∧ (↑i : Int) < (↑m : Int) ∧ (0 : Nat) < [IntKind.i64, IntKind.i64].length)
 (.chk (sym.XC w A [IntKind.i64, IntKind.i64] L ∧ (0 : Nat) < L.length)
 (.chk (sym.XC w A [IntKind.i64, IntKind.i64] L ∧
  (0 : Nat) < (1 : Nat) ∧ (↑i : Int).toNat * [IntKind.i64, IntKind.i64].length + (2 : Nat) ≤ L.length)
 (.br (rrC (L.getD ((↑i : Int).toNat * [IntKind.i64, IntKind.i64].length + (0 : Nat)) (0 : Int)) (L.getD ((↑i : Int).toNat * [IntKind.i64, IntKind.i64].length + (1 : Nat)) (0 : Int)) r)
  (.chk (IntKind.i64 = IntKind.i64 ∧ (0 : Int) = (0 : Int))
  (.chk (IntKind.i64 = IntKind.i64 ∧ (5 : Int) = (5 : Int))
  (.leaf (.inr (.inr ⟨(5 : Int)⟩)))))
  (.br (L.getD ((↑i : Int).toNat * [IntKind.i64, IntKind.i64].length + (0 : Nat)) (0 : Int) == (1 : Int))
   (.chk (True ∧
  (nl = nl ∧
      (0 : Nat) = (0 : Nat) ∧
        d = d ∧ r * [IntKind.i64].length ≤ R.length ∧ r ≤ d ∧ d ≤ Go.maxLen ∧ (nl = true → d = (0 : Nat))) ∧
    (r + (1 : Nat)) * (8 : Nat) ≤ (140737488355328 : Nat))
   (.all fun x : sym.Grown nl (1 : Nat) (r + (1 : Nat)) =>
    (.chk (A = A ∧ [IntKind.i64, IntKind.i64] = [IntKind.i64, IntKind.i64] ∧ L = L ∧ m = m ∧ cap = cap)
    (.chk (IntKind.i64 = IntKind.i64 ∧ (0 : Int) = (0 : Int))
    (.chk (IntKind.i64 = IntKind.i64 ∧ (0 : Int) = (0 : Int))
    (.chk (x.nl' = x.nl' ∧
  [IntKind.i64].length = (1 : Nat) ∧ (0 : Nat) = (0 : Nat) ∧ r + (1 : Nat) = r + (1 : Nat) ∧ x.cap = x.cap)
    (.chk (A = A ∧ [IntKind.i64, IntKind.i64] = [IntKind.i64, IntKind.i64] ∧ L = L ∧ m = m ∧ cap = cap)
    (.chk (IntKind.i64 = IntKind.i64 ∧ (↑m : Int) = (↑m : Int))
    (.chk (IntKind.i64 = IntKind.i64 ∧
  IntKind.i64.wrap ((↑i : Int) + (1 : Int)) = (↑(IntKind.i64.wrap ((↑i : Int) + (1 : Int))).toNat : Int))
    (.chk (IntKind.u8 = IntKind.u8 ∧ qa = qa)
    (.chk (IntKind.u8 = IntKind.u8 ∧ qf = qf)
    (.chk (IntKind.u8 = IntKind.u8 ∧ qb = qb)
    (.chk (IntKind.u8 = IntKind.u8 ∧ qc = qc)
    (.chk (IntKind.u8 = IntKind.u8 ∧ qd = qd)
    (.chk (IntKind.u8 = IntKind.u8 ∧ qe = qe)
    (.chk (IntKind.u8 = IntKind.u8 ∧ qh = qh)
    (.chk (IntKind.u8 = IntKind.u8 ∧ ql = ql)
    (.chk (IntKind.u16 = IntKind.u16 ∧ sp = sp)
    (.chk (IntKind.u16 = IntKind.u16 ∧ pc = pc)
    (.chk (IntKind.i64 = IntKind.i64 ∧ ad = ad)
    (.chk (IntKind.i64 = IntKind.i64 ∧ va = va)
    (.chk (IntKind.i64 = IntKind.i64 ∧ ki = ki)
    (.chk (IntKind.i64 = IntKind.i64 ∧ ba = ba)
    (.chk (AB = AB ∧ [IntKind.u8] = [IntKind.u8] ∧ Bx = Bx ∧ nb = nb ∧ cb = cb)
    (.chk (x.nl' = x.nl' ∧
  [IntKind.i64] = [IntKind.i64] ∧
    List.take (r * [IntKind.i64].length) R ++
          [L.getD ((↑i : Int).toNat * [IntKind.i64, IntKind.i64].length + (1 : Nat)) (0 : Int)] =
        List.take (r * [IntKind.i64].length) R ++
          [L.getD ((↑i : Int).toNat * [IntKind.i64, IntKind.i64].length + (1 : Nat)) (0 : Int)] ∧
      x.cap = x.cap)
    (.leaf (.inl ⟨List.take (r * [IntKind.i64].length) R ++
  [L.getD ((↑i : Int).toNat * [IntKind.i64, IntKind.i64].length + (1 : Nat)) (0 : Int)], r + (1 : Nat), x.nl', x.cap, (IntKind.i64.wrap ((↑i : Int) + (1 : Int))).toNat⟩)))))))))))))))))))))))))))
   (.br (L.getD ((↑i : Int).toNat * [IntKind.i64, IntKind.i64].length + (0 : Nat)) (0 : Int) == (2 : Int))
    (.chk (RgB qa qf qb qc qd qe qh ql sp pc ad va ki ba ∧
  (0 : Int) ≤ L.getD ((↑i : Int).toNat * [IntKind.i64, IntKind.i64].length + (1 : Nat)) (0 : Int) ∧
    L.getD ((↑i : Int).toNat * [IntKind.i64, IntKind.i64].length + (1 : Nat)) (0 : Int) < (18 : Int))
    (.chk (True ∧
  (nl = nl ∧
      (0 : Nat) = (0 : Nat) ∧
        d = d ∧ r * [IntKind.i64].length ≤ R.length ∧ r ≤ d ∧ d ≤ Go.maxLen ∧ (nl = true → d = (0 : Nat))) ∧
    (r + (1 : Nat)) * (8 : Nat) ≤ (140737488355328 : Nat))
    (.all fun x : sym.Grown nl (1 : Nat) (r + (1 : Nat)) =>
     (.chk (A = A ∧ [IntKind.i64, IntKind.i64] = [IntKind.i64, IntKind.i64] ∧ L = L ∧ m = m ∧ cap = cap)
     (.chk (IntKind.i64 = IntKind.i64 ∧ (0 : Int) = (0 : Int))
     (.chk (IntKind.i64 = IntKind.i64 ∧ (0 : Int) = (0 : Int))
     (.chk (x.nl' = x.nl' ∧
  [IntKind.i64].length = (1 : Nat) ∧ (0 : Nat) = (0 : Nat) ∧ r + (1 : Nat) = r + (1 : Nat) ∧ x.cap = x.cap)
     (.chk (A = A ∧ [IntKind.i64, IntKind.i64] = [IntKind.i64, IntKind.i64] ∧ L = L ∧ m = m ∧ cap = cap)
     (.chk (IntKind.i64 = IntKind.i64 ∧ (↑m : Int) = (↑m : Int))
     (.chk (IntKind.i64 = IntKind.i64 ∧
  IntKind.i64.wrap ((↑i : Int) + (1 : Int)) = (↑(IntKind.i64.wrap ((↑i : Int) + (1 : Int))).toNat : Int))
     (.chk (IntKind.u8 = IntKind.u8 ∧ qa = qa)
     (.chk (IntKind.u8 = IntKind.u8 ∧ qf = qf)
     (.chk (IntKind.u8 = IntKind.u8 ∧ qb = qb)
     (.chk (IntKind.u8 = IntKind.u8 ∧ qc = qc)
     (.chk (IntKind.u8 = IntKind.u8 ∧ qd = qd)
     (.chk (IntKind.u8 = IntKind.u8 ∧ qe = qe)
     (.chk (IntKind.u8 = IntKind.u8 ∧ qh = qh)
     (.chk (IntKind.u8 = IntKind.u8 ∧ ql = ql)
     (.chk (IntKind.u16 = IntKind.u16 ∧ sp = sp)
     (.chk (IntKind.u16 = IntKind.u16 ∧ pc = pc)
     (.chk (IntKind.i64 = IntKind.i64 ∧ ad = ad)
     (.chk (IntKind.i64 = IntKind.i64 ∧ va = va)
     (.chk (IntKind.i64 = IntKind.i64 ∧ ki = ki)
     (.chk (IntKind.i64 = IntKind.i64 ∧ ba = ba)
     (.chk (AB = AB ∧ [IntKind.u8] = [IntKind.u8] ∧ Bx = Bx ∧ nb = nb ∧ cb = cb)
     (.chk (x.nl' = x.nl' ∧
  [IntKind.i64] = [IntKind.i64] ∧
    List.take (r * [IntKind.i64].length) R ++
          [nameL qa qf qb qc qd qe qh ql sp pc ad va ki ba
              (L.getD ((↑i : Int).toNat * [IntKind.i64, IntKind.i64].length + (1 : Nat)) (0 : Int))] =
        List.take (r * [IntKind.i64].length) R ++
          [nameL qa qf qb qc qd qe qh ql sp pc ad va ki ba
              (L.getD ((↑i : Int).toNat * [IntKind.i64, IntKind.i64].length + (1 : Nat)) (0 : Int))] ∧
      x.cap = x.cap)
     (.leaf (.inl ⟨List.take (r * [IntKind.i64].length) R ++
  [nameL qa qf qb qc qd qe qh ql sp pc ad va ki ba
      (L.getD ((↑i : Int).toNat * [IntKind.i64, IntKind.i64].length + (1 : Nat)) (0 : Int))], r + (1 : Nat), x.nl', x.cap, (IntKind.i64.wrap ((↑i : Int) + (1 : Int))).toNat⟩))))))))))))))))))))))))))))
    (.chk (nl = false ∧
  (0 : Int) ≤ IntKind.i64.wrap ((↑r : Int) - (1 : Int)) ∧ IntKind.i64.wrap ((↑r : Int) - (1 : Int)) < (↑r : Int))
    (.chk (nl = false ∧ ((0 : Nat) + (IntKind.i64.wrap ((↑r : Int) - (1 : Int))).toNat) * (1 : Nat) + (1 : Nat) ≤ R.length)
    (.br (L.getD ((↑i : Int).toNat * [IntKind.i64, IntKind.i64].length + (0 : Nat)) (0 : Int) == (3 : Int))
     (.chk (True)
     (.chk (sym.V.γ []
      (sym.V.agg
        (List.take (15 : Nat)
          (List.drop (0 : Nat)
            [sym.Sc.int false IntKind.u8 qa,
              sym.Sc.int false IntKind.u8 qf,
              sym.Sc.int false IntKind.u8 qb,
              sym.Sc.int false IntKind.u8 qc,
              sym.Sc.int false IntKind.u8 qd,
              sym.Sc.int false IntKind.u8 qe,
              sym.Sc.int false IntKind.u8 qh,
              sym.Sc.int false IntKind.u8 ql,
              sym.Sc.int false IntKind.u16 sp,
              sym.Sc.int false IntKind.u16 pc,
              sym.Sc.int false IntKind.i64 ad,
              sym.Sc.int false IntKind.i64 va,
              sym.Sc.int false IntKind.i64 ki,
              sym.Sc.int false IntKind.i64 ba,
              sym.Sc.xr AB [IntKind.u8] Bx nb cb]))) =
    ev ∧
  (0 : Int) ≤
      IntKind.u16.wrap
        ((([IntKind.i64].getD (0 : Nat) IntKind.u8).wrap
              ((R.getD (((0 : Nat) + (IntKind.i64.wrap ((↑r : Int) - (1 : Int))).toNat) * (1 : Nat) + (0 : Nat))
                      (0 : Int)).tmod
                  (65536 : Int) +
                (65536 : Int))).tmod
          (65536 : Int)) ∧
    IntKind.u16.wrap
        ((([IntKind.i64].getD (0 : Nat) IntKind.u8).wrap
              ((R.getD (((0 : Nat) + (IntKind.i64.wrap ((↑r : Int) - (1 : Int))).toNat) * (1 : Nat) + (0 : Nat))
                      (0 : Int)).tmod
                  (65536 : Int) +
                (65536 : Int))).tmod
          (65536 : Int)) <
      (65536 : Int))
     (.chk (nl = false ∧
  (0 : Int) ≤ IntKind.i64.wrap ((↑r : Int) - (1 : Int)) ∧ IntKind.i64.wrap ((↑r : Int) - (1 : Int)) < (↑r : Int))
     (.chk (nl = false ∧ ((0 : Nat) + (IntKind.i64.wrap ((↑r : Int) - (1 : Int))).toNat) * (1 : Nat) + (0 : Nat) < R.length)
     (.chk (A = A ∧ [IntKind.i64, IntKind.i64] = [IntKind.i64, IntKind.i64] ∧ L = L ∧ m = m ∧ cap = cap)
     (.chk (IntKind.i64 = IntKind.i64 ∧ (0 : Int) = (0 : Int))
     (.chk (IntKind.i64 = IntKind.i64 ∧ (0 : Int) = (0 : Int))
     (.chk (nl = nl ∧ (1 : Nat) = (1 : Nat) ∧ (0 : Nat) = (0 : Nat) ∧ r = r ∧ d = d)
     (.chk (A = A ∧ [IntKind.i64, IntKind.i64] = [IntKind.i64, IntKind.i64] ∧ L = L ∧ m = m ∧ cap = cap)
     (.chk (IntKind.i64 = IntKind.i64 ∧ (↑m : Int) = (↑m : Int))
     (.chk (IntKind.i64 = IntKind.i64 ∧
  IntKind.i64.wrap ((↑i : Int) + (1 : Int)) = (↑(IntKind.i64.wrap ((↑i : Int) + (1 : Int))).toNat : Int))
     (.chk (IntKind.u8 = IntKind.u8 ∧ qa = qa)
     (.chk (IntKind.u8 = IntKind.u8 ∧ qf = qf)
     (.chk (IntKind.u8 = IntKind.u8 ∧ qb = qb)
     (.chk (IntKind.u8 = IntKind.u8 ∧ qc = qc)
     (.chk (IntKind.u8 = IntKind.u8 ∧ qd = qd)
     (.chk (IntKind.u8 = IntKind.u8 ∧ qe = qe)
     (.chk (IntKind.u8 = IntKind.u8 ∧ qh = qh)
     (.chk (IntKind.u8 = IntKind.u8 ∧ ql = ql)
     (.chk (IntKind.u16 = IntKind.u16 ∧ sp = sp)
     (.chk (IntKind.u16 = IntKind.u16 ∧ pc = pc)
     (.chk (IntKind.i64 = IntKind.i64 ∧ ad = ad)
     (.chk (IntKind.i64 = IntKind.i64 ∧ va = va)
     (.chk (IntKind.i64 = IntKind.i64 ∧ ki = ki)
     (.chk (IntKind.i64 = IntKind.i64 ∧ ba = ba)
     (.chk (AB = AB ∧ [IntKind.u8] = [IntKind.u8] ∧ Bx = Bx ∧ nb = nb ∧ cb = cb)
     (.chk (nl = nl ∧
  [IntKind.i64] = [IntKind.i64] ∧
    R.set (((0 : Nat) + (IntKind.i64.wrap ((↑r : Int) - (1 : Int))).toNat) * (1 : Nat) + (0 : Nat))
          (IntKind.i64.wrap
            (F
              (IntKind.u16.wrap
                ((([IntKind.i64].getD (0 : Nat) IntKind.u8).wrap
                      ((R.getD
                              (((0 : Nat) + (IntKind.i64.wrap ((↑r : Int) - (1 : Int))).toNat) * (1 : Nat) +
                                (0 : Nat))
                              (0 : Int)).tmod
                          (65536 : Int) +
                        (65536 : Int))).tmod
                  (65536 : Int))))) =
        R.set (((0 : Nat) + (IntKind.i64.wrap ((↑r : Int) - (1 : Int))).toNat) * (1 : Nat) + (0 : Nat))
          (IntKind.i64.wrap
            (F
              (IntKind.u16.wrap
                ((([IntKind.i64].getD (0 : Nat) IntKind.u8).wrap
                      ((R.getD
                              (((0 : Nat) + (IntKind.i64.wrap ((↑r : Int) - (1 : Int))).toNat) * (1 : Nat) +
                                (0 : Nat))
                              (0 : Int)).tmod
                          (65536 : Int) +
                        (65536 : Int))).tmod
                  (65536 : Int))))) ∧
      d = d)
     (.leaf (.inl ⟨R.set (((0 : Nat) + (IntKind.i64.wrap ((↑r : Int) - (1 : Int))).toNat) * (1 : Nat) + (0 : Nat))
  (IntKind.i64.wrap
    (F
      (IntKind.u16.wrap
        ((([IntKind.i64].getD (0 : Nat) IntKind.u8).wrap
              ((R.getD (((0 : Nat) + (IntKind.i64.wrap ((↑r : Int) - (1 : Int))).toNat) * (1 : Nat) + (0 : Nat))
                      (0 : Int)).tmod
                  (65536 : Int) +
                (65536 : Int))).tmod
          (65536 : Int))))), r, nl, d, (IntKind.i64.wrap ((↑i : Int) + (1 : Int))).toNat⟩)))))))))))))))))))))))))))))
     (.br (L.getD ((↑i : Int).toNat * [IntKind.i64, IntKind.i64].length + (0 : Nat)) (0 : Int) == (4 : Int))
      (.chk (nl = false ∧
  (0 : Int) ≤ IntKind.i64.wrap ((↑r : Int) - (1 : Int)) ∧ IntKind.i64.wrap ((↑r : Int) - (1 : Int)) < (↑r : Int))
      (.chk (nl = false ∧ ((0 : Nat) + (IntKind.i64.wrap ((↑r : Int) - (1 : Int))).toNat) * (1 : Nat) + (0 : Nat) < R.length)
      (.chk (A = A ∧ [IntKind.i64, IntKind.i64] = [IntKind.i64, IntKind.i64] ∧ L = L ∧ m = m ∧ cap = cap)
      (.chk (IntKind.i64 = IntKind.i64 ∧ (0 : Int) = (0 : Int))
      (.chk (IntKind.i64 = IntKind.i64 ∧ (0 : Int) = (0 : Int))
      (.chk (nl = nl ∧ (1 : Nat) = (1 : Nat) ∧ (0 : Nat) = (0 : Nat) ∧ r = r ∧ d = d)
      (.chk (A = A ∧ [IntKind.i64, IntKind.i64] = [IntKind.i64, IntKind.i64] ∧ L = L ∧ m = m ∧ cap = cap)
      (.chk (IntKind.i64 = IntKind.i64 ∧ (↑m : Int) = (↑m : Int))
      (.chk (IntKind.i64 = IntKind.i64 ∧
  IntKind.i64.wrap ((↑i : Int) + (1 : Int)) = (↑(IntKind.i64.wrap ((↑i : Int) + (1 : Int))).toNat : Int))
      (.chk (IntKind.u8 = IntKind.u8 ∧ qa = qa)
      (.chk (IntKind.u8 = IntKind.u8 ∧ qf = qf)
      (.chk (IntKind.u8 = IntKind.u8 ∧ qb = qb)
      (.chk (IntKind.u8 = IntKind.u8 ∧ qc = qc)
      (.chk (IntKind.u8 = IntKind.u8 ∧ qd = qd)
      (.chk (IntKind.u8 = IntKind.u8 ∧ qe = qe)
      (.chk (IntKind.u8 = IntKind.u8 ∧ qh = qh)
      (.chk (IntKind.u8 = IntKind.u8 ∧ ql = ql)
      (.chk (IntKind.u16 = IntKind.u16 ∧ sp = sp)
      (.chk (IntKind.u16 = IntKind.u16 ∧ pc = pc)
      (.chk (IntKind.i64 = IntKind.i64 ∧ ad = ad)
      (.chk (IntKind.i64 = IntKind.i64 ∧ va = va)
      (.chk (IntKind.i64 = IntKind.i64 ∧ ki = ki)
      (.chk (IntKind.i64 = IntKind.i64 ∧ ba = ba)
      (.chk (AB = AB ∧ [IntKind.u8] = [IntKind.u8] ∧ Bx = Bx ∧ nb = nb ∧ cb = cb)
      (.chk (nl = nl ∧
  [IntKind.i64] = [IntKind.i64] ∧
    R.set (((0 : Nat) + (IntKind.i64.wrap ((↑r : Int) - (1 : Int))).toNat) * (1 : Nat) + (0 : Nat))
          (IntKind.i64.wrap
            ((0 : Int) -
              R.getD (((0 : Nat) + (IntKind.i64.wrap ((↑r : Int) - (1 : Int))).toNat) * (1 : Nat) + (0 : Nat))
                (0 : Int))) =
        R.set (((0 : Nat) + (IntKind.i64.wrap ((↑r : Int) - (1 : Int))).toNat) * (1 : Nat) + (0 : Nat))
          (IntKind.i64.wrap
            ((0 : Int) -
              R.getD (((0 : Nat) + (IntKind.i64.wrap ((↑r : Int) - (1 : Int))).toNat) * (1 : Nat) + (0 : Nat))
                (0 : Int))) ∧
      d = d)
      (.leaf (.inl ⟨R.set (((0 : Nat) + (IntKind.i64.wrap ((↑r : Int) - (1 : Int))).toNat) * (1 : Nat) + (0 : Nat))
  (IntKind.i64.wrap
    ((0 : Int) -
      R.getD (((0 : Nat) + (IntKind.i64.wrap ((↑r : Int) - (1 : Int))).toNat) * (1 : Nat) + (0 : Nat)) (0 : Int))), r, nl, d, (IntKind.i64.wrap ((↑i : Int) + (1 : Int))).toNat⟩)))))))))))))))))))))))))))
      (.br (L.getD ((↑i : Int).toNat * [IntKind.i64, IntKind.i64].length + (0 : Nat)) (0 : Int) == (5 : Int))
       (.br (R.getD (((0 : Nat) + (IntKind.i64.wrap ((↑r : Int) - (1 : Int))).toNat) * (1 : Nat) + (0 : Nat)) (0 : Int) ==
  (0 : Int))
        (.chk (nl = false ∧
  (0 : Int) ≤ IntKind.i64.wrap ((↑r : Int) - (1 : Int)) ∧ IntKind.i64.wrap ((↑r : Int) - (1 : Int)) < (↑r : Int))
        (.chk (nl = false ∧ ((0 : Nat) + (IntKind.i64.wrap ((↑r : Int) - (1 : Int))).toNat) * (1 : Nat) + (0 : Nat) < R.length)
        (.chk (A = A ∧ [IntKind.i64, IntKind.i64] = [IntKind.i64, IntKind.i64] ∧ L = L ∧ m = m ∧ cap = cap)
        (.chk (IntKind.i64 = IntKind.i64 ∧ (0 : Int) = (0 : Int))
        (.chk (IntKind.i64 = IntKind.i64 ∧ (0 : Int) = (0 : Int))
        (.chk (nl = nl ∧ (1 : Nat) = (1 : Nat) ∧ (0 : Nat) = (0 : Nat) ∧ r = r ∧ d = d)
        (.chk (A = A ∧ [IntKind.i64, IntKind.i64] = [IntKind.i64, IntKind.i64] ∧ L = L ∧ m = m ∧ cap = cap)
        (.chk (IntKind.i64 = IntKind.i64 ∧ (↑m : Int) = (↑m : Int))
        (.chk (IntKind.i64 = IntKind.i64 ∧
  IntKind.i64.wrap ((↑i : Int) + (1 : Int)) = (↑(IntKind.i64.wrap ((↑i : Int) + (1 : Int))).toNat : Int))
        (.chk (IntKind.u8 = IntKind.u8 ∧ qa = qa)
        (.chk (IntKind.u8 = IntKind.u8 ∧ qf = qf)
        (.chk (IntKind.u8 = IntKind.u8 ∧ qb = qb)
        (.chk (IntKind.u8 = IntKind.u8 ∧ qc = qc)
        (.chk (IntKind.u8 = IntKind.u8 ∧ qd = qd)
        (.chk (IntKind.u8 = IntKind.u8 ∧ qe = qe)
        (.chk (IntKind.u8 = IntKind.u8 ∧ qh = qh)
        (.chk (IntKind.u8 = IntKind.u8 ∧ ql = ql)
        (.chk (IntKind.u16 = IntKind.u16 ∧ sp = sp)
        (.chk (IntKind.u16 = IntKind.u16 ∧ pc = pc)
        (.chk (IntKind.i64 = IntKind.i64 ∧ ad = ad)
        (.chk (IntKind.i64 = IntKind.i64 ∧ va = va)
        (.chk (IntKind.i64 = IntKind.i64 ∧ ki = ki)
        (.chk (IntKind.i64 = IntKind.i64 ∧ ba = ba)
        (.chk (AB = AB ∧ [IntKind.u8] = [IntKind.u8] ∧ Bx = Bx ∧ nb = nb ∧ cb = cb)
        (.chk (nl = nl ∧
  [IntKind.i64] = [IntKind.i64] ∧
    R.set (((0 : Nat) + (IntKind.i64.wrap ((↑r : Int) - (1 : Int))).toNat) * (1 : Nat) + (0 : Nat)) (1 : Int) =
        R.set (((0 : Nat) + (IntKind.i64.wrap ((↑r : Int) - (1 : Int))).toNat) * (1 : Nat) + (0 : Nat)) (1 : Int) ∧
      d = d)
        (.leaf (.inl ⟨R.set (((0 : Nat) + (IntKind.i64.wrap ((↑r : Int) - (1 : Int))).toNat) * (1 : Nat) + (0 : Nat)) (1 : Int), r, nl, d, (IntKind.i64.wrap ((↑i : Int) + (1 : Int))).toNat⟩)))))))))))))))))))))))))))
        (.chk (nl = false ∧
  (0 : Int) ≤ IntKind.i64.wrap ((↑r : Int) - (1 : Int)) ∧ IntKind.i64.wrap ((↑r : Int) - (1 : Int)) < (↑r : Int))
        (.chk (nl = false ∧ ((0 : Nat) + (IntKind.i64.wrap ((↑r : Int) - (1 : Int))).toNat) * (1 : Nat) + (0 : Nat) < R.length)
        (.chk (A = A ∧ [IntKind.i64, IntKind.i64] = [IntKind.i64, IntKind.i64] ∧ L = L ∧ m = m ∧ cap = cap)
        (.chk (IntKind.i64 = IntKind.i64 ∧ (0 : Int) = (0 : Int))
        (.chk (IntKind.i64 = IntKind.i64 ∧ (0 : Int) = (0 : Int))
        (.chk (nl = nl ∧ (1 : Nat) = (1 : Nat) ∧ (0 : Nat) = (0 : Nat) ∧ r = r ∧ d = d)
        (.chk (A = A ∧ [IntKind.i64, IntKind.i64] = [IntKind.i64, IntKind.i64] ∧ L = L ∧ m = m ∧ cap = cap)
        (.chk (IntKind.i64 = IntKind.i64 ∧ (↑m : Int) = (↑m : Int))
        (.chk (IntKind.i64 = IntKind.i64 ∧
  IntKind.i64.wrap ((↑i : Int) + (1 : Int)) = (↑(IntKind.i64.wrap ((↑i : Int) + (1 : Int))).toNat : Int))
        (.chk (IntKind.u8 = IntKind.u8 ∧ qa = qa)
        (.chk (IntKind.u8 = IntKind.u8 ∧ qf = qf)
        (.chk (IntKind.u8 = IntKind.u8 ∧ qb = qb)
        (.chk (IntKind.u8 = IntKind.u8 ∧ qc = qc)
        (.chk (IntKind.u8 = IntKind.u8 ∧ qd = qd)
        (.chk (IntKind.u8 = IntKind.u8 ∧ qe = qe)
        (.chk (IntKind.u8 = IntKind.u8 ∧ qh = qh)
        (.chk (IntKind.u8 = IntKind.u8 ∧ ql = ql)
        (.chk (IntKind.u16 = IntKind.u16 ∧ sp = sp)
        (.chk (IntKind.u16 = IntKind.u16 ∧ pc = pc)
        (.chk (IntKind.i64 = IntKind.i64 ∧ ad = ad)
        (.chk (IntKind.i64 = IntKind.i64 ∧ va = va)
        (.chk (IntKind.i64 = IntKind.i64 ∧ ki = ki)
        (.chk (IntKind.i64 = IntKind.i64 ∧ ba = ba)
        (.chk (AB = AB ∧ [IntKind.u8] = [IntKind.u8] ∧ Bx = Bx ∧ nb = nb ∧ cb = cb)
        (.chk (nl = nl ∧
  [IntKind.i64] = [IntKind.i64] ∧
    R.set (((0 : Nat) + (IntKind.i64.wrap ((↑r : Int) - (1 : Int))).toNat) * (1 : Nat) + (0 : Nat)) (0 : Int) =
        R.set (((0 : Nat) + (IntKind.i64.wrap ((↑r : Int) - (1 : Int))).toNat) * (1 : Nat) + (0 : Nat)) (0 : Int) ∧
      d = d)
        (.leaf (.inl ⟨R.set (((0 : Nat) + (IntKind.i64.wrap ((↑r : Int) - (1 : Int))).toNat) * (1 : Nat) + (0 : Nat)) (0 : Int), r, nl, d, (IntKind.i64.wrap ((↑i : Int) + (1 : Int))).toNat⟩))))))))))))))))))))))))))))
       (.br (L.getD ((↑i : Int).toNat * [IntKind.i64, IntKind.i64].length + (0 : Nat)) (0 : Int) == (6 : Int))
        (.chk (nl = false ∧
  (0 : Int) ≤ IntKind.i64.wrap ((↑r : Int) - (1 : Int)) ∧ IntKind.i64.wrap ((↑r : Int) - (1 : Int)) < (↑r : Int))
        (.chk (nl = false ∧ ((0 : Nat) + (IntKind.i64.wrap ((↑r : Int) - (1 : Int))).toNat) * (1 : Nat) + (0 : Nat) < R.length)
        (.chk (A = A ∧ [IntKind.i64, IntKind.i64] = [IntKind.i64, IntKind.i64] ∧ L = L ∧ m = m ∧ cap = cap)
        (.chk (IntKind.i64 = IntKind.i64 ∧ (0 : Int) = (0 : Int))
        (.chk (IntKind.i64 = IntKind.i64 ∧ (0 : Int) = (0 : Int))
        (.chk (nl = nl ∧ (1 : Nat) = (1 : Nat) ∧ (0 : Nat) = (0 : Nat) ∧ r = r ∧ d = d)
        (.chk (A = A ∧ [IntKind.i64, IntKind.i64] = [IntKind.i64, IntKind.i64] ∧ L = L ∧ m = m ∧ cap = cap)
        (.chk (IntKind.i64 = IntKind.i64 ∧ (↑m : Int) = (↑m : Int))
        (.chk (IntKind.i64 = IntKind.i64 ∧
  IntKind.i64.wrap ((↑i : Int) + (1 : Int)) = (↑(IntKind.i64.wrap ((↑i : Int) + (1 : Int))).toNat : Int))
        (.chk (IntKind.u8 = IntKind.u8 ∧ qa = qa)
        (.chk (IntKind.u8 = IntKind.u8 ∧ qf = qf)
        (.chk (IntKind.u8 = IntKind.u8 ∧ qb = qb)
        (.chk (IntKind.u8 = IntKind.u8 ∧ qc = qc)
        (.chk (IntKind.u8 = IntKind.u8 ∧ qd = qd)
        (.chk (IntKind.u8 = IntKind.u8 ∧ qe = qe)
        (.chk (IntKind.u8 = IntKind.u8 ∧ qh = qh)
        (.chk (IntKind.u8 = IntKind.u8 ∧ ql = ql)
        (.chk (IntKind.u16 = IntKind.u16 ∧ sp = sp)
        (.chk (IntKind.u16 = IntKind.u16 ∧ pc = pc)
        (.chk (IntKind.i64 = IntKind.i64 ∧ ad = ad)
        (.chk (IntKind.i64 = IntKind.i64 ∧ va = va)
        (.chk (IntKind.i64 = IntKind.i64 ∧ ki = ki)
        (.chk (IntKind.i64 = IntKind.i64 ∧ ba = ba)
        (.chk (AB = AB ∧ [IntKind.u8] = [IntKind.u8] ∧ Bx = Bx ∧ nb = nb ∧ cb = cb)
        (.chk (nl = nl ∧
  [IntKind.i64] = [IntKind.i64] ∧
    R.set (((0 : Nat) + (IntKind.i64.wrap ((↑r : Int) - (1 : Int))).toNat) * (1 : Nat) + (0 : Nat))
          (IntKind.i64.wrap
            ((-1 : Int) -
              R.getD (((0 : Nat) + (IntKind.i64.wrap ((↑r : Int) - (1 : Int))).toNat) * (1 : Nat) + (0 : Nat))
                (0 : Int))) =
        R.set (((0 : Nat) + (IntKind.i64.wrap ((↑r : Int) - (1 : Int))).toNat) * (1 : Nat) + (0 : Nat))
          (IntKind.i64.wrap
            ((-1 : Int) -
              R.getD (((0 : Nat) + (IntKind.i64.wrap ((↑r : Int) - (1 : Int))).toNat) * (1 : Nat) + (0 : Nat))
                (0 : Int))) ∧
      d = d)
        (.leaf (.inl ⟨R.set (((0 : Nat) + (IntKind.i64.wrap ((↑r : Int) - (1 : Int))).toNat) * (1 : Nat) + (0 : Nat))
  (IntKind.i64.wrap
    ((-1 : Int) -
      R.getD (((0 : Nat) + (IntKind.i64.wrap ((↑r : Int) - (1 : Int))).toNat) * (1 : Nat) + (0 : Nat)) (0 : Int))), r, nl, d, (IntKind.i64.wrap ((↑i : Int) + (1 : Int))).toNat⟩)))))))))))))))))))))))))))
        (.chk (nl = false ∧
  (0 : Int) ≤ IntKind.i64.wrap ((↑r : Int) - (2 : Int)) ∧ IntKind.i64.wrap ((↑r : Int) - (2 : Int)) < (↑r : Int))
        (.chk (nl = false ∧ ((0 : Nat) + (IntKind.i64.wrap ((↑r : Int) - (2 : Int))).toNat) * (1 : Nat) + (1 : Nat) ≤ R.length)
        (.chk ((7 : Int) ≤ L.getD ((↑i : Int).toNat * [IntKind.i64, IntKind.i64].length + (0 : Nat)) (0 : Int) ∧
  L.getD ((↑i : Int).toNat * [IntKind.i64, IntKind.i64].length + (0 : Nat)) (0 : Int) ≤ (24 : Int) ∧
    I6
        (R.getD (((0 : Nat) + (IntKind.i64.wrap ((↑r : Int) - (2 : Int))).toNat) * (1 : Nat) + (0 : Nat))
          (0 : Int)) ∧
      I6
        (R.getD (((0 : Nat) + (IntKind.i64.wrap ((↑r : Int) - (1 : Int))).toNat) * (1 : Nat) + (0 : Nat)) (0 : Int)))
        (.br ((twoL
      (L.getD ((↑i : Int).toNat * [IntKind.i64, IntKind.i64].length + (0 : Nat)) (0 : Int))
      (R.getD (((0 : Nat) + (IntKind.i64.wrap ((↑r : Int) - (2 : Int))).toNat) * (1 : Nat) + (0 : Nat)) (0 : Int))
      (R.getD (((0 : Nat) + (IntKind.i64.wrap ((↑r : Int) - (1 : Int))).toNat) * (1 : Nat) + (0 : Nat))
        (0 : Int))).snd !=
  (0 : Int))
         (.chk (IntKind.i64 = IntKind.i64 ∧ (0 : Int) = (0 : Int))
         (.chk (IntKind.i64 = IntKind.i64 ∧
  (twoL
        (L.getD ((↑i : Int).toNat * [IntKind.i64, IntKind.i64].length + (0 : Nat)) (0 : Int))
        (R.getD (((0 : Nat) + (IntKind.i64.wrap ((↑r : Int) - (2 : Int))).toNat) * (1 : Nat) + (0 : Nat)) (0 : Int))
        (R.getD (((0 : Nat) + (IntKind.i64.wrap ((↑r : Int) - (1 : Int))).toNat) * (1 : Nat) + (0 : Nat))
          (0 : Int))).snd =
    (twoL
        (L.getD ((↑i : Int).toNat * [IntKind.i64, IntKind.i64].length + (0 : Nat)) (0 : Int))
        (R.getD (((0 : Nat) + (IntKind.i64.wrap ((↑r : Int) - (2 : Int))).toNat) * (1 : Nat) + (0 : Nat)) (0 : Int))
        (R.getD (((0 : Nat) + (IntKind.i64.wrap ((↑r : Int) - (1 : Int))).toNat) * (1 : Nat) + (0 : Nat))
          (0 : Int))).snd)
         (.leaf (.inr (.inr ⟨(twoL
    (L.getD ((↑i : Int).toNat * [IntKind.i64, IntKind.i64].length + (0 : Nat)) (0 : Int))
    (R.getD (((0 : Nat) + (IntKind.i64.wrap ((↑r : Int) - (2 : Int))).toNat) * (1 : Nat) + (0 : Nat)) (0 : Int))
    (R.getD (((0 : Nat) + (IntKind.i64.wrap ((↑r : Int) - (1 : Int))).toNat) * (1 : Nat) + (0 : Nat)) (0 : Int))).snd⟩)))))
         (.chk ((0 : Int) ≤ (0 : Int) ∧
  (0 : Int) ≤ IntKind.i64.wrap ((↑r : Int) - (2 : Int)) ∧
    IntKind.i64.wrap ((↑r : Int) - (2 : Int)) ≤ (↑d : Int))
         (.chk ((nl = nl ∧
    (sym.cutO (0 : Nat) d (0 : Nat) +
            ((IntKind.i64.wrap ((↑r : Int) - (2 : Int))).toNat - (0 : Nat))) *
          (1 : Nat) ≤
        R.length ∧
      (IntKind.i64.wrap ((↑r : Int) - (2 : Int))).toNat - (0 : Nat) ≤ d - (0 : Nat)) ∧
  True ∧
    ((0 : Nat) + ((IntKind.i64.wrap ((↑r : Int) - (2 : Int))).toNat - (0 : Nat))) * (8 : Nat) ≤
      (140737488355328 : Nat))
         (.all fun x : sym.Grown false ((IntKind.i64.wrap ((↑r : Int) - (2 : Int))).toNat - (0 : Nat))
  ((0 : Nat) + ((IntKind.i64.wrap ((↑r : Int) - (2 : Int))).toNat - (0 : Nat))) =>
          (.chk (True ∧
  (x.nl' = x.nl' ∧
      (0 : Nat) = (0 : Nat) ∧
        x.cap = x.cap ∧
          ((0 : Nat) + ((IntKind.i64.wrap ((↑r : Int) - (2 : Int))).toNat - (0 : Nat))) * [IntKind.i64].length ≤
              ([] ++
                  sym.cutL R (sym.cutO (0 : Nat) d (0 : Nat))
                    (sym.cutO (0 : Nat) d (0 : Nat) +
                      ((IntKind.i64.wrap ((↑r : Int) - (2 : Int))).toNat - (0 : Nat)))
                    (1 : Nat)).length ∧
            (0 : Nat) + ((IntKind.i64.wrap ((↑r : Int) - (2 : Int))).toNat - (0 : Nat)) ≤ x.cap ∧
              x.cap ≤ Go.maxLen ∧ (x.nl' = true → x.cap = (0 : Nat))) ∧
    ((0 : Nat) + ((IntKind.i64.wrap ((↑r : Int) - (2 : Int))).toNat - (0 : Nat)) + (1 : Nat)) * (8 : Nat) ≤
      (140737488355328 : Nat))
          (.all fun x_1 : sym.Grown x.nl' (1 : Nat)
  ((0 : Nat) + ((IntKind.i64.wrap ((↑r : Int) - (2 : Int))).toNat - (0 : Nat)) + (1 : Nat)) =>
           (.chk (A = A ∧ [IntKind.i64, IntKind.i64] = [IntKind.i64, IntKind.i64] ∧ L = L ∧ m = m ∧ cap = cap)
           (.chk (IntKind.i64 = IntKind.i64 ∧ (0 : Int) = (0 : Int))
           (.chk (IntKind.i64 = IntKind.i64 ∧ (0 : Int) = (0 : Int))
           (.chk (x_1.nl' = x_1.nl' ∧
  [IntKind.i64].length = (1 : Nat) ∧
    (0 : Nat) = (0 : Nat) ∧
      (0 : Nat) + ((IntKind.i64.wrap ((↑r : Int) - (2 : Int))).toNat - (0 : Nat)) + (1 : Nat) =
          (0 : Nat) + ((IntKind.i64.wrap ((↑r : Int) - (2 : Int))).toNat - (0 : Nat)) + (1 : Nat) ∧
        x_1.cap = x_1.cap)
           (.chk (A = A ∧ [IntKind.i64, IntKind.i64] = [IntKind.i64, IntKind.i64] ∧ L = L ∧ m = m ∧ cap = cap)
           (.chk (IntKind.i64 = IntKind.i64 ∧ (↑m : Int) = (↑m : Int))
           (.chk (IntKind.i64 = IntKind.i64 ∧
  IntKind.i64.wrap ((↑i : Int) + (1 : Int)) = (↑(IntKind.i64.wrap ((↑i : Int) + (1 : Int))).toNat : Int))
           (.chk (IntKind.u8 = IntKind.u8 ∧ qa = qa)
           (.chk (IntKind.u8 = IntKind.u8 ∧ qf = qf)
           (.chk (IntKind.u8 = IntKind.u8 ∧ qb = qb)
           (.chk (IntKind.u8 = IntKind.u8 ∧ qc = qc)
           (.chk (IntKind.u8 = IntKind.u8 ∧ qd = qd)
           (.chk (IntKind.u8 = IntKind.u8 ∧ qe = qe)
           (.chk (IntKind.u8 = IntKind.u8 ∧ qh = qh)
           (.chk (IntKind.u8 = IntKind.u8 ∧ ql = ql)
           (.chk (IntKind.u16 = IntKind.u16 ∧ sp = sp)
           (.chk (IntKind.u16 = IntKind.u16 ∧ pc = pc)
           (.chk (IntKind.i64 = IntKind.i64 ∧ ad = ad)
           (.chk (IntKind.i64 = IntKind.i64 ∧ va = va)
           (.chk (IntKind.i64 = IntKind.i64 ∧ ki = ki)
           (.chk (IntKind.i64 = IntKind.i64 ∧ ba = ba)
           (.chk (AB = AB ∧ [IntKind.u8] = [IntKind.u8] ∧ Bx = Bx ∧ nb = nb ∧ cb = cb)
           (.chk (x_1.nl' = x_1.nl' ∧
  [IntKind.i64] = [IntKind.i64] ∧
    List.take
            (((0 : Nat) + ((IntKind.i64.wrap ((↑r : Int) - (2 : Int))).toNat - (0 : Nat))) * [IntKind.i64].length)
            ([] ++
              sym.cutL R (sym.cutO (0 : Nat) d (0 : Nat))
                (sym.cutO (0 : Nat) d (0 : Nat) +
                  ((IntKind.i64.wrap ((↑r : Int) - (2 : Int))).toNat - (0 : Nat)))
                (1 : Nat)) ++
          [(twoL
                (L.getD ((↑i : Int).toNat * [IntKind.i64, IntKind.i64].length + (0 : Nat)) (0 : Int))
                (R.getD (((0 : Nat) + (IntKind.i64.wrap ((↑r : Int) - (2 : Int))).toNat) * (1 : Nat) + (0 : Nat))
                  (0 : Int))
                (R.getD (((0 : Nat) + (IntKind.i64.wrap ((↑r : Int) - (1 : Int))).toNat) * (1 : Nat) + (0 : Nat))
                  (0 : Int))).fst] =
        List.take
            (((0 : Nat) + ((IntKind.i64.wrap ((↑r : Int) - (2 : Int))).toNat - (0 : Nat))) * [IntKind.i64].length)
            ([] ++
              sym.cutL R (sym.cutO (0 : Nat) d (0 : Nat))
                (sym.cutO (0 : Nat) d (0 : Nat) +
                  ((IntKind.i64.wrap ((↑r : Int) - (2 : Int))).toNat - (0 : Nat)))
                (1 : Nat)) ++
          [(twoL
                (L.getD ((↑i : Int).toNat * [IntKind.i64, IntKind.i64].length + (0 : Nat)) (0 : Int))
                (R.getD (((0 : Nat) + (IntKind.i64.wrap ((↑r : Int) - (2 : Int))).toNat) * (1 : Nat) + (0 : Nat))
                  (0 : Int))
                (R.getD (((0 : Nat) + (IntKind.i64.wrap ((↑r : Int) - (1 : Int))).toNat) * (1 : Nat) + (0 : Nat))
                  (0 : Int))).fst] ∧
      x_1.cap = x_1.cap)
           (.leaf (.inl ⟨List.take (((0 : Nat) + ((IntKind.i64.wrap ((↑r : Int) - (2 : Int))).toNat - (0 : Nat))) * [IntKind.i64].length)
    ([] ++
      sym.cutL R (sym.cutO (0 : Nat) d (0 : Nat))
        (sym.cutO (0 : Nat) d (0 : Nat) +
          ((IntKind.i64.wrap ((↑r : Int) - (2 : Int))).toNat - (0 : Nat)))
        (1 : Nat)) ++
  [(twoL
        (L.getD ((↑i : Int).toNat * [IntKind.i64, IntKind.i64].length + (0 : Nat)) (0 : Int))
        (R.getD (((0 : Nat) + (IntKind.i64.wrap ((↑r : Int) - (2 : Int))).toNat) * (1 : Nat) + (0 : Nat)) (0 : Int))
        (R.getD (((0 : Nat) + (IntKind.i64.wrap ((↑r : Int) - (1 : Int))).toNat) * (1 : Nat) + (0 : Nat))
          (0 : Int))).fst], (0 : Nat) + ((IntKind.i64.wrap ((↑r : Int) - (2 : Int))).toNat - (0 : Nat)) + (1 : Nat), x_1.nl', x_1.cap, (IntKind.i64.wrap ((↑i : Int) + (1 : Int))).toNat⟩)))))))))))))))))))))))))))))))))))))))))))))))))
 (.chk (IntKind.i64 = IntKind.i64 ∧ (0 : Int) = (0 : Int))
 (.chk (IntKind.i64 = IntKind.i64 ∧ (0 : Int) = (0 : Int))
 (.chk (nl = nl ∧ (1 : Nat) = (1 : Nat) ∧ (0 : Nat) = (0 : Nat) ∧ r = r ∧ d = d)
 (.chk (IntKind.u8 = IntKind.u8 ∧ qa = qa)
 (.chk (IntKind.u8 = IntKind.u8 ∧ qf = qf)
 (.chk (IntKind.u8 = IntKind.u8 ∧ qb = qb)
 (.chk (IntKind.u8 = IntKind.u8 ∧ qc = qc)
 (.chk (IntKind.u8 = IntKind.u8 ∧ qd = qd)
 (.chk (IntKind.u8 = IntKind.u8 ∧ qe = qe)
 (.chk (IntKind.u8 = IntKind.u8 ∧ qh = qh)
 (.chk (IntKind.u8 = IntKind.u8 ∧ ql = ql)
 (.chk (IntKind.u16 = IntKind.u16 ∧ sp = sp)
 (.chk (IntKind.u16 = IntKind.u16 ∧ pc = pc)
 (.chk (IntKind.i64 = IntKind.i64 ∧ ad = ad)
 (.chk (IntKind.i64 = IntKind.i64 ∧ va = va)
 (.chk (IntKind.i64 = IntKind.i64 ∧ ki = ki)
 (.chk (IntKind.i64 = IntKind.i64 ∧ ba = ba)
 (.chk (AB = AB ∧ [IntKind.u8] = [IntKind.u8] ∧ Bx = Bx ∧ nb = nb ∧ cb = cb)
 (.chk (nl = nl ∧ [IntKind.i64] = [IntKind.i64] ∧ R = R ∧ d = d)
 (.leaf (.inr (.inl ⟨R, r, nl, d⟩))))))))))))))))))))))) := by kernel_rfl
def rrMu (A : Option Addr) (L : List Int) (m cap : Nat) (qa qf qb qc qd qe qh ql sp pc : Int) (ad va ki ba : Int) (AB : Option Addr) (Bx : List Int) (nb cb : Nat) (ev : Value) (F : Int → Int) (p : rrP) (x : rrX) : Nat := m - x.i
set_option maxHeartbeats 1000000 in
theorem rr_step (w : World) (A : Option Addr) (L : List Int) (m cap : Nat) (qa qf qb qc qd qe qh ql sp pc : Int) (ad va ki ba : Int) (AB : Option Addr) (Bx : List Int) (nb cb : Nat) (ev : Value) (F : Int → Int) (p : rrP) (x : rrX) (hX : XR w A [.i64, .i64] L m) (hc : m ≤ cap) (hL : ∀ j, I6 (L.getD j 0)) (hR : RgB qa qf qb qc qd qe qh ql sp pc ad va ki ba) (hF : ∀ x, B (F x)) (hev : ev = evV qa qf qb qc qd qe qh ql sp pc ad va ki ba AB Bx nb cb) (hP : (rpkC ev F).Ok Try.prog w) (h : rrInv A L m cap qa qf qb qc qd qe qh ql sp pc ad va ki ba AB Bx nb cb ev F p x) : Hid (roundT Try.prog w (flatT Try.prog) (ctrOf rtabC) (callT Try.prog w (flatT Try.prog) (ctrOf rtabC) (preOf w [rpkC ev F]) (lpOf Try.prog [oneLp 13 6]) 20) ((lpOf Try.prog [oneLp 13 6]) 13) (roundOf (bodyAt Try.prog 13 0)) 0 1 rrRo rrRf rrRb (rrSt A L m cap qa qf qb qc qd qe qh ql sp pc ad va ki ba AB Bx nb cb ev F p) (rrFin A L m cap qa qf qb qc qd qe qh ql sp pc ad va ki ba AB Bx nb cb ev F p) (rrBck A L m cap qa qf qb qc qd qe qh ql sp pc ad va ki ba AB Bx nb cb ev F p) rrNxX rrNxY rrNxZ x) (Kept (rrInv A L m cap qa qf qb qc qd qe qh ql sp pc ad va ki ba AB Bx nb cb ev F p) (rrPost A L m cap qa qf qb qc qd qe qh ql sp pc ad va ki ba AB Bx nb cb ev F p) (rrBack A L m cap qa qf qb qc qd qe qh ql sp pc ad va ki ba AB Bx nb cb ev F p) (rrMu A L m cap qa qf qb qc qd qe qh ql sp pc ad va ki ba AB Bx nb cb ev F p) x) := by
  obtain ⟨⟩ := p
  obtain ⟨R, r, nl, d, i⟩ := x
  constructor
  rw [rrstep_tree]
  simp only [T.holds, Kept, rrMu, and_self, true_and, and_true]
  obtain ⟨i1, big, rl, rd, nil, ri, rg, eq⟩ := h
  simp only at i1 big rl rd nil ri rg eq
  have hl : L.length = m * 2 := hX.1
  simp only [T.holds, List.length_singleton, show [IntKind.i64, IntKind.i64].length = 2 from rfl, show [IntKind.i64].getD 0 IntKind.u8 = IntKind.i64 from rfl, Int.toNat_natCast, Nat.mul_one, Nat.sub_zero, Nat.zero_add, Nat.add_zero, Nat.zero_mul, sym.cutO, ite_self, true_and, and_true, and_self, decide_eq_true_eq, decide_eq_false_iff_not, bne_iff_ne, ne_eq, Bool.not_eq_true, bne_eq_false_iff_eq, not_true_eq_false, false_implies, true_implies, beq_iff_eq, beq_eq_false_iff_ne, List.nil_append]
  refine ⟨fun hlt => ?_, fun hge => ⟨rl, rd, nil, ?_⟩⟩
  · have hlt : i < m := by omega
    have wi : IntKind.i64.wrap ((i : Int) + 1) = ((i + 1 : Nat) : Int) := by rw [wi64 _ (by omega) (by omega)]; omega
    rw [evalL_at _ _ (by omega)] at eq
    rw [wi, Int.toNat_natCast]
    refine ⟨⟨hX, by omega, by omega, by decide⟩, ⟨hX.2, by omega⟩, ⟨hX.2, by decide, by omega⟩, ⟨hX, by omega, by omega, by decide⟩, ⟨hX.2, by omega⟩, ⟨hX.2, by decide, by omega⟩, ?_⟩
    have hI1 := hL (i * 2)
    have hI2 := hL (i * 2 + 1)
    generalize L.getD (i * 2) 0 = op at *
    generalize L.getD (i * 2 + 1) 0 = n at *
    rw [rl] at eq
    refine ⟨fun hC => ⟨by rw [if_pos (err_is hC)] at eq; exact eq.symm⟩, fun hC => ?_⟩
    obtain ⟨⟨o1, o24⟩, hn0, hnm, hr1, hr2⟩ := ok_is hC
    refine ⟨fun h1 => ?_, fun h1 => ⟨fun h2 => ?_, fun h2 => ?_⟩⟩
    · subst h1
      have hT : R.take r = R := List.take_of_length_le (by omega)
      rw [t1, if_neg (by omega), if_pos rfl, if_neg (by decide)] at eq
      exact ⟨⟨⟨by omega, rd.1, rd.2, fun e => (nil e).2⟩, by omega⟩, fun g => ⟨rfl, ⟨by show i + 1 ≤ m; omega, big, take_last (by omega) _, ⟨g.le, g.max⟩, (rowR g).nil, by show r + 1 ≤ i + 1; omega, all_grow rg _ hI2, by show evalL _ _ _ (R.take r ++ _) = _; rw [hT]; exact eq⟩, by omega⟩⟩
    · subst h2
      have hn := hnm rfl
      have e0 : takesL 2 n = 0 := by unfold takesL; rw [if_pos (.inr ⟨rfl, hn.1, hn.2⟩)]
      have hT : R.take r = R := List.take_of_length_le (by omega)
      rw [e0, if_neg (by omega), if_pos rfl, if_pos rfl] at eq
      exact ⟨⟨hR, hn.1, hn.2⟩, ⟨⟨by omega, rd.1, rd.2, fun e => (nil e).2⟩, by omega⟩, fun g => ⟨rfl, ⟨by show i + 1 ≤ m; omega, big, take_last (by omega) _, ⟨g.le, g.max⟩, (rowR g).nil, by show r + 1 ≤ i + 1; omega, all_grow rg _ (nameL_I6 hR), by show evalL _ _ _ (R.take r ++ _) = _; rw [hT]; exact eq⟩, by omega⟩⟩
    · have h3 : 3 ≤ op := by omega
      have hn := hn0 (by omega)
      have h1r := hr1 h3
      have hnl : nl = false := by
        cases nl with
        | false => rfl
        | true => have := (nil rfl).1; omega
      have w1 : IntKind.i64.wrap ((r : Int) - 1) = ((r - 1 : Nat) : Int) := by rw [wi64 _ (by omega) (by omega)]; omega
      rw [w1, Int.toNat_natCast]
      subst hn
      rw [u16m]
      have htop := all_get rg (r - 1)
      refine ⟨⟨hnl, by omega, by omega⟩, ⟨hnl, by omega⟩, fun a3 => ?_, fun a3 => ⟨fun a4 => ?_, fun a4 => ⟨fun a5 => ⟨fun z => ?_, fun z => ?_⟩, fun a5 => ⟨fun a6 => ?_, fun a6 => ?_⟩⟩⟩⟩
      · subst a3
        rw [t3 3 (by decide) (by decide), if_neg (by omega), if_neg (by decide), if_pos rfl] at eq
        refine ⟨⟨by rw [hev]; rfl, by rw [wu16]; omega, by rw [wu16]; omega⟩, ?_⟩
        exact ⟨⟨hnl, by omega, by omega⟩, ⟨hnl, by omega⟩, rfl, ⟨by show i + 1 ≤ m; omega, big, by show (R.set _ _).length = r; rw [List.length_set]; exact rl, rd, nil, by show r ≤ i + 1; omega, all_set rg _ (w_I6 _), by show evalL _ _ _ (R.set (r - 1) _) = _; rw [set_last rl h1r]; exact eq⟩, by omega⟩
      · subst a4
        rw [t3 4 (by decide) (by decide), if_neg (by omega), if_neg (by decide), if_pos rfl] at eq
        exact ⟨⟨hnl, by omega, by omega⟩, ⟨hnl, by omega⟩, rfl, ⟨by show i + 1 ≤ m; omega, big, by show (R.set _ _).length = r; rw [List.length_set]; exact rl, rd, nil, by show r ≤ i + 1; omega, all_set rg _ (w_I6 _), by show evalL _ _ _ (R.set (r - 1) _) = _; rw [set_last rl h1r]; exact eq⟩, by omega⟩
      · subst a5
        rw [t3 5 (by decide) (by decide), if_neg (by omega), if_neg (by decide), if_pos rfl] at eq
        have e5 : oneL F 5 (R.getD (r - 1) 0) = 1 := by rw [z]; rfl
        rw [e5] at eq
        exact ⟨⟨hnl, by omega, by omega⟩, ⟨hnl, by omega⟩, rfl, ⟨by show i + 1 ≤ m; omega, big, by show (R.set _ _).length = r; rw [List.length_set]; exact rl, rd, nil, by show r ≤ i + 1; omega, all_set rg _ ⟨by decide, by decide⟩, by show evalL _ _ _ (R.set (r - 1) _) = _; rw [set_last rl h1r]; exact eq⟩, by omega⟩
      · subst a5
        rw [t3 5 (by decide) (by decide), if_neg (by omega), if_neg (by decide), if_pos rfl] at eq
        have e5 : oneL F 5 (R.getD (r - 1) 0) = 0 := by
          show B2 (R.getD (r - 1) 0 == 0) = 0
          rw [beq_eq_false_iff_ne.2 z]
          rfl
        rw [e5] at eq
        exact ⟨⟨hnl, by omega, by omega⟩, ⟨hnl, by omega⟩, rfl, ⟨by show i + 1 ≤ m; omega, big, by show (R.set _ _).length = r; rw [List.length_set]; exact rl, rd, nil, by show r ≤ i + 1; omega, all_set rg _ ⟨by decide, by decide⟩, by show evalL _ _ _ (R.set (r - 1) _) = _; rw [set_last rl h1r]; exact eq⟩, by omega⟩
      · subst a6
        rw [t3 6 (by decide) (by decide), if_neg (by omega), if_neg (by decide), if_pos rfl] at eq
        have e6 : oneL F 6 (R.getD (r - 1) 0) = IntKind.i64.wrap (-1 - R.getD (r - 1) 0) := flip _
        rw [e6] at eq
        exact ⟨⟨hnl, by omega, by omega⟩, ⟨hnl, by omega⟩, rfl, ⟨by show i + 1 ≤ m; omega, big, by show (R.set _ _).length = r; rw [List.length_set]; exact rl, rd, nil, by show r ≤ i + 1; omega, all_set rg _ (w_I6 _), by show evalL _ _ _ (R.set (r - 1) _) = _; rw [set_last rl h1r]; exact eq⟩, by omega⟩
      · have h2r := hr2 (by omega)
        rw [t2 op (by omega) o24, if_neg (by omega), if_neg (by decide), if_neg (by decide)] at eq
        have w2 : IntKind.i64.wrap ((r : Int) - 2) = ((r - 2 : Nat) : Int) := by rw [wi64 _ (by omega) (by omega)]; omega
        rw [w2, Int.toNat_natCast]
        have hsec := all_get rg (r - 2)
        have hI := twoL_I6 op hsec htop
        generalize twoL op (R.getD (r - 2) 0) (R.getD (r - 1) 0) = tv at *
        have ec : R.take (r - 2) = List.take (r - 2) (cutL R 0 (r - 2) 1) := by
          rw [cut1, List.drop_zero, Nat.sub_zero, List.take_take, Nat.min_self]
        refine ⟨⟨hnl, by omega, by omega⟩, ⟨hnl, by omega⟩, ⟨by omega, o24, hsec, htop⟩, fun h5 => ⟨?_⟩, fun h5 => ⟨⟨by omega, by omega, by omega⟩, ⟨⟨by omega, by omega⟩, by omega⟩, fun g => ⟨⟨⟨by rw [cut1, List.drop_zero, List.length_take]; omega, by have := g.le; omega, g.max, g.none⟩, by omega⟩, fun g2 => ⟨rfl, ⟨by show i + 1 ≤ m; omega, big, ?_, ⟨by have := g2.le; show r - 2 + 1 ≤ g2.cap; omega, g2.max⟩, fun e => by have h9 := (rowR g2).nil e; exact ⟨by show r - 2 + 1 = 0; omega, h9.2⟩, by show r - 2 + 1 ≤ i + 1; omega, ?_, ?_⟩, by omega⟩⟩⟩⟩
        · rw [if_pos h5] at eq
          exact eq.symm
        · show (List.take (r - 2) (cutL R 0 (r - 2) 1) ++ [tv.1]).length = r - 2 + 1
          rw [← ec]
          exact take_last (by omega) _
        · show ∀ v ∈ List.take (r - 2) (cutL R 0 (r - 2) 1) ++ [tv.1], I6 v
          rw [← ec]
          exact all_grow rg _ hI
        · show evalL _ _ _ (List.take (r - 2) (cutL R 0 (r - 2) 1) ++ [tv.1]) = _
          rw [← ec]
          rw [if_neg (by intro h; exact h h5)] at eq
          exact eq
  · have : L.drop (i * 2) = [] := List.drop_of_length_le (by omega)
    rw [this] at eq
    exact eq
theorem rrLp_ok (w : World) (A : Option Addr) (L : List Int) (m cap : Nat) (qa qf qb qc qd qe qh ql sp pc : Int) (ad va ki ba : Int) (AB : Option Addr) (Bx : List Int) (nb cb : Nat) (ev : Value) (F : Int → Int) (hX : XR w A [.i64, .i64] L m) (hc : m ≤ cap) (hL : ∀ j, I6 (L.getD j 0)) (hR : RgB qa qf qb qc qd qe qh ql sp pc ad va ki ba) (hF : ∀ x, B (F x)) (hev : ev = evV qa qf qb qc qd qe qh ql sp pc ad va ki ba AB Bx nb cb) (hP : (rpkC ev F).Ok Try.prog w) : (rrLp A L m cap qa qf qb qc qd qe qh ql sp pc ad va ki ba AB Bx nb cb ev F).ok Try.prog w := by
  intro s t h
  unfold rrLp at h
  simp only at h
  split at h
  · rename_i p _
    split at h
    · rename_i x _
      cases h
      exact loop_ok base2 (rtabC_ok w) (callT_ok base2.mixed base2.names base2.eqs (rtabC_ok w).ok (rtabC_ok w).there (preOf_ok (pk_ok hP)) (lps_ok fun l hl => by (simp only [List.mem_cons, List.not_mem_nil, or_false] at hl; subst hl; exact oneLp_ok _ _ _ _)) 20) ((lps_ok fun l hl => by (simp only [List.mem_cons, List.not_mem_nil, or_false] at hl; subst hl; exact oneLp_ok _ _ _ _)) 13) (c := roundOf (bodyAt Try.prog 13 0)) (by kernel_rfl) (id := 0) (n := 1) (hr := true) (ro := rrRo) (rf := rrRf) (rr := rrRb) (st := rrSt A L m cap qa qf qb qc qd qe qh ql sp pc ad va ki ba AB Bx nb cb ev F p) (fin := rrFin A L m cap qa qf qb qc qd qe qh ql sp pc ad va ki ba AB Bx nb cb ev F p) (bck := rrBck A L m cap qa qf qb qc qd qe qh ql sp pc ad va ki ba AB Bx nb cb ev F p) (inv := rrInv A L m cap qa qf qb qc qd qe qh ql sp pc ad va ki ba AB Bx nb cb ev F p) (post := rrPost A L m cap qa qf qb qc qd qe qh ql sp pc ad va ki ba AB Bx nb cb ev F p) (back := rrBack A L m cap qa qf qb qc qd qe qh ql sp pc ad va ki ba AB Bx nb cb ev F p) (nx := rrNxX) (fx := rrNxY) (bx := rrNxZ) (rrMu A L m cap qa qf qb qc qd qe qh ql sp pc ad va ki ba AB Bx nb cb ev F p) (nf := 2) (nf' := 2) (nf'' := 1) (fun x => by kernel_rfl) (fun y => by kernel_rfl) (fun z => by kernel_rfl) (.inl rfl) (fun x hx => rr_step w A L m cap qa qf qb qc qd qe qh ql sp pc ad va ki ba AB Bx nb cb ev F p x hX hc hL hR hF hev hP hx) s x
    · cases h
  · cases h
end Go.Proofs.Ytmbahohmiecfiaa
