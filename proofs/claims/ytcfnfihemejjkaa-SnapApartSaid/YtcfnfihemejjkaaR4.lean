/-
  Contracts of packs: a pack of bytes. Bytes are below 256, at most 16000 of them; no other condition.
-/
import Derived.Test.YtcfnfihemejjkaaR3
namespace Go.Proofs.Ytcfnfihemejjkaa
open Go.RowKit sym
set_option linter.unusedVariables false
set_option linter.unusedSimpArgs false
set_option maxRecDepth 100000
theorem or128 : ∀ n : Nat, n < 256 → bits .or .u8 (n : Int) 128 = ((n % 128 + 128 : Nat) : Int) := by decide +kernel
theorem up_num {n : Nat} (h : 128 ≤ n) (h2 : n < 16384) : num n = [bits .or .u8 (IntKind.u8.wrap (n : Int)) 128] ++ num (n / 128) := by
  have e : IntKind.u8.wrap (n : Int) = ((n % 256 : Nat) : Int) := by rw [wu8]; omega
  rw [e, or128 _ (by omega)]
  unfold num
  rw [if_neg (by omega), if_pos (by omega), show n % 256 % 128 = n % 128 by omega]
  rfl
theorem shr7 (n : Nat) : ((n : Int)).fdiv (2 ^ 7) = ((n / 128 : Nat) : Int) := by
  rw [Int.fdiv_eq_ediv_of_nonneg _ (by decide)]
  show (n : Int) / 128 = _
  omega
theorem num_small {n : Nat} (h : n < 128) : num n = [(n : Int)] := by unfold num; rw [if_pos h]
structure pu0P where
  R0 : List Int
  n0 : Nat
structure pu0X where
  R : List Int
  r : Nat
  nl : Bool
  d : Nat
  n : Nat
def pu0St  : pu0P → pu0X → ASt := fun ⟨R0, n0⟩ ⟨R, r, nl, d, n⟩ => ⟨slots (List.replicate 20 .any) [(0, .v (.one (.gs 0 nl 1 0 r d))), (1, .v (.one (.int false .i64 (n : Int))))], [⟨[.row nl [.u8] R d], 5⟩]⟩
def pu0Fin  : pu0P → pu0X → ASt := fun ⟨R0, n0⟩ ⟨R, r, nl, d, n⟩ => ⟨slots (List.replicate 20 .any) [(0, .v (.one (.gs 0 nl 1 0 r d))), (1, .v (.one (.int false .i64 (n : Int))))], [⟨[.row nl [.u8] R d], 5⟩]⟩
def pu0Bck  : pu0P → Empty → ASt := fun _ z => nomatch z
def pu0NxP : ASt → Option pu0P := fun s => match sym.gX s 0 with | none => none | some R0 => match (sym.gI s 1).map Int.toNat with | none => none | some n0 => some ⟨R0, n0⟩
def pu0NxX : ASt → Option pu0X := fun s => match sym.gX s 0 with | none => none | some R => match sym.gL s 0 with | none => none | some r => match sym.gN s 0 with | none => none | some nl => match sym.gC s 0 with | none => none | some d => match (sym.gI s 1).map Int.toNat with | none => none | some n => some ⟨R, r, nl, d, n⟩
def pu0NxZ : ASt → Option Empty := fun _ => none
def pu0Ro : ASt → List (Option Nat) := (fun s => [sym.rowAt s 0])
def pu0Rf : ASt → List (Option Nat) := (fun s => [sym.rowAt s 0])
def pu0Rb : ASt → List (Option Nat) := (fun s => [sym.rowAt s 0])
structure pu0Inv  (p : pu0P) (x : pu0X) : Prop where
  nb : x.n < 16384
  rl : x.R.length = x.r
  rd : x.r ≤ x.d ∧ x.d ≤ maxLen
  nil : x.nl = true → x.r = 0 ∧ x.d = 0
  big : p.R0.length ≤ 2000000
  eq : x.R ++ num x.n = p.R0 ++ num p.n0
structure pu0Post  (p : pu0P) (x : pu0X) : Prop where
  nb : x.n < 128
  rl : x.R.length = x.r
  rd : x.r ≤ x.d ∧ x.d ≤ maxLen
  nil : x.nl = true → x.r = 0 ∧ x.d = 0
  eq : x.R ++ num x.n = p.R0 ++ num p.n0
def pu0Back  (p : pu0P) (x : Empty) : Prop := False
def pu0Lp  : Lp := ⟨19, 0, fun s => match Nat.beq s.h.length 0 with
  | false => none
  | true => match pu0NxP s with
  | some p => match pu0NxX s with
    | some x => some (loopT 0 0 false pu0Ro (pu0St  p) (pu0Fin  p) (pu0Bck  p) (pu0Inv  p) (pu0Post  p) (pu0Back  p) s x)
    | none => none
  | none => none⟩
theorem pu0step_tree (w : World)  (R0 : List Int) (n0 : Nat) (R : List Int) (r : Nat) (nl : Bool) (d : Nat) (n : Nat) :
    roundT Try.prog w (flatT Try.prog) (noCtr) (callT Try.prog w (flatT Try.prog) (noCtr) (noPre) (noLoop) 20) ((noLoop) 19) (roundOf (bodyAt Try.prog 19 0)) 0 0 pu0Ro pu0Rf pu0Rb (pu0St  ⟨R0, n0⟩) (pu0Fin  ⟨R0, n0⟩) (pu0Bck  ⟨R0, n0⟩) pu0NxX pu0NxX pu0NxZ ⟨R, r, nl, d, n⟩ =
(.br (decide ((↑n : Int) ≥ (128 : Int)))
 (.chk (True ∧
  (nl = nl ∧
      (0 : Nat) = (0 : Nat) ∧
        d = d ∧ r * [IntKind.u8].length ≤ R.length ∧ r ≤ d ∧ d ≤ Go.maxLen ∧ (nl = true → d = (0 : Nat))) ∧
    (r + (1 : Nat)) * (1 : Nat) ≤ (140737488355328 : Nat))
 (.all fun x : sym.Grown nl (1 : Nat) (r + (1 : Nat)) =>
  (.chk (x.nl' = x.nl' ∧
  [IntKind.u8].length = (1 : Nat) ∧ (0 : Nat) = (0 : Nat) ∧ r + (1 : Nat) = r + (1 : Nat) ∧ x.cap = x.cap)
  (.chk (IntKind.i64 = IntKind.i64 ∧
  (↑n : Int).fdiv ((2 : Int) ^ (7 : Nat)) = (↑((↑n : Int).fdiv ((2 : Int) ^ (7 : Nat))).toNat : Int))
  (.chk (x.nl' = x.nl' ∧
  [IntKind.u8] = [IntKind.u8] ∧
    List.take (r * [IntKind.u8].length) R ++
          [bits BinOp.or IntKind.u8 (IntKind.u8.wrap (↑n : Int)) (128 : Int)] =
        List.take (r * [IntKind.u8].length) R ++
          [bits BinOp.or IntKind.u8 (IntKind.u8.wrap (↑n : Int)) (128 : Int)] ∧
      x.cap = x.cap)
  (.leaf (.inl ⟨List.take (r * [IntKind.u8].length) R ++
  [bits BinOp.or IntKind.u8 (IntKind.u8.wrap (↑n : Int)) (128 : Int)], r + (1 : Nat), x.nl', x.cap, ((↑n : Int).fdiv ((2 : Int) ^ (7 : Nat))).toNat⟩)))))))
 (.chk (nl = nl ∧ (1 : Nat) = (1 : Nat) ∧ (0 : Nat) = (0 : Nat) ∧ r = r ∧ d = d)
 (.chk (IntKind.i64 = IntKind.i64 ∧ (↑n : Int) = (↑(↑n : Int).toNat : Int))
 (.chk (nl = nl ∧ [IntKind.u8] = [IntKind.u8] ∧ R = R ∧ d = d)
 (.leaf (.inr (.inl ⟨R, r, nl, d, (↑n : Int).toNat⟩))))))) := by kernel_rfl
def pu0Mu  (p : pu0P) (x : pu0X) : Nat := x.n
theorem pu0_step (w : World)  (p : pu0P) (x : pu0X)  (h : pu0Inv  p x) : Hid (roundT Try.prog w (flatT Try.prog) (noCtr) (callT Try.prog w (flatT Try.prog) (noCtr) (noPre) (noLoop) 20) ((noLoop) 19) (roundOf (bodyAt Try.prog 19 0)) 0 0 pu0Ro pu0Rf pu0Rb (pu0St  p) (pu0Fin  p) (pu0Bck  p) pu0NxX pu0NxX pu0NxZ x) (Kept (pu0Inv  p) (pu0Post  p) (pu0Back  p) (pu0Mu  p) x) := by
  obtain ⟨R0, n0⟩ := p
  obtain ⟨R, r, nl, d, n⟩ := x
  constructor
  rw [pu0step_tree]
  simp only [T.holds, Kept, pu0Mu, and_self, true_and, and_true]
  obtain ⟨nb, rl, rd, nil, big, eq⟩ := h
  simp only at nb rl rd nil big eq
  have hlen := congrArg List.length eq
  simp only [List.length_append] at hlen
  have g1 := num_len n
  have g2 := num_len n0
  simp only [List.length_singleton, shr7, Int.toNat_natCast, Nat.mul_one, true_and, and_true]
  refine ⟨fun hge => ⟨⟨⟨by omega, rd.1, rd.2, fun e => (nil e).2⟩, by omega⟩, fun g => ?_⟩, fun hlt => ⟨by have := of_decide_eq_false hlt; show n < 128; omega, rl, rd, nil, eq⟩⟩
  have hge : 128 ≤ n := by have := of_decide_eq_true hge; omega
  refine ⟨⟨by show n / 128 < 16384; omega, by simp [List.length_append, ← rl], ⟨g.le, g.max⟩, (rowR g).nil, big, ?_⟩, by omega⟩
  show R.take r ++ _ ++ num (n / 128) = _
  rw [List.take_of_length_le (by omega), List.append_assoc, ← up_num hge nb, eq]
theorem pu0Lp_ok (w : World)   : (pu0Lp ).ok Try.prog w := by
  intro s t h
  unfold pu0Lp at h
  simp only at h
  split at h
  · cases h
  split at h
  · rename_i p _
    split at h
    · rename_i x _
      cases h
      exact loop_ok base2 (ctrs_none _ w) (callT_ok base2.mixed base2.names base2.eqs (ctrs_none _ w).ok (ctrs_none _ w).there (pre_none _ _) (loops_none _ _) 20) ((loops_none _ _) 19) (c := roundOf (bodyAt Try.prog 19 0)) (by kernel_rfl) (id := 0) (n := 0) (hr := false) (ro := pu0Ro) (rf := pu0Rf) (rr := pu0Rb) (st := pu0St  p) (fin := pu0Fin  p) (bck := pu0Bck  p) (inv := pu0Inv  p) (post := pu0Post  p) (back := pu0Back  p) (nx := pu0NxX) (fx := pu0NxX) (bx := pu0NxZ) (pu0Mu  p) (nf := 1) (nf' := 1) (nf'' := 1) (fun x => by kernel_rfl) (fun y => by kernel_rfl) (fun z => nomatch z) (.inr fun z => nomatch z) (fun x hx => pu0_step w  p x  hx) s x
    · cases h
  · cases h
structure pu1P where
  R0 : List Int
  n0 : Nat
structure pu1X where
  R : List Int
  r : Nat
  nl : Bool
  d : Nat
  n : Nat
def pu1St  : pu1P → pu1X → ASt := fun ⟨R0, n0⟩ ⟨R, r, nl, d, n⟩ => ⟨slots (List.replicate 20 .any) [(0, .v (.one (.gs 1 nl 1 0 r d))), (1, .v (.one (.int false .i64 (n : Int))))], [⟨[.dead], 5⟩, ⟨[.row nl [.u8] R d], 5⟩]⟩
def pu1Fin  : pu1P → pu1X → ASt := fun ⟨R0, n0⟩ ⟨R, r, nl, d, n⟩ => ⟨slots (List.replicate 20 .any) [(0, .v (.one (.gs 1 nl 1 0 r d))), (1, .v (.one (.int false .i64 (n : Int))))], [⟨[.dead], 5⟩, ⟨[.row nl [.u8] R d], 5⟩]⟩
def pu1Bck  : pu1P → Empty → ASt := fun _ z => nomatch z
def pu1NxP : ASt → Option pu1P := fun s => match sym.gX s 0 with | none => none | some R0 => match (sym.gI s 1).map Int.toNat with | none => none | some n0 => some ⟨R0, n0⟩
def pu1NxX : ASt → Option pu1X := fun s => match sym.gX s 0 with | none => none | some R => match sym.gL s 0 with | none => none | some r => match sym.gN s 0 with | none => none | some nl => match sym.gC s 0 with | none => none | some d => match (sym.gI s 1).map Int.toNat with | none => none | some n => some ⟨R, r, nl, d, n⟩
def pu1NxZ : ASt → Option Empty := fun _ => none
def pu1Ro : ASt → List (Option Nat) := (fun s => [sym.rowAt s 0])
def pu1Rf : ASt → List (Option Nat) := (fun s => [sym.rowAt s 0])
def pu1Rb : ASt → List (Option Nat) := (fun s => [sym.rowAt s 0])
structure pu1Inv  (p : pu1P) (x : pu1X) : Prop where
  nb : x.n < 16384
  rl : x.R.length = x.r
  rd : x.r ≤ x.d ∧ x.d ≤ maxLen
  nil : x.nl = true → x.r = 0 ∧ x.d = 0
  big : p.R0.length ≤ 2000000
  eq : x.R ++ num x.n = p.R0 ++ num p.n0
structure pu1Post  (p : pu1P) (x : pu1X) : Prop where
  nb : x.n < 128
  rl : x.R.length = x.r
  rd : x.r ≤ x.d ∧ x.d ≤ maxLen
  nil : x.nl = true → x.r = 0 ∧ x.d = 0
  eq : x.R ++ num x.n = p.R0 ++ num p.n0
def pu1Back  (p : pu1P) (x : Empty) : Prop := False
def pu1Lp  : Lp := ⟨19, 0, fun s => match Nat.beq s.h.length 1 with
  | false => none
  | true => match pu1NxP s with
  | some p => match pu1NxX s with
    | some x => some (loopT 0 1 false pu1Ro (pu1St  p) (pu1Fin  p) (pu1Bck  p) (pu1Inv  p) (pu1Post  p) (pu1Back  p) s x)
    | none => none
  | none => none⟩
theorem pu1step_tree (w : World)  (R0 : List Int) (n0 : Nat) (R : List Int) (r : Nat) (nl : Bool) (d : Nat) (n : Nat) :
    roundT Try.prog w (flatT Try.prog) (noCtr) (callT Try.prog w (flatT Try.prog) (noCtr) (noPre) (noLoop) 20) ((noLoop) 19) (roundOf (bodyAt Try.prog 19 0)) 0 1 pu1Ro pu1Rf pu1Rb (pu1St  ⟨R0, n0⟩) (pu1Fin  ⟨R0, n0⟩) (pu1Bck  ⟨R0, n0⟩) pu1NxX pu1NxX pu1NxZ ⟨R, r, nl, d, n⟩ =
(.br (decide ((↑n : Int) ≥ (128 : Int)))
 (.chk (True ∧
  (nl = nl ∧
      (0 : Nat) = (0 : Nat) ∧
        d = d ∧ r * [IntKind.u8].length ≤ R.length ∧ r ≤ d ∧ d ≤ Go.maxLen ∧ (nl = true → d = (0 : Nat))) ∧
    (r + (1 : Nat)) * (1 : Nat) ≤ (140737488355328 : Nat))
 (.all fun x : sym.Grown nl (1 : Nat) (r + (1 : Nat)) =>
  (.chk (x.nl' = x.nl' ∧
  [IntKind.u8].length = (1 : Nat) ∧ (0 : Nat) = (0 : Nat) ∧ r + (1 : Nat) = r + (1 : Nat) ∧ x.cap = x.cap)
  (.chk (IntKind.i64 = IntKind.i64 ∧
  (↑n : Int).fdiv ((2 : Int) ^ (7 : Nat)) = (↑((↑n : Int).fdiv ((2 : Int) ^ (7 : Nat))).toNat : Int))
  (.chk (x.nl' = x.nl' ∧
  [IntKind.u8] = [IntKind.u8] ∧
    List.take (r * [IntKind.u8].length) R ++
          [bits BinOp.or IntKind.u8 (IntKind.u8.wrap (↑n : Int)) (128 : Int)] =
        List.take (r * [IntKind.u8].length) R ++
          [bits BinOp.or IntKind.u8 (IntKind.u8.wrap (↑n : Int)) (128 : Int)] ∧
      x.cap = x.cap)
  (.leaf (.inl ⟨List.take (r * [IntKind.u8].length) R ++
  [bits BinOp.or IntKind.u8 (IntKind.u8.wrap (↑n : Int)) (128 : Int)], r + (1 : Nat), x.nl', x.cap, ((↑n : Int).fdiv ((2 : Int) ^ (7 : Nat))).toNat⟩)))))))
 (.chk (nl = nl ∧ (1 : Nat) = (1 : Nat) ∧ (0 : Nat) = (0 : Nat) ∧ r = r ∧ d = d)
 (.chk (IntKind.i64 = IntKind.i64 ∧ (↑n : Int) = (↑(↑n : Int).toNat : Int))
 (.chk (nl = nl ∧ [IntKind.u8] = [IntKind.u8] ∧ R = R ∧ d = d)
 (.leaf (.inr (.inl ⟨R, r, nl, d, (↑n : Int).toNat⟩))))))) := by kernel_rfl
def pu1Mu  (p : pu1P) (x : pu1X) : Nat := x.n
theorem pu1_step (w : World)  (p : pu1P) (x : pu1X)  (h : pu1Inv  p x) : Hid (roundT Try.prog w (flatT Try.prog) (noCtr) (callT Try.prog w (flatT Try.prog) (noCtr) (noPre) (noLoop) 20) ((noLoop) 19) (roundOf (bodyAt Try.prog 19 0)) 0 1 pu1Ro pu1Rf pu1Rb (pu1St  p) (pu1Fin  p) (pu1Bck  p) pu1NxX pu1NxX pu1NxZ x) (Kept (pu1Inv  p) (pu1Post  p) (pu1Back  p) (pu1Mu  p) x) := by
  obtain ⟨R0, n0⟩ := p
  obtain ⟨R, r, nl, d, n⟩ := x
  constructor
  rw [pu1step_tree]
  simp only [T.holds, Kept, pu1Mu, and_self, true_and, and_true]
  obtain ⟨nb, rl, rd, nil, big, eq⟩ := h
  simp only at nb rl rd nil big eq
  have hlen := congrArg List.length eq
  simp only [List.length_append] at hlen
  have g1 := num_len n
  have g2 := num_len n0
  simp only [List.length_singleton, shr7, Int.toNat_natCast, Nat.mul_one, true_and, and_true]
  refine ⟨fun hge => ⟨⟨⟨by omega, rd.1, rd.2, fun e => (nil e).2⟩, by omega⟩, fun g => ?_⟩, fun hlt => ⟨by have := of_decide_eq_false hlt; show n < 128; omega, rl, rd, nil, eq⟩⟩
  have hge : 128 ≤ n := by have := of_decide_eq_true hge; omega
  refine ⟨⟨by show n / 128 < 16384; omega, by simp [List.length_append, ← rl], ⟨g.le, g.max⟩, (rowR g).nil, big, ?_⟩, by omega⟩
  show R.take r ++ _ ++ num (n / 128) = _
  rw [List.take_of_length_le (by omega), List.append_assoc, ← up_num hge nb, eq]
theorem pu1Lp_ok (w : World)   : (pu1Lp ).ok Try.prog w := by
  intro s t h
  unfold pu1Lp at h
  simp only at h
  split at h
  · cases h
  split at h
  · rename_i p _
    split at h
    · rename_i x _
      cases h
      exact loop_ok base2 (ctrs_none _ w) (callT_ok base2.mixed base2.names base2.eqs (ctrs_none _ w).ok (ctrs_none _ w).there (pre_none _ _) (loops_none _ _) 20) ((loops_none _ _) 19) (c := roundOf (bodyAt Try.prog 19 0)) (by kernel_rfl) (id := 0) (n := 1) (hr := false) (ro := pu1Ro) (rf := pu1Rf) (rr := pu1Rb) (st := pu1St  p) (fin := pu1Fin  p) (bck := pu1Bck  p) (inv := pu1Inv  p) (post := pu1Post  p) (back := pu1Back  p) (nx := pu1NxX) (fx := pu1NxX) (bx := pu1NxZ) (pu1Mu  p) (nf := 2) (nf' := 2) (nf'' := 2) (fun x => by kernel_rfl) (fun y => by kernel_rfl) (fun z => nomatch z) (.inr fun z => nomatch z) (fun x hx => pu1_step w  p x  hx) s x
    · cases h
  · cases h
structure pu3P where
  R0 : List Int
  n0 : Nat
structure pu3X where
  R : List Int
  r : Nat
  nl : Bool
  d : Nat
  n : Nat
def pu3St  : pu3P → pu3X → ASt := fun ⟨R0, n0⟩ ⟨R, r, nl, d, n⟩ => ⟨slots (List.replicate 20 .any) [(0, .v (.one (.gs 3 nl 1 0 r d))), (1, .v (.one (.int false .i64 (n : Int))))], [⟨[.dead], 5⟩, ⟨[.dead], 5⟩, ⟨[.dead], 5⟩, ⟨[.row nl [.u8] R d], 5⟩]⟩
def pu3Fin  : pu3P → pu3X → ASt := fun ⟨R0, n0⟩ ⟨R, r, nl, d, n⟩ => ⟨slots (List.replicate 20 .any) [(0, .v (.one (.gs 3 nl 1 0 r d))), (1, .v (.one (.int false .i64 (n : Int))))], [⟨[.dead], 5⟩, ⟨[.dead], 5⟩, ⟨[.dead], 5⟩, ⟨[.row nl [.u8] R d], 5⟩]⟩
def pu3Bck  : pu3P → Empty → ASt := fun _ z => nomatch z
def pu3NxP : ASt → Option pu3P := fun s => match sym.gX s 0 with | none => none | some R0 => match (sym.gI s 1).map Int.toNat with | none => none | some n0 => some ⟨R0, n0⟩
def pu3NxX : ASt → Option pu3X := fun s => match sym.gX s 0 with | none => none | some R => match sym.gL s 0 with | none => none | some r => match sym.gN s 0 with | none => none | some nl => match sym.gC s 0 with | none => none | some d => match (sym.gI s 1).map Int.toNat with | none => none | some n => some ⟨R, r, nl, d, n⟩
def pu3NxZ : ASt → Option Empty := fun _ => none
def pu3Ro : ASt → List (Option Nat) := (fun s => [sym.rowAt s 0])
def pu3Rf : ASt → List (Option Nat) := (fun s => [sym.rowAt s 0])
def pu3Rb : ASt → List (Option Nat) := (fun s => [sym.rowAt s 0])
structure pu3Inv  (p : pu3P) (x : pu3X) : Prop where
  nb : x.n < 16384
  rl : x.R.length = x.r
  rd : x.r ≤ x.d ∧ x.d ≤ maxLen
  nil : x.nl = true → x.r = 0 ∧ x.d = 0
  big : p.R0.length ≤ 2000000
  eq : x.R ++ num x.n = p.R0 ++ num p.n0
structure pu3Post  (p : pu3P) (x : pu3X) : Prop where
  nb : x.n < 128
  rl : x.R.length = x.r
  rd : x.r ≤ x.d ∧ x.d ≤ maxLen
  nil : x.nl = true → x.r = 0 ∧ x.d = 0
  eq : x.R ++ num x.n = p.R0 ++ num p.n0
def pu3Back  (p : pu3P) (x : Empty) : Prop := False
def pu3Lp  : Lp := ⟨19, 0, fun s => match Nat.beq s.h.length 3 with
  | false => none
  | true => match pu3NxP s with
  | some p => match pu3NxX s with
    | some x => some (loopT 0 3 false pu3Ro (pu3St  p) (pu3Fin  p) (pu3Bck  p) (pu3Inv  p) (pu3Post  p) (pu3Back  p) s x)
    | none => none
  | none => none⟩
theorem pu3step_tree (w : World)  (R0 : List Int) (n0 : Nat) (R : List Int) (r : Nat) (nl : Bool) (d : Nat) (n : Nat) :
    roundT Try.prog w (flatT Try.prog) (noCtr) (callT Try.prog w (flatT Try.prog) (noCtr) (noPre) (noLoop) 20) ((noLoop) 19) (roundOf (bodyAt Try.prog 19 0)) 0 3 pu3Ro pu3Rf pu3Rb (pu3St  ⟨R0, n0⟩) (pu3Fin  ⟨R0, n0⟩) (pu3Bck  ⟨R0, n0⟩) pu3NxX pu3NxX pu3NxZ ⟨R, r, nl, d, n⟩ =
(.br (decide ((↑n : Int) ≥ (128 : Int)))
 (.chk (True ∧
  (nl = nl ∧
      (0 : Nat) = (0 : Nat) ∧
        d = d ∧ r * [IntKind.u8].length ≤ R.length ∧ r ≤ d ∧ d ≤ Go.maxLen ∧ (nl = true → d = (0 : Nat))) ∧
    (r + (1 : Nat)) * (1 : Nat) ≤ (140737488355328 : Nat))
 (.all fun x : sym.Grown nl (1 : Nat) (r + (1 : Nat)) =>
  (.chk (x.nl' = x.nl' ∧
  [IntKind.u8].length = (1 : Nat) ∧ (0 : Nat) = (0 : Nat) ∧ r + (1 : Nat) = r + (1 : Nat) ∧ x.cap = x.cap)
  (.chk (IntKind.i64 = IntKind.i64 ∧
  (↑n : Int).fdiv ((2 : Int) ^ (7 : Nat)) = (↑((↑n : Int).fdiv ((2 : Int) ^ (7 : Nat))).toNat : Int))
  (.chk (x.nl' = x.nl' ∧
  [IntKind.u8] = [IntKind.u8] ∧
    List.take (r * [IntKind.u8].length) R ++
          [bits BinOp.or IntKind.u8 (IntKind.u8.wrap (↑n : Int)) (128 : Int)] =
        List.take (r * [IntKind.u8].length) R ++
          [bits BinOp.or IntKind.u8 (IntKind.u8.wrap (↑n : Int)) (128 : Int)] ∧
      x.cap = x.cap)
  (.leaf (.inl ⟨List.take (r * [IntKind.u8].length) R ++
  [bits BinOp.or IntKind.u8 (IntKind.u8.wrap (↑n : Int)) (128 : Int)], r + (1 : Nat), x.nl', x.cap, ((↑n : Int).fdiv ((2 : Int) ^ (7 : Nat))).toNat⟩)))))))
 (.chk (nl = nl ∧ (1 : Nat) = (1 : Nat) ∧ (0 : Nat) = (0 : Nat) ∧ r = r ∧ d = d)
 (.chk (IntKind.i64 = IntKind.i64 ∧ (↑n : Int) = (↑(↑n : Int).toNat : Int))
 (.chk (nl = nl ∧ [IntKind.u8] = [IntKind.u8] ∧ R = R ∧ d = d)
 (.leaf (.inr (.inl ⟨R, r, nl, d, (↑n : Int).toNat⟩))))))) := by kernel_rfl
def pu3Mu  (p : pu3P) (x : pu3X) : Nat := x.n
theorem pu3_step (w : World)  (p : pu3P) (x : pu3X)  (h : pu3Inv  p x) : Hid (roundT Try.prog w (flatT Try.prog) (noCtr) (callT Try.prog w (flatT Try.prog) (noCtr) (noPre) (noLoop) 20) ((noLoop) 19) (roundOf (bodyAt Try.prog 19 0)) 0 3 pu3Ro pu3Rf pu3Rb (pu3St  p) (pu3Fin  p) (pu3Bck  p) pu3NxX pu3NxX pu3NxZ x) (Kept (pu3Inv  p) (pu3Post  p) (pu3Back  p) (pu3Mu  p) x) := by
  obtain ⟨R0, n0⟩ := p
  obtain ⟨R, r, nl, d, n⟩ := x
  constructor
  rw [pu3step_tree]
  simp only [T.holds, Kept, pu3Mu, and_self, true_and, and_true]
  obtain ⟨nb, rl, rd, nil, big, eq⟩ := h
  simp only at nb rl rd nil big eq
  have hlen := congrArg List.length eq
  simp only [List.length_append] at hlen
  have g1 := num_len n
  have g2 := num_len n0
  simp only [List.length_singleton, shr7, Int.toNat_natCast, Nat.mul_one, true_and, and_true]
  refine ⟨fun hge => ⟨⟨⟨by omega, rd.1, rd.2, fun e => (nil e).2⟩, by omega⟩, fun g => ?_⟩, fun hlt => ⟨by have := of_decide_eq_false hlt; show n < 128; omega, rl, rd, nil, eq⟩⟩
  have hge : 128 ≤ n := by have := of_decide_eq_true hge; omega
  refine ⟨⟨by show n / 128 < 16384; omega, by simp [List.length_append, ← rl], ⟨g.le, g.max⟩, (rowR g).nil, big, ?_⟩, by omega⟩
  show R.take r ++ _ ++ num (n / 128) = _
  rw [List.take_of_length_le (by omega), List.append_assoc, ← up_num hge nb, eq]
theorem pu3Lp_ok (w : World)   : (pu3Lp ).ok Try.prog w := by
  intro s t h
  unfold pu3Lp at h
  simp only at h
  split at h
  · cases h
  split at h
  · rename_i p _
    split at h
    · rename_i x _
      cases h
      exact loop_ok base2 (ctrs_none _ w) (callT_ok base2.mixed base2.names base2.eqs (ctrs_none _ w).ok (ctrs_none _ w).there (pre_none _ _) (loops_none _ _) 20) ((loops_none _ _) 19) (c := roundOf (bodyAt Try.prog 19 0)) (by kernel_rfl) (id := 0) (n := 3) (hr := false) (ro := pu3Ro) (rf := pu3Rf) (rr := pu3Rb) (st := pu3St  p) (fin := pu3Fin  p) (bck := pu3Bck  p) (inv := pu3Inv  p) (post := pu3Post  p) (back := pu3Back  p) (nx := pu3NxX) (fx := pu3NxX) (bx := pu3NxZ) (pu3Mu  p) (nf := 4) (nf' := 4) (nf'' := 4) (fun x => by kernel_rfl) (fun y => by kernel_rfl) (fun z => nomatch z) (.inr fun z => nomatch z) (fun x hx => pu3_step w  p x  hx) s x
    · cases h
  · cases h
structure pu4P where
  R0 : List Int
  n0 : Nat
structure pu4X where
  R : List Int
  r : Nat
  nl : Bool
  d : Nat
  n : Nat
def pu4St  : pu4P → pu4X → ASt := fun ⟨R0, n0⟩ ⟨R, r, nl, d, n⟩ => ⟨slots (List.replicate 20 .any) [(0, .v (.one (.gs 4 nl 1 0 r d))), (1, .v (.one (.int false .i64 (n : Int))))], [⟨[.dead], 5⟩, ⟨[.dead], 5⟩, ⟨[.dead], 5⟩, ⟨[.dead], 5⟩, ⟨[.row nl [.u8] R d], 5⟩]⟩
def pu4Fin  : pu4P → pu4X → ASt := fun ⟨R0, n0⟩ ⟨R, r, nl, d, n⟩ => ⟨slots (List.replicate 20 .any) [(0, .v (.one (.gs 4 nl 1 0 r d))), (1, .v (.one (.int false .i64 (n : Int))))], [⟨[.dead], 5⟩, ⟨[.dead], 5⟩, ⟨[.dead], 5⟩, ⟨[.dead], 5⟩, ⟨[.row nl [.u8] R d], 5⟩]⟩
def pu4Bck  : pu4P → Empty → ASt := fun _ z => nomatch z
def pu4NxP : ASt → Option pu4P := fun s => match sym.gX s 0 with | none => none | some R0 => match (sym.gI s 1).map Int.toNat with | none => none | some n0 => some ⟨R0, n0⟩
def pu4NxX : ASt → Option pu4X := fun s => match sym.gX s 0 with | none => none | some R => match sym.gL s 0 with | none => none | some r => match sym.gN s 0 with | none => none | some nl => match sym.gC s 0 with | none => none | some d => match (sym.gI s 1).map Int.toNat with | none => none | some n => some ⟨R, r, nl, d, n⟩
def pu4NxZ : ASt → Option Empty := fun _ => none
def pu4Ro : ASt → List (Option Nat) := (fun s => [sym.rowAt s 0])
def pu4Rf : ASt → List (Option Nat) := (fun s => [sym.rowAt s 0])
def pu4Rb : ASt → List (Option Nat) := (fun s => [sym.rowAt s 0])
structure pu4Inv  (p : pu4P) (x : pu4X) : Prop where
  nb : x.n < 16384
  rl : x.R.length = x.r
  rd : x.r ≤ x.d ∧ x.d ≤ maxLen
  nil : x.nl = true → x.r = 0 ∧ x.d = 0
  big : p.R0.length ≤ 2000000
  eq : x.R ++ num x.n = p.R0 ++ num p.n0
structure pu4Post  (p : pu4P) (x : pu4X) : Prop where
  nb : x.n < 128
  rl : x.R.length = x.r
  rd : x.r ≤ x.d ∧ x.d ≤ maxLen
  nil : x.nl = true → x.r = 0 ∧ x.d = 0
  eq : x.R ++ num x.n = p.R0 ++ num p.n0
def pu4Back  (p : pu4P) (x : Empty) : Prop := False
def pu4Lp  : Lp := ⟨19, 0, fun s => match Nat.beq s.h.length 4 with
  | false => none
  | true => match pu4NxP s with
  | some p => match pu4NxX s with
    | some x => some (loopT 0 4 false pu4Ro (pu4St  p) (pu4Fin  p) (pu4Bck  p) (pu4Inv  p) (pu4Post  p) (pu4Back  p) s x)
    | none => none
  | none => none⟩
theorem pu4step_tree (w : World)  (R0 : List Int) (n0 : Nat) (R : List Int) (r : Nat) (nl : Bool) (d : Nat) (n : Nat) :
    roundT Try.prog w (flatT Try.prog) (noCtr) (callT Try.prog w (flatT Try.prog) (noCtr) (noPre) (noLoop) 20) ((noLoop) 19) (roundOf (bodyAt Try.prog 19 0)) 0 4 pu4Ro pu4Rf pu4Rb (pu4St  ⟨R0, n0⟩) (pu4Fin  ⟨R0, n0⟩) (pu4Bck  ⟨R0, n0⟩) pu4NxX pu4NxX pu4NxZ ⟨R, r, nl, d, n⟩ =
(.br (decide ((↑n : Int) ≥ (128 : Int)))
 (.chk (True ∧
  (nl = nl ∧
      (0 : Nat) = (0 : Nat) ∧
        d = d ∧ r * [IntKind.u8].length ≤ R.length ∧ r ≤ d ∧ d ≤ Go.maxLen ∧ (nl = true → d = (0 : Nat))) ∧
    (r + (1 : Nat)) * (1 : Nat) ≤ (140737488355328 : Nat))
 (.all fun x : sym.Grown nl (1 : Nat) (r + (1 : Nat)) =>
  (.chk (x.nl' = x.nl' ∧
  [IntKind.u8].length = (1 : Nat) ∧ (0 : Nat) = (0 : Nat) ∧ r + (1 : Nat) = r + (1 : Nat) ∧ x.cap = x.cap)
  (.chk (IntKind.i64 = IntKind.i64 ∧
  (↑n : Int).fdiv ((2 : Int) ^ (7 : Nat)) = (↑((↑n : Int).fdiv ((2 : Int) ^ (7 : Nat))).toNat : Int))
  (.chk (x.nl' = x.nl' ∧
  [IntKind.u8] = [IntKind.u8] ∧
    List.take (r * [IntKind.u8].length) R ++
          [bits BinOp.or IntKind.u8 (IntKind.u8.wrap (↑n : Int)) (128 : Int)] =
        List.take (r * [IntKind.u8].length) R ++
          [bits BinOp.or IntKind.u8 (IntKind.u8.wrap (↑n : Int)) (128 : Int)] ∧
      x.cap = x.cap)
  (.leaf (.inl ⟨List.take (r * [IntKind.u8].length) R ++
  [bits BinOp.or IntKind.u8 (IntKind.u8.wrap (↑n : Int)) (128 : Int)], r + (1 : Nat), x.nl', x.cap, ((↑n : Int).fdiv ((2 : Int) ^ (7 : Nat))).toNat⟩)))))))
 (.chk (nl = nl ∧ (1 : Nat) = (1 : Nat) ∧ (0 : Nat) = (0 : Nat) ∧ r = r ∧ d = d)
 (.chk (IntKind.i64 = IntKind.i64 ∧ (↑n : Int) = (↑(↑n : Int).toNat : Int))
 (.chk (nl = nl ∧ [IntKind.u8] = [IntKind.u8] ∧ R = R ∧ d = d)
 (.leaf (.inr (.inl ⟨R, r, nl, d, (↑n : Int).toNat⟩))))))) := by kernel_rfl
def pu4Mu  (p : pu4P) (x : pu4X) : Nat := x.n
theorem pu4_step (w : World)  (p : pu4P) (x : pu4X)  (h : pu4Inv  p x) : Hid (roundT Try.prog w (flatT Try.prog) (noCtr) (callT Try.prog w (flatT Try.prog) (noCtr) (noPre) (noLoop) 20) ((noLoop) 19) (roundOf (bodyAt Try.prog 19 0)) 0 4 pu4Ro pu4Rf pu4Rb (pu4St  p) (pu4Fin  p) (pu4Bck  p) pu4NxX pu4NxX pu4NxZ x) (Kept (pu4Inv  p) (pu4Post  p) (pu4Back  p) (pu4Mu  p) x) := by
  obtain ⟨R0, n0⟩ := p
  obtain ⟨R, r, nl, d, n⟩ := x
  constructor
  rw [pu4step_tree]
  simp only [T.holds, Kept, pu4Mu, and_self, true_and, and_true]
  obtain ⟨nb, rl, rd, nil, big, eq⟩ := h
  simp only at nb rl rd nil big eq
  have hlen := congrArg List.length eq
  simp only [List.length_append] at hlen
  have g1 := num_len n
  have g2 := num_len n0
  simp only [List.length_singleton, shr7, Int.toNat_natCast, Nat.mul_one, true_and, and_true]
  refine ⟨fun hge => ⟨⟨⟨by omega, rd.1, rd.2, fun e => (nil e).2⟩, by omega⟩, fun g => ?_⟩, fun hlt => ⟨by have := of_decide_eq_false hlt; show n < 128; omega, rl, rd, nil, eq⟩⟩
  have hge : 128 ≤ n := by have := of_decide_eq_true hge; omega
  refine ⟨⟨by show n / 128 < 16384; omega, by simp [List.length_append, ← rl], ⟨g.le, g.max⟩, (rowR g).nil, big, ?_⟩, by omega⟩
  show R.take r ++ _ ++ num (n / 128) = _
  rw [List.take_of_length_le (by omega), List.append_assoc, ← up_num hge nb, eq]
theorem pu4Lp_ok (w : World)   : (pu4Lp ).ok Try.prog w := by
  intro s t h
  unfold pu4Lp at h
  simp only at h
  split at h
  · cases h
  split at h
  · rename_i p _
    split at h
    · rename_i x _
      cases h
      exact loop_ok base2 (ctrs_none _ w) (callT_ok base2.mixed base2.names base2.eqs (ctrs_none _ w).ok (ctrs_none _ w).there (pre_none _ _) (loops_none _ _) 20) ((loops_none _ _) 19) (c := roundOf (bodyAt Try.prog 19 0)) (by kernel_rfl) (id := 0) (n := 4) (hr := false) (ro := pu4Ro) (rf := pu4Rf) (rr := pu4Rb) (st := pu4St  p) (fin := pu4Fin  p) (bck := pu4Bck  p) (inv := pu4Inv  p) (post := pu4Post  p) (back := pu4Back  p) (nx := pu4NxX) (fx := pu4NxX) (bx := pu4NxZ) (pu4Mu  p) (nf := 5) (nf' := 5) (nf'' := 5) (fun x => by kernel_rfl) (fun y => by kernel_rfl) (fun z => nomatch z) (.inr fun z => nomatch z) (fun x hx => pu4_step w  p x  hx) s x
    · cases h
  · cases h
theorem pu_in {R R0 : List Int} {r d n0 : Nat} {nl : Bool} (hR : R = R0) (nb : n0 < 16384) (rl : R.length = r) (rd : r ≤ d ∧ d ≤ maxLen) (nil : nl = true → r = 0 ∧ d = 0) (big : R.length ≤ 2000000) : pu0Inv ⟨R0, n0⟩ ⟨R, r, nl, d, n0⟩ ∧ pu1Inv ⟨R0, n0⟩ ⟨R, r, nl, d, n0⟩ ∧ pu3Inv ⟨R0, n0⟩ ⟨R, r, nl, d, n0⟩ ∧ pu4Inv ⟨R0, n0⟩ ⟨R, r, nl, d, n0⟩ := by
  subst hR
  exact ⟨⟨nb, rl, rd, nil, big, rfl⟩, ⟨nb, rl, rd, nil, big, rfl⟩, ⟨nb, rl, rd, nil, big, rfl⟩, ⟨nb, rl, rd, nil, big, rfl⟩⟩
def tab2 : List RCtr := [alikeC, otherC]
theorem tab2_ok : ∀ c ∈ tab2, c.Ok Try.prog := fun c hc => by
  simp only [tab2, List.mem_cons, List.not_mem_nil, or_false] at hc
  rcases hc with rfl | rfl
  · exact alikeC_ok
  · exact otherC_ok
theorem puls (w : World) (l : Lp) (hl : l ∈ [mixLp 11 10, pu0Lp, pu1Lp, pu3Lp, pu4Lp]) : l.ok Try.prog w := by
  simp only [List.mem_cons, List.not_mem_nil, or_false] at hl
  rcases hl with rfl | rfl | rfl | rfl | rfl
  · exact mixLp_ok _ _ _ _
  · exact pu0Lp_ok w
  · exact pu1Lp_ok w
  · exact pu3Lp_ok w
  · exact pu4Lp_ok w
structure pkP where
structure pkX where
  A : Option Addr
  X : List Int
  n : Nat
  c : Nat
  A2 : Option Addr
  Y : List Int
  m : Nat
  c2 : Nat
  R : List Int
  r : Nat
  nl : Bool
  d : Nat
structure pkZ where
  R : List Int
  r : Nat
  nl : Bool
  d : Nat
def pkSt (w : World) (P0 Q0 : List Int) : pkP → pkX → ASt := fun ⟨⟩ ⟨A, X, n, c, A2, Y, m, c2, R, r, nl, d⟩ => ⟨slots (List.replicate 46 .any) [(0, .v (.one (.xr A [.u8] X n c))), (1, .v (.one (.xr A2 [.u8] Y m c2))), (6, .v (.one (.gs 0 nl 1 0 r d)))], [⟨[.row nl [.u8] R d], 5⟩]⟩
def pkFin (w : World) (P0 Q0 : List Int) : pkP → pkX → ASt := fun ⟨⟩ ⟨A, X, n, c, A2, Y, m, c2, R, r, nl, d⟩ => ⟨slots (List.replicate 46 .any) [(0, .v (.one (.xr A [.u8] X n c))), (1, .v (.one (.xr A2 [.u8] Y m c2))), (6, .v (.one (.gs 0 nl 1 0 r d)))], [⟨[.row nl [.u8] R d], 5⟩]⟩
def pkBck (w : World) (P0 Q0 : List Int) : pkP → pkZ → ASt := fun ⟨⟩ ⟨R, r, nl, d⟩ => ⟨slots (List.replicate 46 .any) [(4, .v (.one (.gs 0 nl 1 0 r d))), (5, .v (.one (.int true .i64 0)))], [⟨[.row nl [.u8] R d], 5⟩]⟩
def pkNxP : ASt → Option pkP := fun s => some ⟨⟩
def pkNxX : ASt → Option pkX := fun s => match sym.gA s 0 with | none => none | some A => match sym.gXs s 0 with | none => none | some X => match sym.gL s 0 with | none => none | some n => match sym.gC s 0 with | none => none | some c => match sym.gA s 1 with | none => none | some A2 => match sym.gXs s 1 with | none => none | some Y => match sym.gL s 1 with | none => none | some m => match sym.gC s 1 with | none => none | some c2 => match sym.gX s 6 with | none => none | some R => match sym.gL s 6 with | none => none | some r => match sym.gN s 6 with | none => none | some nl => match sym.gC s 6 with | none => none | some d => some ⟨A, X, n, c, A2, Y, m, c2, R, r, nl, d⟩
def pkNxZ : ASt → Option pkZ := fun s => match sym.gX s 4 with | none => none | some R => match sym.gL s 4 with | none => none | some r => match sym.gN s 4 with | none => none | some nl => match sym.gC s 4 with | none => none | some d => some ⟨R, r, nl, d⟩
def pkRo : ASt → List (Option Nat) := (fun s => [sym.rowAt s 6])
def pkRf : ASt → List (Option Nat) := (fun s => [sym.rowAt s 6])
def pkRb : ASt → List (Option Nat) := (fun s => [sym.rowAt s 4])
structure pkInv (w : World) (P0 Q0 : List Int) (p : pkP) (x : pkX) : Prop where
  nm : x.n = x.m
  big : x.m ≤ 16000
  hX : XR w x.A [.u8] x.X x.n
  hc : x.n ≤ x.c
  hY : XR w x.A2 [.u8] x.Y x.m
  hc2 : x.m ≤ x.c2
  rl : x.R.length = x.r
  rd : x.r ≤ x.d ∧ x.d ≤ maxLen
  nil : x.nl = true → x.r = 0 ∧ x.d = 0
  sm : x.r + 5 * x.m ≤ 1000000
  eq : x.R ++ pack x.X x.Y = pack P0 Q0
structure pkPost (w : World) (P0 Q0 : List Int) (p : pkP) (x : pkX) : Prop where
structure pkBack (w : World) (P0 Q0 : List Int) (p : pkP) (x : pkZ) : Prop where
  rl : x.R.length = x.r
  rd : x.r ≤ x.d ∧ x.d ≤ maxLen
  nil : x.nl = true → x.r = 0 ∧ x.d = 0
  eq : x.R = pack P0 Q0
def pkLp (TP : Program) (w : World) (w : World) (P0 Q0 : List Int) : Lp := ⟨11, 777, fun s => match pkNxP s with
  | some p => some (firstT TP w (flatT TP) (noCtr) (callT TP w (flatT TP) (noCtr) (preOf w tab2) (lpOf TP [mixLp 11 10, pu0Lp, pu1Lp, pu3Lp, pu4Lp]) 20) ((lpOf TP [mixLp 11 10, pu0Lp, pu1Lp, pu3Lp, pu4Lp]) 11) (scopeAt TP 11) 0 0 pkRo (pkSt w P0 Q0 p) (pkBck w P0 Q0 p) (pkInv w P0 Q0 p) (pkBack w P0 Q0 p) pkNxX s)
  | none => none⟩
theorem pkstep_tree (w : World) (P0 Q0 : List Int) (A : Option Addr) (X : List Int) (n : Nat) (c : Nat) (A2 : Option Addr) (Y : List Int) (m : Nat) (c2 : Nat) (R : List Int) (r : Nat) (nl : Bool) (d : Nat) :
    passT Try.prog w (flatT Try.prog) (noCtr) (callT Try.prog w (flatT Try.prog) (noCtr) (preOf w tab2) (lpOf Try.prog [mixLp 11 10, pu0Lp, pu1Lp, pu3Lp, pu4Lp]) 20) ((lpOf Try.prog [mixLp 11 10, pu0Lp, pu1Lp, pu3Lp, pu4Lp]) 11) (restAt (scopeAt Try.prog 11) 0) 0 0 pkRo pkRb (pkSt w P0 Q0 ⟨⟩) (pkBck w P0 Q0 ⟨⟩) pkNxX pkNxZ ⟨A, X, n, c, A2, Y, m, c2, R, r, nl, d⟩ =
(.chk ((sym.XR w A [IntKind.u8] X n ∧ n ≤ c) ∧
  (sym.XR w A2 [IntKind.u8] Y m ∧ m ≤ c2) ∧ True)
(.chk (n ≤ (1000000000 : Nat) ∧ m ≤ n)
(.chk (sym.textAt Go.Proofs.Try.prog (19 : Go.FuncId) (0 : Nat) = sym.textAt Go.Proofs.Try.prog (19 : Go.FuncId) (0 : Nat))
(.chk (nl = nl ∧ (1 : Nat) = (1 : Nat) ∧ (0 : Nat) = (0 : Nat) ∧ r = r ∧ d = d)
(.chk (IntKind.i64 = IntKind.i64 ∧
  (↑(lcp X Y) : Int) = (↑(↑(lcp X Y) : Int).toNat : Int))
(.chk (nl = nl ∧ [IntKind.u8] = [IntKind.u8] ∧ R = R ∧ d = d)
(.chk (pu1Inv { R0 := R, n0 := (↑(lcp X Y) : Int).toNat }
  { R := R, r := r, nl := nl, d := d, n := (↑(lcp X Y) : Int).toNat })
(.all fun x : sym.Got pu1X
  (pu1Post { R0 := R, n0 := (↑(lcp X Y) : Int).toNat }) =>
 (.chk (True ∧
  (x.1.3 = x.1.3 ∧
      (0 : Nat) = (0 : Nat) ∧
        x.1.4 = x.1.4 ∧
          x.1.2 * [IntKind.u8].length ≤ x.1.1.length ∧
            x.1.2 ≤ x.1.4 ∧ x.1.4 ≤ Go.maxLen ∧ (x.1.3 = true → x.1.4 = (0 : Nat))) ∧
    (x.1.2 + (1 : Nat)) * (1 : Nat) ≤ (140737488355328 : Nat))
 (.all fun x_1 : sym.Grown x.1.3 (1 : Nat) (x.1.2 + (1 : Nat)) =>
  (.chk ((0 : Int) ≤ (↑(lcp X Y) : Int) ∧
  (↑(lcp X Y) : Int) ≤ (↑n : Int) ∧ (↑n : Int) ≤ (↑n : Int) ∧ n ≤ c)
  (.chk ((0 : Int) ≤ (↑(lcp X Y) : Int) ∧
  (↑(lcp X Y) : Int) ≤ (↑m : Int) ∧ (↑m : Int) ≤ (↑m : Int) ∧ m ≤ c2)
  (.br ((↑(m - (↑(lcp X Y) : Int).toNat) : Int) == (0 : Int))
   (.chk (x_1.nl' = x_1.nl' ∧
  [IntKind.u8].length = (1 : Nat) ∧ (0 : Nat) = (0 : Nat) ∧ x.1.2 + (1 : Nat) = x.1.2 + (1 : Nat) ∧ x_1.cap = x_1.cap)
   (.chk (IntKind.i64 = IntKind.i64 ∧ (0 : Int) = (0 : Int))
   (.chk (x_1.nl' = x_1.nl' ∧
  [IntKind.u8] = [IntKind.u8] ∧
    List.take (x.1.2 * [IntKind.u8].length) x.1.1 ++ [IntKind.u8.wrap (↑x.1.5 : Int)] =
        List.take (x.1.2 * [IntKind.u8].length) x.1.1 ++ [IntKind.u8.wrap (↑x.1.5 : Int)] ∧
      x_1.cap = x_1.cap)
   (.leaf (.inr (.inr ⟨List.take (x.1.2 * [IntKind.u8].length) x.1.1 ++ [IntKind.u8.wrap (↑x.1.5 : Int)], x.1.2 + (1 : Nat), x_1.nl', x_1.cap⟩))))))
   (.chk ((sym.XR w
      (sym.cutA A c (↑(lcp X Y) : Int).toNat
        [IntKind.u8].length)
      [IntKind.u8]
      (sym.cutL X (↑(lcp X Y) : Int).toNat n
        [IntKind.u8].length)
      (n - (↑(lcp X Y) : Int).toNat) ∧
    n - (↑(lcp X Y) : Int).toNat ≤ c - (↑(lcp X Y) : Int).toNat) ∧
  (sym.XR w
        (sym.cutA A2 c2 (↑(lcp X Y) : Int).toNat
          [IntKind.u8].length)
        [IntKind.u8]
        (sym.cutL Y (↑(lcp X Y) : Int).toNat m
          [IntKind.u8].length)
        (m - (↑(lcp X Y) : Int).toNat) ∧
      m - (↑(lcp X Y) : Int).toNat ≤
        c2 - (↑(lcp X Y) : Int).toNat) ∧
    True)
   (.chk (n - (↑(lcp X Y) : Int).toNat ≤ (1000000000 : Nat) ∧
  m - (↑(lcp X Y) : Int).toNat = n - (↑(lcp X Y) : Int).toNat)
   (.chk ((0 : Int) ≤ (↑(0 : Nat) : Int) ∧
  (↑(0 : Nat) : Int) ≤
      (↑(oth
            (sym.cutL X (↑(lcp X Y) : Int).toNat n
              [IntKind.u8].length)
            (sym.cutL Y (↑(lcp X Y) : Int).toNat m
              [IntKind.u8].length)
            (0 : Nat)) :
        Int) ∧
    (↑(oth
              (sym.cutL X (↑(lcp X Y) : Int).toNat n
                [IntKind.u8].length)
              (sym.cutL Y (↑(lcp X Y) : Int).toNat m
                [IntKind.u8].length)
              (0 : Nat)) :
          Int) ≤
        (↑(m - (↑(lcp X Y) : Int).toNat) : Int) ∧
      m - (↑(lcp X Y) : Int).toNat ≤ c2 - (↑(lcp X Y) : Int).toNat)
   (.chk (sym.textAt Go.Proofs.Try.prog (19 : Go.FuncId) (0 : Nat) = sym.textAt Go.Proofs.Try.prog (19 : Go.FuncId) (0 : Nat))
   (.chk (x_1.nl' = x_1.nl' ∧
  [IntKind.u8].length = (1 : Nat) ∧ (0 : Nat) = (0 : Nat) ∧ x.1.2 + (1 : Nat) = x.1.2 + (1 : Nat) ∧ x_1.cap = x_1.cap)
   (.chk (IntKind.i64 = IntKind.i64 ∧
  (↑(oth
          (sym.cutL X (↑(lcp X Y) : Int).toNat n
            [IntKind.u8].length)
          (sym.cutL Y (↑(lcp X Y) : Int).toNat m
            [IntKind.u8].length)
          (0 : Nat)) :
      Int) =
    (↑(↑(oth
                (sym.cutL X (↑(lcp X Y) : Int).toNat n
                  [IntKind.u8].length)
                (sym.cutL Y (↑(lcp X Y) : Int).toNat m
                  [IntKind.u8].length)
                (0 : Nat)) :
            Int).toNat :
      Int))
   (.chk (x_1.nl' = x_1.nl' ∧
  [IntKind.u8] = [IntKind.u8] ∧
    List.take (x.1.2 * [IntKind.u8].length) x.1.1 ++ [IntKind.u8.wrap (↑x.1.5 : Int)] =
        List.take (x.1.2 * [IntKind.u8].length) x.1.1 ++ [IntKind.u8.wrap (↑x.1.5 : Int)] ∧
      x_1.cap = x_1.cap)
   (.chk (pu4Inv
  { R0 := List.take (x.1.2 * [IntKind.u8].length) x.1.1 ++ [IntKind.u8.wrap (↑x.1.5 : Int)],
    n0 :=
      (↑(oth
              (sym.cutL X (↑(lcp X Y) : Int).toNat n
                [IntKind.u8].length)
              (sym.cutL Y (↑(lcp X Y) : Int).toNat m
                [IntKind.u8].length)
              (0 : Nat)) :
          Int).toNat }
  { R := List.take (x.1.2 * [IntKind.u8].length) x.1.1 ++ [IntKind.u8.wrap (↑x.1.5 : Int)],
    r := x.1.2 + (1 : Nat), nl := x_1.nl', d := x_1.cap,
    n :=
      (↑(oth
              (sym.cutL X (↑(lcp X Y) : Int).toNat n
                [IntKind.u8].length)
              (sym.cutL Y (↑(lcp X Y) : Int).toNat m
                [IntKind.u8].length)
              (0 : Nat)) :
          Int).toNat })
   (.all fun x_2 : sym.Got pu4X
  (pu4Post
    { R0 := List.take (x.1.2 * [IntKind.u8].length) x.1.1 ++ [IntKind.u8.wrap (↑x.1.5 : Int)],
      n0 :=
        (↑(oth
                (sym.cutL X (↑(lcp X Y) : Int).toNat n
                  [IntKind.u8].length)
                (sym.cutL Y (↑(lcp X Y) : Int).toNat m
                  [IntKind.u8].length)
                (0 : Nat)) :
            Int).toNat }) =>
    (.chk (True ∧
  (x_2.1.3 = x_2.1.3 ∧
      (0 : Nat) = (0 : Nat) ∧
        x_2.1.4 = x_2.1.4 ∧
          x_2.1.2 * [IntKind.u8].length ≤ x_2.1.1.length ∧
            x_2.1.2 ≤ x_2.1.4 ∧ x_2.1.4 ≤ Go.maxLen ∧ (x_2.1.3 = true → x_2.1.4 = (0 : Nat))) ∧
    (x_2.1.2 + (1 : Nat)) * (1 : Nat) ≤ (140737488355328 : Nat))
    (.all fun x_3 : sym.Grown x_2.1.3 (1 : Nat) (x_2.1.2 + (1 : Nat)) =>
     (.chk ((sym.XR w
      (sym.cutA
        (sym.cutA A2 c2 (↑(lcp X Y) : Int).toNat
          [IntKind.u8].length)
        (c2 - (↑(lcp X Y) : Int).toNat) (0 : Nat) [IntKind.u8].length)
      [IntKind.u8]
      (sym.cutL
        (sym.cutL Y (↑(lcp X Y) : Int).toNat m
          [IntKind.u8].length)
        (0 : Nat)
        (↑(oth
                (sym.cutL X (↑(lcp X Y) : Int).toNat n
                  [IntKind.u8].length)
                (sym.cutL Y (↑(lcp X Y) : Int).toNat m
                  [IntKind.u8].length)
                (0 : Nat)) :
            Int).toNat
        [IntKind.u8].length)
      ((↑(oth
                (sym.cutL X (↑(lcp X Y) : Int).toNat n
                  [IntKind.u8].length)
                (sym.cutL Y (↑(lcp X Y) : Int).toNat m
                  [IntKind.u8].length)
                (0 : Nat)) :
            Int).toNat -
        (0 : Nat)) ∧
    (↑(oth
                (sym.cutL X (↑(lcp X Y) : Int).toNat n
                  [IntKind.u8].length)
                (sym.cutL Y (↑(lcp X Y) : Int).toNat m
                  [IntKind.u8].length)
                (0 : Nat)) :
            Int).toNat -
        (0 : Nat) ≤
      c2 - (↑(lcp X Y) : Int).toNat - (0 : Nat)) ∧
  (x_3.nl' = x_3.nl' ∧
      (0 : Nat) = (0 : Nat) ∧
        x_3.cap = x_3.cap ∧
          (x_2.1.2 + (1 : Nat)) * [IntKind.u8].length ≤
              (List.take (x_2.1.2 * [IntKind.u8].length) x_2.1.1 ++ [IntKind.u8.wrap (↑x_2.1.5 : Int)]).length ∧
            x_2.1.2 + (1 : Nat) ≤ x_3.cap ∧ x_3.cap ≤ Go.maxLen ∧ (x_3.nl' = true → x_3.cap = (0 : Nat))) ∧
    (x_2.1.2 + (1 : Nat) +
          ((↑(oth
                    (sym.cutL X (↑(lcp X Y) : Int).toNat n
                      [IntKind.u8].length)
                    (sym.cutL Y (↑(lcp X Y) : Int).toNat m
                      [IntKind.u8].length)
                    (0 : Nat)) :
                Int).toNat -
            (0 : Nat))) *
        (1 : Nat) ≤
      (140737488355328 : Nat))
     (.all fun x_4 : sym.Grown x_3.nl'
  ((↑(oth
            (sym.cutL X (↑(lcp X Y) : Int).toNat n
              [IntKind.u8].length)
            (sym.cutL Y (↑(lcp X Y) : Int).toNat m
              [IntKind.u8].length)
            (0 : Nat)) :
        Int).toNat -
    (0 : Nat))
  (x_2.1.2 + (1 : Nat) +
    ((↑(oth
              (sym.cutL X (↑(lcp X Y) : Int).toNat n
                [IntKind.u8].length)
              (sym.cutL Y (↑(lcp X Y) : Int).toNat m
                [IntKind.u8].length)
              (0 : Nat)) :
          Int).toNat -
      (0 : Nat))) =>
      (.chk ((0 : Int) ≤
    (↑(oth
          (sym.cutL X (↑(lcp X Y) : Int).toNat n
            [IntKind.u8].length)
          (sym.cutL Y (↑(lcp X Y) : Int).toNat m
            [IntKind.u8].length)
          (0 : Nat)) :
      Int) ∧
  (↑(oth
            (sym.cutL X (↑(lcp X Y) : Int).toNat n
              [IntKind.u8].length)
            (sym.cutL Y (↑(lcp X Y) : Int).toNat m
              [IntKind.u8].length)
            (0 : Nat)) :
        Int) ≤
      (↑(n - (↑(lcp X Y) : Int).toNat) : Int) ∧
    (↑(n - (↑(lcp X Y) : Int).toNat) : Int) ≤
        (↑(n - (↑(lcp X Y) : Int).toNat) : Int) ∧
      n - (↑(lcp X Y) : Int).toNat ≤ c - (↑(lcp X Y) : Int).toNat)
      (.chk ((0 : Int) ≤
    (↑(oth
          (sym.cutL X (↑(lcp X Y) : Int).toNat n
            [IntKind.u8].length)
          (sym.cutL Y (↑(lcp X Y) : Int).toNat m
            [IntKind.u8].length)
          (0 : Nat)) :
      Int) ∧
  (↑(oth
            (sym.cutL X (↑(lcp X Y) : Int).toNat n
              [IntKind.u8].length)
            (sym.cutL Y (↑(lcp X Y) : Int).toNat m
              [IntKind.u8].length)
            (0 : Nat)) :
        Int) ≤
      (↑(m - (↑(lcp X Y) : Int).toNat) : Int) ∧
    (↑(m - (↑(lcp X Y) : Int).toNat) : Int) ≤
        (↑(m - (↑(lcp X Y) : Int).toNat) : Int) ∧
      m - (↑(lcp X Y) : Int).toNat ≤ c2 - (↑(lcp X Y) : Int).toNat)
      (.chk (sym.cutA
      (sym.cutA A c (↑(lcp X Y) : Int).toNat
        [IntKind.u8].length)
      (c - (↑(lcp X Y) : Int).toNat)
      (↑(oth
              (sym.cutL X (↑(lcp X Y) : Int).toNat n
                [IntKind.u8].length)
              (sym.cutL Y (↑(lcp X Y) : Int).toNat m
                [IntKind.u8].length)
              (0 : Nat)) :
          Int).toNat
      [IntKind.u8].length =
    sym.cutA
      (sym.cutA A c (↑(lcp X Y) : Int).toNat
        [IntKind.u8].length)
      (c - (↑(lcp X Y) : Int).toNat)
      (↑(oth
              (sym.cutL X (↑(lcp X Y) : Int).toNat n
                [IntKind.u8].length)
              (sym.cutL Y (↑(lcp X Y) : Int).toNat m
                [IntKind.u8].length)
              (0 : Nat)) :
          Int).toNat
      [IntKind.u8].length ∧
  [IntKind.u8] = [IntKind.u8] ∧
    sym.cutL
          (sym.cutL X (↑(lcp X Y) : Int).toNat n
            [IntKind.u8].length)
          (↑(oth
                  (sym.cutL X (↑(lcp X Y) : Int).toNat n
                    [IntKind.u8].length)
                  (sym.cutL Y (↑(lcp X Y) : Int).toNat m
                    [IntKind.u8].length)
                  (0 : Nat)) :
              Int).toNat
          (n - (↑(lcp X Y) : Int).toNat) [IntKind.u8].length =
        sym.cutL
          (sym.cutL X (↑(lcp X Y) : Int).toNat n
            [IntKind.u8].length)
          (↑(oth
                  (sym.cutL X (↑(lcp X Y) : Int).toNat n
                    [IntKind.u8].length)
                  (sym.cutL Y (↑(lcp X Y) : Int).toNat m
                    [IntKind.u8].length)
                  (0 : Nat)) :
              Int).toNat
          (n - (↑(lcp X Y) : Int).toNat) [IntKind.u8].length ∧
      n - (↑(lcp X Y) : Int).toNat -
            (↑(oth
                    (sym.cutL X (↑(lcp X Y) : Int).toNat n
                      [IntKind.u8].length)
                    (sym.cutL Y (↑(lcp X Y) : Int).toNat m
                      [IntKind.u8].length)
                    (0 : Nat)) :
                Int).toNat =
          n - (↑(lcp X Y) : Int).toNat -
            (↑(oth
                    (sym.cutL X (↑(lcp X Y) : Int).toNat n
                      [IntKind.u8].length)
                    (sym.cutL Y (↑(lcp X Y) : Int).toNat m
                      [IntKind.u8].length)
                    (0 : Nat)) :
                Int).toNat ∧
        c - (↑(lcp X Y) : Int).toNat -
            (↑(oth
                    (sym.cutL X (↑(lcp X Y) : Int).toNat n
                      [IntKind.u8].length)
                    (sym.cutL Y (↑(lcp X Y) : Int).toNat m
                      [IntKind.u8].length)
                    (0 : Nat)) :
                Int).toNat =
          c - (↑(lcp X Y) : Int).toNat -
            (↑(oth
                    (sym.cutL X (↑(lcp X Y) : Int).toNat n
                      [IntKind.u8].length)
                    (sym.cutL Y (↑(lcp X Y) : Int).toNat m
                      [IntKind.u8].length)
                    (0 : Nat)) :
                Int).toNat)
      (.chk (sym.cutA
      (sym.cutA A2 c2 (↑(lcp X Y) : Int).toNat
        [IntKind.u8].length)
      (c2 - (↑(lcp X Y) : Int).toNat)
      (↑(oth
              (sym.cutL X (↑(lcp X Y) : Int).toNat n
                [IntKind.u8].length)
              (sym.cutL Y (↑(lcp X Y) : Int).toNat m
                [IntKind.u8].length)
              (0 : Nat)) :
          Int).toNat
      [IntKind.u8].length =
    sym.cutA
      (sym.cutA A2 c2 (↑(lcp X Y) : Int).toNat
        [IntKind.u8].length)
      (c2 - (↑(lcp X Y) : Int).toNat)
      (↑(oth
              (sym.cutL X (↑(lcp X Y) : Int).toNat n
                [IntKind.u8].length)
              (sym.cutL Y (↑(lcp X Y) : Int).toNat m
                [IntKind.u8].length)
              (0 : Nat)) :
          Int).toNat
      [IntKind.u8].length ∧
  [IntKind.u8] = [IntKind.u8] ∧
    sym.cutL
          (sym.cutL Y (↑(lcp X Y) : Int).toNat m
            [IntKind.u8].length)
          (↑(oth
                  (sym.cutL X (↑(lcp X Y) : Int).toNat n
                    [IntKind.u8].length)
                  (sym.cutL Y (↑(lcp X Y) : Int).toNat m
                    [IntKind.u8].length)
                  (0 : Nat)) :
              Int).toNat
          (m - (↑(lcp X Y) : Int).toNat) [IntKind.u8].length =
        sym.cutL
          (sym.cutL Y (↑(lcp X Y) : Int).toNat m
            [IntKind.u8].length)
          (↑(oth
                  (sym.cutL X (↑(lcp X Y) : Int).toNat n
                    [IntKind.u8].length)
                  (sym.cutL Y (↑(lcp X Y) : Int).toNat m
                    [IntKind.u8].length)
                  (0 : Nat)) :
              Int).toNat
          (m - (↑(lcp X Y) : Int).toNat) [IntKind.u8].length ∧
      m - (↑(lcp X Y) : Int).toNat -
            (↑(oth
                    (sym.cutL X (↑(lcp X Y) : Int).toNat n
                      [IntKind.u8].length)
                    (sym.cutL Y (↑(lcp X Y) : Int).toNat m
                      [IntKind.u8].length)
                    (0 : Nat)) :
                Int).toNat =
          m - (↑(lcp X Y) : Int).toNat -
            (↑(oth
                    (sym.cutL X (↑(lcp X Y) : Int).toNat n
                      [IntKind.u8].length)
                    (sym.cutL Y (↑(lcp X Y) : Int).toNat m
                      [IntKind.u8].length)
                    (0 : Nat)) :
                Int).toNat ∧
        c2 - (↑(lcp X Y) : Int).toNat -
            (↑(oth
                    (sym.cutL X (↑(lcp X Y) : Int).toNat n
                      [IntKind.u8].length)
                    (sym.cutL Y (↑(lcp X Y) : Int).toNat m
                      [IntKind.u8].length)
                    (0 : Nat)) :
                Int).toNat =
          c2 - (↑(lcp X Y) : Int).toNat -
            (↑(oth
                    (sym.cutL X (↑(lcp X Y) : Int).toNat n
                      [IntKind.u8].length)
                    (sym.cutL Y (↑(lcp X Y) : Int).toNat m
                      [IntKind.u8].length)
                    (0 : Nat)) :
                Int).toNat)
      (.chk (x_4.nl' = x_4.nl' ∧
  [IntKind.u8].length = (1 : Nat) ∧
    (0 : Nat) = (0 : Nat) ∧
      x_2.1.2 + (1 : Nat) +
            ((↑(oth
                      (sym.cutL X (↑(lcp X Y) : Int).toNat n
                        [IntKind.u8].length)
                      (sym.cutL Y (↑(lcp X Y) : Int).toNat m
                        [IntKind.u8].length)
                      (0 : Nat)) :
                  Int).toNat -
              (0 : Nat)) =
          x_2.1.2 + (1 : Nat) +
            ((↑(oth
                      (sym.cutL X (↑(lcp X Y) : Int).toNat n
                        [IntKind.u8].length)
                      (sym.cutL Y (↑(lcp X Y) : Int).toNat m
                        [IntKind.u8].length)
                      (0 : Nat)) :
                  Int).toNat -
              (0 : Nat)) ∧
        x_4.cap = x_4.cap)
      (.chk (x_4.nl' = x_4.nl' ∧
  [IntKind.u8] = [IntKind.u8] ∧
    List.take ((x_2.1.2 + (1 : Nat)) * [IntKind.u8].length)
            (List.take (x_2.1.2 * [IntKind.u8].length) x_2.1.1 ++ [IntKind.u8.wrap (↑x_2.1.5 : Int)]) ++
          sym.cutL
            (sym.cutL Y (↑(lcp X Y) : Int).toNat m
              [IntKind.u8].length)
            (0 : Nat)
            (↑(oth
                    (sym.cutL X (↑(lcp X Y) : Int).toNat n
                      [IntKind.u8].length)
                    (sym.cutL Y (↑(lcp X Y) : Int).toNat m
                      [IntKind.u8].length)
                    (0 : Nat)) :
                Int).toNat
            [IntKind.u8].length =
        List.take ((x_2.1.2 + (1 : Nat)) * [IntKind.u8].length)
            (List.take (x_2.1.2 * [IntKind.u8].length) x_2.1.1 ++ [IntKind.u8.wrap (↑x_2.1.5 : Int)]) ++
          sym.cutL
            (sym.cutL Y (↑(lcp X Y) : Int).toNat m
              [IntKind.u8].length)
            (0 : Nat)
            (↑(oth
                    (sym.cutL X (↑(lcp X Y) : Int).toNat n
                      [IntKind.u8].length)
                    (sym.cutL Y (↑(lcp X Y) : Int).toNat m
                      [IntKind.u8].length)
                    (0 : Nat)) :
                Int).toNat
            [IntKind.u8].length ∧
      x_4.cap = x_4.cap)
      (.leaf (.inl ⟨sym.cutA
  (sym.cutA A c (↑(lcp X Y) : Int).toNat [IntKind.u8].length)
  (c - (↑(lcp X Y) : Int).toNat)
  (↑(oth
          (sym.cutL X (↑(lcp X Y) : Int).toNat n
            [IntKind.u8].length)
          (sym.cutL Y (↑(lcp X Y) : Int).toNat m
            [IntKind.u8].length)
          (0 : Nat)) :
      Int).toNat
  [IntKind.u8].length, sym.cutL
  (sym.cutL X (↑(lcp X Y) : Int).toNat n [IntKind.u8].length)
  (↑(oth
          (sym.cutL X (↑(lcp X Y) : Int).toNat n
            [IntKind.u8].length)
          (sym.cutL Y (↑(lcp X Y) : Int).toNat m
            [IntKind.u8].length)
          (0 : Nat)) :
      Int).toNat
  (n - (↑(lcp X Y) : Int).toNat) [IntKind.u8].length, n - (↑(lcp X Y) : Int).toNat -
  (↑(oth
          (sym.cutL X (↑(lcp X Y) : Int).toNat n
            [IntKind.u8].length)
          (sym.cutL Y (↑(lcp X Y) : Int).toNat m
            [IntKind.u8].length)
          (0 : Nat)) :
      Int).toNat, c - (↑(lcp X Y) : Int).toNat -
  (↑(oth
          (sym.cutL X (↑(lcp X Y) : Int).toNat n
            [IntKind.u8].length)
          (sym.cutL Y (↑(lcp X Y) : Int).toNat m
            [IntKind.u8].length)
          (0 : Nat)) :
      Int).toNat, sym.cutA
  (sym.cutA A2 c2 (↑(lcp X Y) : Int).toNat [IntKind.u8].length)
  (c2 - (↑(lcp X Y) : Int).toNat)
  (↑(oth
          (sym.cutL X (↑(lcp X Y) : Int).toNat n
            [IntKind.u8].length)
          (sym.cutL Y (↑(lcp X Y) : Int).toNat m
            [IntKind.u8].length)
          (0 : Nat)) :
      Int).toNat
  [IntKind.u8].length, sym.cutL
  (sym.cutL Y (↑(lcp X Y) : Int).toNat m [IntKind.u8].length)
  (↑(oth
          (sym.cutL X (↑(lcp X Y) : Int).toNat n
            [IntKind.u8].length)
          (sym.cutL Y (↑(lcp X Y) : Int).toNat m
            [IntKind.u8].length)
          (0 : Nat)) :
      Int).toNat
  (m - (↑(lcp X Y) : Int).toNat) [IntKind.u8].length, m - (↑(lcp X Y) : Int).toNat -
  (↑(oth
          (sym.cutL X (↑(lcp X Y) : Int).toNat n
            [IntKind.u8].length)
          (sym.cutL Y (↑(lcp X Y) : Int).toNat m
            [IntKind.u8].length)
          (0 : Nat)) :
      Int).toNat, c2 - (↑(lcp X Y) : Int).toNat -
  (↑(oth
          (sym.cutL X (↑(lcp X Y) : Int).toNat n
            [IntKind.u8].length)
          (sym.cutL Y (↑(lcp X Y) : Int).toNat m
            [IntKind.u8].length)
          (0 : Nat)) :
      Int).toNat, List.take ((x_2.1.2 + (1 : Nat)) * [IntKind.u8].length)
    (List.take (x_2.1.2 * [IntKind.u8].length) x_2.1.1 ++ [IntKind.u8.wrap (↑x_2.1.5 : Int)]) ++
  sym.cutL
    (sym.cutL Y (↑(lcp X Y) : Int).toNat m [IntKind.u8].length)
    (0 : Nat)
    (↑(oth
            (sym.cutL X (↑(lcp X Y) : Int).toNat n
              [IntKind.u8].length)
            (sym.cutL Y (↑(lcp X Y) : Int).toNat m
              [IntKind.u8].length)
            (0 : Nat)) :
        Int).toNat
    [IntKind.u8].length, x_2.1.2 + (1 : Nat) +
  ((↑(oth
            (sym.cutL X (↑(lcp X Y) : Int).toNat n
              [IntKind.u8].length)
            (sym.cutL Y (↑(lcp X Y) : Int).toNat m
              [IntKind.u8].length)
            (0 : Nat)) :
        Int).toNat -
    (0 : Nat)), x_4.nl', x_4.cap⟩)))))))))))))))))))))))))))))))))) := by kernel_rfl
def pkMu (w : World) (P0 Q0 : List Int) (p : pkP) (x : pkX) : Nat := x.m
theorem pk_step (w : World) (w : World) (P0 Q0 : List Int) (p : pkP) (x : pkX)  (h : pkInv w P0 Q0 p x) : Hid (passT Try.prog w (flatT Try.prog) (noCtr) (callT Try.prog w (flatT Try.prog) (noCtr) (preOf w tab2) (lpOf Try.prog [mixLp 11 10, pu0Lp, pu1Lp, pu3Lp, pu4Lp]) 20) ((lpOf Try.prog [mixLp 11 10, pu0Lp, pu1Lp, pu3Lp, pu4Lp]) 11) (restAt (scopeAt Try.prog 11) 0) 0 0 pkRo pkRb (pkSt w P0 Q0 p) (pkBck w P0 Q0 p) pkNxX pkNxZ x) (Kept (pkInv w P0 Q0 p) (fun _ => False) (pkBack w P0 Q0 p) (pkMu w P0 Q0 p) x) := by
  obtain ⟨⟩ := p
  obtain ⟨A, X, n, c, A2, Y, m, c2, R, r, nl, d⟩ := x
  constructor
  rw [pkstep_tree]
  simp only [T.holds, Kept, pkMu, and_self, true_and, and_true]
  obtain ⟨nm, big, hX, hc, hY, hc2, rl, rd, nil, sm, eq⟩ := h
  simp only at nm big hX hc hY hc2 rl rd nil sm eq
  have hn : X.length = n := by simpa using hX.1
  have hm : Y.length = m := by simpa using hY.1
  have hl := lcp_le X Y
  have hk := kk_le X Y
  have x1 := xr_cut (l := lcp X Y) hX hc (by omega) (Nat.le_refl n)
  have x2 := xr_cut (l := lcp X Y) hY hc2 (by omega) (Nat.le_refl m)
  have hpk := pack.eq_def X Y
  simp only [List.length_singleton, cut_n hn, cut_n hm] at x1 x2
  simp only [List.length_singleton, Int.toNat_natCast, Nat.mul_one, Nat.sub_zero, cut_n hn, cut_n hm, show oth (X.drop (lcp X Y)) (Y.drop (lcp X Y)) 0 = kk X Y from rfl, cut1, List.drop_zero, true_and, and_true, and_self]
  refine ⟨⟨⟨hX, hc⟩, hY, hc2⟩, ⟨by omega, by omega⟩, ⟨by show lcp X Y < 16384; omega, rl, rd, nil, by show R.length ≤ 2000000; omega, rfl⟩, fun x => ?_⟩
  have q1 : x.it.R ++ num x.it.n = R ++ num (lcp X Y) := x.so.eq
  have q2 := x.so.nb
  have q3 := x.so.rl
  have f1 : List.take x.it.r x.it.R ++ [IntKind.u8.wrap (x.it.n : Int)] = R ++ num (lcp X Y) := by
    rw [List.take_of_length_le (by omega), ← q1, num_small q2, wu8, Int.emod_eq_of_lt (by omega) (by omega)]
  have q4 := congrArg List.length q1
  rw [num_small q2] at q4
  simp only [List.length_append, List.length_singleton] at q4
  have g1 := num_len (lcp X Y)
  have g2 := num_len (kk X Y)
  refine ⟨⟨⟨Nat.le_of_eq q3.symm, x.so.rd.1, x.so.rd.2, fun e => (x.so.nil e).2⟩, by omega⟩, fun g => ?_⟩
  rw [f1]
  refine ⟨⟨by omega, by omega, by omega, hc⟩, ⟨by omega, by omega, by omega, hc2⟩, fun he => ⟨?_, ⟨g.le, g.max⟩, (rowR g).nil, ?_⟩, fun hne => ?_⟩
  · show (R ++ num (lcp X Y)).length = x.it.r + 1
    rw [List.length_append]; omega
  · have he : ((m - lcp X Y : Nat) : Int) = 0 := by simpa using he
    show R ++ num (lcp X Y) = pack P0 Q0
    rw [← eq, hpk, dif_pos (by omega), List.append_nil]
  have hne : ¬ ((m - lcp X Y : Nat) : Int) = 0 := by simpa using hne
  have hpos := kk_pos X Y (by omega)
  rw [dif_neg (by omega)] at hpk
  refine ⟨⟨⟨x1, by omega⟩, x2, by omega⟩, ⟨by omega, by omega⟩, ⟨by omega, by omega, by omega, by omega⟩, ⟨by show kk X Y < 16384; omega, by show (R ++ num (lcp X Y)).length = x.it.r + 1; rw [List.length_append]; omega, ⟨g.le, g.max⟩, (rowR g).nil, by show (R ++ num (lcp X Y)).length ≤ 2000000; rw [List.length_append]; omega, rfl⟩, fun y => ?_⟩
  have y1 : y.it.R ++ num y.it.n = (R ++ num (lcp X Y)) ++ num (kk X Y) := by
    have := y.so.eq
    simp only [List.length_singleton, Int.toNat_natCast, Nat.mul_one, Nat.sub_zero, cut_n hn, cut_n hm, show oth (X.drop (lcp X Y)) (Y.drop (lcp X Y)) 0 = kk X Y from rfl, cut1, List.drop_zero, true_and, and_true, and_self] at this
    rw [this, f1]
  have y2 := y.so.nb
  have y3 := y.so.rl
  have f2 : List.take y.it.r y.it.R ++ [IntKind.u8.wrap (y.it.n : Int)] = R ++ num (lcp X Y) ++ num (kk X Y) := by
    rw [List.take_of_length_le (by omega), ← y1, num_small y2]
    exact congrArg (fun z => y.it.R ++ [z]) (show IntKind.u8.wrap (y.it.n : Int) = (y.it.n : Int) by rw [wu8]; omega)
  have y4 := congrArg List.length y1
  rw [num_small y2] at y4
  simp only [List.length_append, List.length_singleton] at y4
  refine ⟨⟨⟨Nat.le_of_eq y3.symm, y.so.rd.1, y.so.rd.2, fun e => (y.so.nil e).2⟩, by omega⟩, fun g' => ?_⟩
  rw [f2]
  have f3 : List.take (y.it.r + 1) (R ++ num (lcp X Y) ++ num (kk X Y)) = R ++ num (lcp X Y) ++ num (kk X Y) := List.take_of_length_le (by simp only [List.length_append]; omega)
  rw [f3]
  have hl2 : (X.drop (lcp X Y)).length = n - lcp X Y := by simp; omega
  have hm2 : (Y.drop (lcp X Y)).length = m - lcp X Y := by simp; omega
  have x3 := xr_cut (cap := c - lcp X Y) (l := kk X Y) x1 (by omega) (by omega) (Nat.le_refl _)
  have x4 := xr_cut (cap := c2 - lcp X Y) (l := kk X Y) x2 (by omega) (by omega) (Nat.le_refl _)
  have x5 := xr_cut (cap := c2 - lcp X Y) (l := 0) (h := kk X Y) x2 (by omega) (by omega) (by omega)
  simp only [List.length_singleton, cut_n hl2, cut_n hm2, cut1, List.drop_zero, Nat.sub_zero] at x3 x4 x5
  have f4 : List.take (n - lcp X Y - kk X Y) (List.drop (kk X Y) (List.drop (lcp X Y) X)) = X.drop (lcp X Y + kk X Y) := by
    rw [List.take_of_length_le (by simp; omega), List.drop_drop]
  have f5 : List.take (m - lcp X Y - kk X Y) (List.drop (kk X Y) (List.drop (lcp X Y) Y)) = Y.drop (lcp X Y + kk X Y) := by
    rw [List.take_of_length_le (by simp; omega), List.drop_drop]
  rw [f4, f5]
  rw [List.drop_drop] at x3 x4
  refine ⟨⟨⟨x5, by omega⟩, ⟨by simp only [List.length_append]; omega, g'.le, g'.max, g'.none⟩, by omega⟩, fun z => ?_⟩
  have z1 := (rowR z).le
  have z2 := (rowR z).max
  have z3 := (rowR z).nil
  simp only [rowR] at z1 z2 z3
  simp only [List.length_singleton, Int.toNat_natCast, Nat.mul_one, Nat.sub_zero, cut_n hn, cut_n hm, show oth (X.drop (lcp X Y)) (Y.drop (lcp X Y)) 0 = kk X Y from rfl, cut1, List.drop_zero, true_and, and_true, and_self] at z1 z3
  refine ⟨⟨by omega, by omega, by omega, by omega⟩, ⟨by omega, by omega, by omega, by omega⟩, ⟨?_, ?_, x3, ?_, x4, ?_, ?_, ⟨z1, z2⟩, z3, ?_, ?_⟩, by omega⟩
  · show n - lcp X Y - kk X Y = m - lcp X Y - kk X Y; omega
  · show m - lcp X Y - kk X Y ≤ 16000; omega
  · show n - lcp X Y - kk X Y ≤ c - lcp X Y - kk X Y; omega
  · show m - lcp X Y - kk X Y ≤ c2 - lcp X Y - kk X Y; omega
  · show (R ++ num (lcp X Y) ++ num (kk X Y) ++ List.take (kk X Y) (List.drop (lcp X Y) Y)).length = y.it.r + 1 + kk X Y
    simp only [List.length_append, List.length_take, List.length_drop]
    omega
  · show y.it.r + 1 + kk X Y + 5 * (m - lcp X Y - kk X Y) ≤ 1000000
    omega
  · show R ++ num (lcp X Y) ++ num (kk X Y) ++ List.take (kk X Y) (List.drop (lcp X Y) Y) ++ pack (X.drop (lcp X Y + kk X Y)) (Y.drop (lcp X Y + kk X Y)) = pack P0 Q0
    rw [← eq, hpk]
    simp only [List.append_assoc]
theorem pkLp_ok (w : World) (w : World) (P0 Q0 : List Int)  : (pkLp Try.prog w w P0 Q0).ok Try.prog w := by
  intro s t h
  unfold pkLp at h
  simp only at h
  split at h
  · rename_i p _
    cases h
    exact scope_ok base2 (ctrs_none _ w) (callT_ok base2.mixed base2.names base2.eqs (ctrs_none _ w).ok (ctrs_none _ w).there (preOf_ok tab2_ok w) (lps_ok (puls w)) 20) ((lps_ok (puls w)) 11) (c := scopeAt Try.prog 11) (rest := restAt (scopeAt Try.prog 11) 0) (l := 0) (by kernel_rfl) (n := 0) (ro := pkRo) (rr := pkRb) (st := pkSt w P0 Q0 p) (bck := pkBck w P0 Q0 p) (inv := pkInv w P0 Q0 p) (back := pkBack w P0 Q0 p) (nx := pkNxX) (bx := pkNxZ) (pkMu w P0 Q0 p) (nf := 1) (nf'' := 1) (fun x => by kernel_rfl) (fun z => by kernel_rfl) (fun x hx => pk_step w w P0 Q0 p x  hx) s
  · cases h
theorem pack_tree (w : World) (A : Option Addr) (X : List Int) (n cap : Nat) (A2 : Option Addr) (Y : List Int) (m cap2 : Nat) (P0 Q0 : List Int) :
    callT Try.prog w (flatT Try.prog) (noCtr) (preOf w tab2) (lpOf Try.prog [pkLp Try.prog w w P0 Q0, mixLp 11 10, pu0Lp, pu1Lp, pu3Lp, pu4Lp]) 20 11 [.v (.one (.xr A [.u8] X n cap)), .v (.one (.xr A2 [.u8] Y m cap2))] [] =
(.chk (sym.textAt Go.Proofs.Try.prog (11 : Go.FuncId) (777 : Nat) = sym.textAt Go.Proofs.Try.prog (11 : Go.FuncId) (777 : Nat))
(.br ((↑n : Int) != (↑m : Int))
 (.leaf ((.tuple [(.one .nos), (.one (.int true .i64 (6)))]), []))
 (.chk ((sym.XR w A [IntKind.u8] X n ∧ n ≤ cap) ∧
  (sym.XR w A2 [IntKind.u8] Y m ∧ m ≤ cap2) ∧ True)
 (.chk (n ≤ (1000000000 : Nat) ∧ m ≤ n)
 (.chk (sym.textAt Go.Proofs.Try.prog (19 : Go.FuncId) (0 : Nat) = sym.textAt Go.Proofs.Try.prog (19 : Go.FuncId) (0 : Nat))
 (.chk (true = true ∧ (0 : Nat) = (0 : Nat) ∧ (0 : Nat) = (0 : Nat))
 (.chk (IntKind.i64 = IntKind.i64 ∧
  (↑(lcp X Y) : Int) = (↑(↑(lcp X Y) : Int).toNat : Int))
 (.chk (true = true ∧ ([] : List Int) = [])
 (.chk (pu0Inv { R0 := [], n0 := (↑(lcp X Y) : Int).toNat }
  { R := [], r := (0 : Nat), nl := true, d := (0 : Nat), n := (↑(lcp X Y) : Int).toNat })
 (.all fun x : sym.Got pu0X
  (pu0Post { R0 := [], n0 := (↑(lcp X Y) : Int).toNat }) =>
  (.chk (True ∧
  (x.1.3 = x.1.3 ∧
      (0 : Nat) = (0 : Nat) ∧
        x.1.4 = x.1.4 ∧
          x.1.2 * [IntKind.u8].length ≤ x.1.1.length ∧
            x.1.2 ≤ x.1.4 ∧ x.1.4 ≤ Go.maxLen ∧ (x.1.3 = true → x.1.4 = (0 : Nat))) ∧
    (x.1.2 + (1 : Nat)) * (1 : Nat) ≤ (140737488355328 : Nat))
  (.all fun x_1 : sym.Grown x.1.3 (1 : Nat) (x.1.2 + (1 : Nat)) =>
   (.chk ((0 : Int) ≤ (↑(lcp X Y) : Int) ∧
  (↑(lcp X Y) : Int) ≤ (↑n : Int) ∧ (↑n : Int) ≤ (↑n : Int) ∧ n ≤ cap)
   (.chk ((0 : Int) ≤ (↑(lcp X Y) : Int) ∧
  (↑(lcp X Y) : Int) ≤ (↑m : Int) ∧ (↑m : Int) ≤ (↑m : Int) ∧ m ≤ cap2)
   (.br ((↑(m - (↑(lcp X Y) : Int).toNat) : Int) == (0 : Int))
    (.leaf ((.tuple [(.one (.gs 2 (x_1.nl') 1 0 (x.1.2 + (1 : Nat)) (x_1.cap))), (.one (.int true .i64 (0)))]), [⟨[.dead], 5⟩, ⟨[(.int false .u8 (IntKind.u8.wrap (↑x.1.5 : Int)))], 5⟩, ⟨[(.row (x_1.nl') ([IntKind.u8]) (List.take (x.1.2 * [IntKind.u8].length) x.1.1 ++ [IntKind.u8.wrap (↑x.1.5 : Int)]) (x_1.cap))], 5⟩]))
    (.chk ((sym.XR w
      (sym.cutA A cap (↑(lcp X Y) : Int).toNat
        [IntKind.u8].length)
      [IntKind.u8]
      (sym.cutL X (↑(lcp X Y) : Int).toNat n
        [IntKind.u8].length)
      (n - (↑(lcp X Y) : Int).toNat) ∧
    n - (↑(lcp X Y) : Int).toNat ≤
      cap - (↑(lcp X Y) : Int).toNat) ∧
  (sym.XR w
        (sym.cutA A2 cap2 (↑(lcp X Y) : Int).toNat
          [IntKind.u8].length)
        [IntKind.u8]
        (sym.cutL Y (↑(lcp X Y) : Int).toNat m
          [IntKind.u8].length)
        (m - (↑(lcp X Y) : Int).toNat) ∧
      m - (↑(lcp X Y) : Int).toNat ≤
        cap2 - (↑(lcp X Y) : Int).toNat) ∧
    True)
    (.chk (n - (↑(lcp X Y) : Int).toNat ≤ (1000000000 : Nat) ∧
  m - (↑(lcp X Y) : Int).toNat = n - (↑(lcp X Y) : Int).toNat)
    (.chk ((0 : Int) ≤ (↑(0 : Nat) : Int) ∧
  (↑(0 : Nat) : Int) ≤
      (↑(oth
            (sym.cutL X (↑(lcp X Y) : Int).toNat n
              [IntKind.u8].length)
            (sym.cutL Y (↑(lcp X Y) : Int).toNat m
              [IntKind.u8].length)
            (0 : Nat)) :
        Int) ∧
    (↑(oth
              (sym.cutL X (↑(lcp X Y) : Int).toNat n
                [IntKind.u8].length)
              (sym.cutL Y (↑(lcp X Y) : Int).toNat m
                [IntKind.u8].length)
              (0 : Nat)) :
          Int) ≤
        (↑(m - (↑(lcp X Y) : Int).toNat) : Int) ∧
      m - (↑(lcp X Y) : Int).toNat ≤
        cap2 - (↑(lcp X Y) : Int).toNat)
    (.chk (sym.textAt Go.Proofs.Try.prog (19 : Go.FuncId) (0 : Nat) = sym.textAt Go.Proofs.Try.prog (19 : Go.FuncId) (0 : Nat))
    (.chk (x_1.nl' = x_1.nl' ∧
  [IntKind.u8].length = (1 : Nat) ∧ (0 : Nat) = (0 : Nat) ∧ x.1.2 + (1 : Nat) = x.1.2 + (1 : Nat) ∧ x_1.cap = x_1.cap)
    (.chk (IntKind.i64 = IntKind.i64 ∧
  (↑(oth
          (sym.cutL X (↑(lcp X Y) : Int).toNat n
            [IntKind.u8].length)
          (sym.cutL Y (↑(lcp X Y) : Int).toNat m
            [IntKind.u8].length)
          (0 : Nat)) :
      Int) =
    (↑(↑(oth
                (sym.cutL X (↑(lcp X Y) : Int).toNat n
                  [IntKind.u8].length)
                (sym.cutL Y (↑(lcp X Y) : Int).toNat m
                  [IntKind.u8].length)
                (0 : Nat)) :
            Int).toNat :
      Int))
    (.chk (x_1.nl' = x_1.nl' ∧
  [IntKind.u8] = [IntKind.u8] ∧
    List.take (x.1.2 * [IntKind.u8].length) x.1.1 ++ [IntKind.u8.wrap (↑x.1.5 : Int)] =
        List.take (x.1.2 * [IntKind.u8].length) x.1.1 ++ [IntKind.u8.wrap (↑x.1.5 : Int)] ∧
      x_1.cap = x_1.cap)
    (.chk (pu3Inv
  { R0 := List.take (x.1.2 * [IntKind.u8].length) x.1.1 ++ [IntKind.u8.wrap (↑x.1.5 : Int)],
    n0 :=
      (↑(oth
              (sym.cutL X (↑(lcp X Y) : Int).toNat n
                [IntKind.u8].length)
              (sym.cutL Y (↑(lcp X Y) : Int).toNat m
                [IntKind.u8].length)
              (0 : Nat)) :
          Int).toNat }
  { R := List.take (x.1.2 * [IntKind.u8].length) x.1.1 ++ [IntKind.u8.wrap (↑x.1.5 : Int)],
    r := x.1.2 + (1 : Nat), nl := x_1.nl', d := x_1.cap,
    n :=
      (↑(oth
              (sym.cutL X (↑(lcp X Y) : Int).toNat n
                [IntKind.u8].length)
              (sym.cutL Y (↑(lcp X Y) : Int).toNat m
                [IntKind.u8].length)
              (0 : Nat)) :
          Int).toNat })
    (.all fun x_2 : sym.Got pu3X
  (pu3Post
    { R0 := List.take (x.1.2 * [IntKind.u8].length) x.1.1 ++ [IntKind.u8.wrap (↑x.1.5 : Int)],
      n0 :=
        (↑(oth
                (sym.cutL X (↑(lcp X Y) : Int).toNat n
                  [IntKind.u8].length)
                (sym.cutL Y (↑(lcp X Y) : Int).toNat m
                  [IntKind.u8].length)
                (0 : Nat)) :
            Int).toNat }) =>
     (.chk (True ∧
  (x_2.1.3 = x_2.1.3 ∧
      (0 : Nat) = (0 : Nat) ∧
        x_2.1.4 = x_2.1.4 ∧
          x_2.1.2 * [IntKind.u8].length ≤ x_2.1.1.length ∧
            x_2.1.2 ≤ x_2.1.4 ∧ x_2.1.4 ≤ Go.maxLen ∧ (x_2.1.3 = true → x_2.1.4 = (0 : Nat))) ∧
    (x_2.1.2 + (1 : Nat)) * (1 : Nat) ≤ (140737488355328 : Nat))
     (.all fun x_3 : sym.Grown x_2.1.3 (1 : Nat) (x_2.1.2 + (1 : Nat)) =>
      (.chk ((sym.XR w
      (sym.cutA
        (sym.cutA A2 cap2 (↑(lcp X Y) : Int).toNat
          [IntKind.u8].length)
        (cap2 - (↑(lcp X Y) : Int).toNat) (0 : Nat) [IntKind.u8].length)
      [IntKind.u8]
      (sym.cutL
        (sym.cutL Y (↑(lcp X Y) : Int).toNat m
          [IntKind.u8].length)
        (0 : Nat)
        (↑(oth
                (sym.cutL X (↑(lcp X Y) : Int).toNat n
                  [IntKind.u8].length)
                (sym.cutL Y (↑(lcp X Y) : Int).toNat m
                  [IntKind.u8].length)
                (0 : Nat)) :
            Int).toNat
        [IntKind.u8].length)
      ((↑(oth
                (sym.cutL X (↑(lcp X Y) : Int).toNat n
                  [IntKind.u8].length)
                (sym.cutL Y (↑(lcp X Y) : Int).toNat m
                  [IntKind.u8].length)
                (0 : Nat)) :
            Int).toNat -
        (0 : Nat)) ∧
    (↑(oth
                (sym.cutL X (↑(lcp X Y) : Int).toNat n
                  [IntKind.u8].length)
                (sym.cutL Y (↑(lcp X Y) : Int).toNat m
                  [IntKind.u8].length)
                (0 : Nat)) :
            Int).toNat -
        (0 : Nat) ≤
      cap2 - (↑(lcp X Y) : Int).toNat - (0 : Nat)) ∧
  (x_3.nl' = x_3.nl' ∧
      (0 : Nat) = (0 : Nat) ∧
        x_3.cap = x_3.cap ∧
          (x_2.1.2 + (1 : Nat)) * [IntKind.u8].length ≤
              (List.take (x_2.1.2 * [IntKind.u8].length) x_2.1.1 ++ [IntKind.u8.wrap (↑x_2.1.5 : Int)]).length ∧
            x_2.1.2 + (1 : Nat) ≤ x_3.cap ∧ x_3.cap ≤ Go.maxLen ∧ (x_3.nl' = true → x_3.cap = (0 : Nat))) ∧
    (x_2.1.2 + (1 : Nat) +
          ((↑(oth
                    (sym.cutL X (↑(lcp X Y) : Int).toNat n
                      [IntKind.u8].length)
                    (sym.cutL Y (↑(lcp X Y) : Int).toNat m
                      [IntKind.u8].length)
                    (0 : Nat)) :
                Int).toNat -
            (0 : Nat))) *
        (1 : Nat) ≤
      (140737488355328 : Nat))
      (.all fun x_4 : sym.Grown x_3.nl'
  ((↑(oth
            (sym.cutL X (↑(lcp X Y) : Int).toNat n
              [IntKind.u8].length)
            (sym.cutL Y (↑(lcp X Y) : Int).toNat m
              [IntKind.u8].length)
            (0 : Nat)) :
        Int).toNat -
    (0 : Nat))
  (x_2.1.2 + (1 : Nat) +
    ((↑(oth
              (sym.cutL X (↑(lcp X Y) : Int).toNat n
                [IntKind.u8].length)
              (sym.cutL Y (↑(lcp X Y) : Int).toNat m
                [IntKind.u8].length)
              (0 : Nat)) :
          Int).toNat -
      (0 : Nat))) =>
       (.chk ((0 : Int) ≤
    (↑(oth
          (sym.cutL X (↑(lcp X Y) : Int).toNat n
            [IntKind.u8].length)
          (sym.cutL Y (↑(lcp X Y) : Int).toNat m
            [IntKind.u8].length)
          (0 : Nat)) :
      Int) ∧
  (↑(oth
            (sym.cutL X (↑(lcp X Y) : Int).toNat n
              [IntKind.u8].length)
            (sym.cutL Y (↑(lcp X Y) : Int).toNat m
              [IntKind.u8].length)
            (0 : Nat)) :
        Int) ≤
      (↑(n - (↑(lcp X Y) : Int).toNat) : Int) ∧
    (↑(n - (↑(lcp X Y) : Int).toNat) : Int) ≤
        (↑(n - (↑(lcp X Y) : Int).toNat) : Int) ∧
      n - (↑(lcp X Y) : Int).toNat ≤
        cap - (↑(lcp X Y) : Int).toNat)
       (.chk ((0 : Int) ≤
    (↑(oth
          (sym.cutL X (↑(lcp X Y) : Int).toNat n
            [IntKind.u8].length)
          (sym.cutL Y (↑(lcp X Y) : Int).toNat m
            [IntKind.u8].length)
          (0 : Nat)) :
      Int) ∧
  (↑(oth
            (sym.cutL X (↑(lcp X Y) : Int).toNat n
              [IntKind.u8].length)
            (sym.cutL Y (↑(lcp X Y) : Int).toNat m
              [IntKind.u8].length)
            (0 : Nat)) :
        Int) ≤
      (↑(m - (↑(lcp X Y) : Int).toNat) : Int) ∧
    (↑(m - (↑(lcp X Y) : Int).toNat) : Int) ≤
        (↑(m - (↑(lcp X Y) : Int).toNat) : Int) ∧
      m - (↑(lcp X Y) : Int).toNat ≤
        cap2 - (↑(lcp X Y) : Int).toNat)
       (.chk (sym.cutA
      (sym.cutA A cap (↑(lcp X Y) : Int).toNat
        [IntKind.u8].length)
      (cap - (↑(lcp X Y) : Int).toNat)
      (↑(oth
              (sym.cutL X (↑(lcp X Y) : Int).toNat n
                [IntKind.u8].length)
              (sym.cutL Y (↑(lcp X Y) : Int).toNat m
                [IntKind.u8].length)
              (0 : Nat)) :
          Int).toNat
      [IntKind.u8].length =
    sym.cutA
      (sym.cutA A cap (↑(lcp X Y) : Int).toNat
        [IntKind.u8].length)
      (cap - (↑(lcp X Y) : Int).toNat)
      (↑(oth
              (sym.cutL X (↑(lcp X Y) : Int).toNat n
                [IntKind.u8].length)
              (sym.cutL Y (↑(lcp X Y) : Int).toNat m
                [IntKind.u8].length)
              (0 : Nat)) :
          Int).toNat
      [IntKind.u8].length ∧
  [IntKind.u8] = [IntKind.u8] ∧
    sym.cutL
          (sym.cutL X (↑(lcp X Y) : Int).toNat n
            [IntKind.u8].length)
          (↑(oth
                  (sym.cutL X (↑(lcp X Y) : Int).toNat n
                    [IntKind.u8].length)
                  (sym.cutL Y (↑(lcp X Y) : Int).toNat m
                    [IntKind.u8].length)
                  (0 : Nat)) :
              Int).toNat
          (n - (↑(lcp X Y) : Int).toNat) [IntKind.u8].length =
        sym.cutL
          (sym.cutL X (↑(lcp X Y) : Int).toNat n
            [IntKind.u8].length)
          (↑(oth
                  (sym.cutL X (↑(lcp X Y) : Int).toNat n
                    [IntKind.u8].length)
                  (sym.cutL Y (↑(lcp X Y) : Int).toNat m
                    [IntKind.u8].length)
                  (0 : Nat)) :
              Int).toNat
          (n - (↑(lcp X Y) : Int).toNat) [IntKind.u8].length ∧
      n - (↑(lcp X Y) : Int).toNat -
            (↑(oth
                    (sym.cutL X (↑(lcp X Y) : Int).toNat n
                      [IntKind.u8].length)
                    (sym.cutL Y (↑(lcp X Y) : Int).toNat m
                      [IntKind.u8].length)
                    (0 : Nat)) :
                Int).toNat =
          n - (↑(lcp X Y) : Int).toNat -
            (↑(oth
                    (sym.cutL X (↑(lcp X Y) : Int).toNat n
                      [IntKind.u8].length)
                    (sym.cutL Y (↑(lcp X Y) : Int).toNat m
                      [IntKind.u8].length)
                    (0 : Nat)) :
                Int).toNat ∧
        cap - (↑(lcp X Y) : Int).toNat -
            (↑(oth
                    (sym.cutL X (↑(lcp X Y) : Int).toNat n
                      [IntKind.u8].length)
                    (sym.cutL Y (↑(lcp X Y) : Int).toNat m
                      [IntKind.u8].length)
                    (0 : Nat)) :
                Int).toNat =
          cap - (↑(lcp X Y) : Int).toNat -
            (↑(oth
                    (sym.cutL X (↑(lcp X Y) : Int).toNat n
                      [IntKind.u8].length)
                    (sym.cutL Y (↑(lcp X Y) : Int).toNat m
                      [IntKind.u8].length)
                    (0 : Nat)) :
                Int).toNat)
       (.chk (sym.cutA
      (sym.cutA A2 cap2 (↑(lcp X Y) : Int).toNat
        [IntKind.u8].length)
      (cap2 - (↑(lcp X Y) : Int).toNat)
      (↑(oth
              (sym.cutL X (↑(lcp X Y) : Int).toNat n
                [IntKind.u8].length)
              (sym.cutL Y (↑(lcp X Y) : Int).toNat m
                [IntKind.u8].length)
              (0 : Nat)) :
          Int).toNat
      [IntKind.u8].length =
    sym.cutA
      (sym.cutA A2 cap2 (↑(lcp X Y) : Int).toNat
        [IntKind.u8].length)
      (cap2 - (↑(lcp X Y) : Int).toNat)
      (↑(oth
              (sym.cutL X (↑(lcp X Y) : Int).toNat n
                [IntKind.u8].length)
              (sym.cutL Y (↑(lcp X Y) : Int).toNat m
                [IntKind.u8].length)
              (0 : Nat)) :
          Int).toNat
      [IntKind.u8].length ∧
  [IntKind.u8] = [IntKind.u8] ∧
    sym.cutL
          (sym.cutL Y (↑(lcp X Y) : Int).toNat m
            [IntKind.u8].length)
          (↑(oth
                  (sym.cutL X (↑(lcp X Y) : Int).toNat n
                    [IntKind.u8].length)
                  (sym.cutL Y (↑(lcp X Y) : Int).toNat m
                    [IntKind.u8].length)
                  (0 : Nat)) :
              Int).toNat
          (m - (↑(lcp X Y) : Int).toNat) [IntKind.u8].length =
        sym.cutL
          (sym.cutL Y (↑(lcp X Y) : Int).toNat m
            [IntKind.u8].length)
          (↑(oth
                  (sym.cutL X (↑(lcp X Y) : Int).toNat n
                    [IntKind.u8].length)
                  (sym.cutL Y (↑(lcp X Y) : Int).toNat m
                    [IntKind.u8].length)
                  (0 : Nat)) :
              Int).toNat
          (m - (↑(lcp X Y) : Int).toNat) [IntKind.u8].length ∧
      m - (↑(lcp X Y) : Int).toNat -
            (↑(oth
                    (sym.cutL X (↑(lcp X Y) : Int).toNat n
                      [IntKind.u8].length)
                    (sym.cutL Y (↑(lcp X Y) : Int).toNat m
                      [IntKind.u8].length)
                    (0 : Nat)) :
                Int).toNat =
          m - (↑(lcp X Y) : Int).toNat -
            (↑(oth
                    (sym.cutL X (↑(lcp X Y) : Int).toNat n
                      [IntKind.u8].length)
                    (sym.cutL Y (↑(lcp X Y) : Int).toNat m
                      [IntKind.u8].length)
                    (0 : Nat)) :
                Int).toNat ∧
        cap2 - (↑(lcp X Y) : Int).toNat -
            (↑(oth
                    (sym.cutL X (↑(lcp X Y) : Int).toNat n
                      [IntKind.u8].length)
                    (sym.cutL Y (↑(lcp X Y) : Int).toNat m
                      [IntKind.u8].length)
                    (0 : Nat)) :
                Int).toNat =
          cap2 - (↑(lcp X Y) : Int).toNat -
            (↑(oth
                    (sym.cutL X (↑(lcp X Y) : Int).toNat n
                      [IntKind.u8].length)
                    (sym.cutL Y (↑(lcp X Y) : Int).toNat m
                      [IntKind.u8].length)
                    (0 : Nat)) :
                Int).toNat)
       (.chk (x_4.nl' = x_4.nl' ∧
  [IntKind.u8].length = (1 : Nat) ∧
    (0 : Nat) = (0 : Nat) ∧
      x_2.1.2 + (1 : Nat) +
            ((↑(oth
                      (sym.cutL X (↑(lcp X Y) : Int).toNat n
                        [IntKind.u8].length)
                      (sym.cutL Y (↑(lcp X Y) : Int).toNat m
                        [IntKind.u8].length)
                      (0 : Nat)) :
                  Int).toNat -
              (0 : Nat)) =
          x_2.1.2 + (1 : Nat) +
            ((↑(oth
                      (sym.cutL X (↑(lcp X Y) : Int).toNat n
                        [IntKind.u8].length)
                      (sym.cutL Y (↑(lcp X Y) : Int).toNat m
                        [IntKind.u8].length)
                      (0 : Nat)) :
                  Int).toNat -
              (0 : Nat)) ∧
        x_4.cap = x_4.cap)
       (.chk (x_4.nl' = x_4.nl' ∧
  [IntKind.u8] = [IntKind.u8] ∧
    List.take ((x_2.1.2 + (1 : Nat)) * [IntKind.u8].length)
            (List.take (x_2.1.2 * [IntKind.u8].length) x_2.1.1 ++ [IntKind.u8.wrap (↑x_2.1.5 : Int)]) ++
          sym.cutL
            (sym.cutL Y (↑(lcp X Y) : Int).toNat m
              [IntKind.u8].length)
            (0 : Nat)
            (↑(oth
                    (sym.cutL X (↑(lcp X Y) : Int).toNat n
                      [IntKind.u8].length)
                    (sym.cutL Y (↑(lcp X Y) : Int).toNat m
                      [IntKind.u8].length)
                    (0 : Nat)) :
                Int).toNat
            [IntKind.u8].length =
        List.take ((x_2.1.2 + (1 : Nat)) * [IntKind.u8].length)
            (List.take (x_2.1.2 * [IntKind.u8].length) x_2.1.1 ++ [IntKind.u8.wrap (↑x_2.1.5 : Int)]) ++
          sym.cutL
            (sym.cutL Y (↑(lcp X Y) : Int).toNat m
              [IntKind.u8].length)
            (0 : Nat)
            (↑(oth
                    (sym.cutL X (↑(lcp X Y) : Int).toNat n
                      [IntKind.u8].length)
                    (sym.cutL Y (↑(lcp X Y) : Int).toNat m
                      [IntKind.u8].length)
                    (0 : Nat)) :
                Int).toNat
            [IntKind.u8].length ∧
      x_4.cap = x_4.cap)
       (.chk (pkInv w P0 Q0 { }
  {
    A :=
      sym.cutA
        (sym.cutA A cap (↑(lcp X Y) : Int).toNat
          [IntKind.u8].length)
        (cap - (↑(lcp X Y) : Int).toNat)
        (↑(oth
                (sym.cutL X (↑(lcp X Y) : Int).toNat n
                  [IntKind.u8].length)
                (sym.cutL Y (↑(lcp X Y) : Int).toNat m
                  [IntKind.u8].length)
                (0 : Nat)) :
            Int).toNat
        [IntKind.u8].length,
    X :=
      sym.cutL
        (sym.cutL X (↑(lcp X Y) : Int).toNat n
          [IntKind.u8].length)
        (↑(oth
                (sym.cutL X (↑(lcp X Y) : Int).toNat n
                  [IntKind.u8].length)
                (sym.cutL Y (↑(lcp X Y) : Int).toNat m
                  [IntKind.u8].length)
                (0 : Nat)) :
            Int).toNat
        (n - (↑(lcp X Y) : Int).toNat) [IntKind.u8].length,
    n :=
      n - (↑(lcp X Y) : Int).toNat -
        (↑(oth
                (sym.cutL X (↑(lcp X Y) : Int).toNat n
                  [IntKind.u8].length)
                (sym.cutL Y (↑(lcp X Y) : Int).toNat m
                  [IntKind.u8].length)
                (0 : Nat)) :
            Int).toNat,
    c :=
      cap - (↑(lcp X Y) : Int).toNat -
        (↑(oth
                (sym.cutL X (↑(lcp X Y) : Int).toNat n
                  [IntKind.u8].length)
                (sym.cutL Y (↑(lcp X Y) : Int).toNat m
                  [IntKind.u8].length)
                (0 : Nat)) :
            Int).toNat,
    A2 :=
      sym.cutA
        (sym.cutA A2 cap2 (↑(lcp X Y) : Int).toNat
          [IntKind.u8].length)
        (cap2 - (↑(lcp X Y) : Int).toNat)
        (↑(oth
                (sym.cutL X (↑(lcp X Y) : Int).toNat n
                  [IntKind.u8].length)
                (sym.cutL Y (↑(lcp X Y) : Int).toNat m
                  [IntKind.u8].length)
                (0 : Nat)) :
            Int).toNat
        [IntKind.u8].length,
    Y :=
      sym.cutL
        (sym.cutL Y (↑(lcp X Y) : Int).toNat m
          [IntKind.u8].length)
        (↑(oth
                (sym.cutL X (↑(lcp X Y) : Int).toNat n
                  [IntKind.u8].length)
                (sym.cutL Y (↑(lcp X Y) : Int).toNat m
                  [IntKind.u8].length)
                (0 : Nat)) :
            Int).toNat
        (m - (↑(lcp X Y) : Int).toNat) [IntKind.u8].length,
    m :=
      m - (↑(lcp X Y) : Int).toNat -
        (↑(oth
                (sym.cutL X (↑(lcp X Y) : Int).toNat n
                  [IntKind.u8].length)
                (sym.cutL Y (↑(lcp X Y) : Int).toNat m
                  [IntKind.u8].length)
                (0 : Nat)) :
            Int).toNat,
    c2 :=
      cap2 - (↑(lcp X Y) : Int).toNat -
        (↑(oth
                (sym.cutL X (↑(lcp X Y) : Int).toNat n
                  [IntKind.u8].length)
                (sym.cutL Y (↑(lcp X Y) : Int).toNat m
                  [IntKind.u8].length)
                (0 : Nat)) :
            Int).toNat,
    R :=
      List.take ((x_2.1.2 + (1 : Nat)) * [IntKind.u8].length)
          (List.take (x_2.1.2 * [IntKind.u8].length) x_2.1.1 ++ [IntKind.u8.wrap (↑x_2.1.5 : Int)]) ++
        sym.cutL
          (sym.cutL Y (↑(lcp X Y) : Int).toNat m
            [IntKind.u8].length)
          (0 : Nat)
          (↑(oth
                  (sym.cutL X (↑(lcp X Y) : Int).toNat n
                    [IntKind.u8].length)
                  (sym.cutL Y (↑(lcp X Y) : Int).toNat m
                    [IntKind.u8].length)
                  (0 : Nat)) :
              Int).toNat
          [IntKind.u8].length,
    r :=
      x_2.1.2 + (1 : Nat) +
        ((↑(oth
                  (sym.cutL X (↑(lcp X Y) : Int).toNat n
                    [IntKind.u8].length)
                  (sym.cutL Y (↑(lcp X Y) : Int).toNat m
                    [IntKind.u8].length)
                  (0 : Nat)) :
              Int).toNat -
          (0 : Nat)),
    nl := x_4.nl', d := x_4.cap })
       (.all fun x_5 : sym.Got pkZ (pkBack w P0 Q0 { }) =>
        (.leaf ((.tuple [(.one (.gs 0 (x_5.1.3) 1 0 (x_5.1.2) (x_5.1.4))), (.one (.int true .i64 (0)))]), [⟨[(.row (x_5.1.3) ([IntKind.u8]) (x_5.1.1) (x_5.1.4))], 5⟩])))))))))))))))))))))))))))))))))))))) := by kernel_rfl
def packC : RCtr := ⟨11, [some [.u8], some [.u8]], fun | [.row [.u8] n xs, .row [.u8] m ys] => some (.chk (n ≤ 16000) (.br (decide (n = m)) (.all fun g : RowR (pack xs ys).length => .leaf [.row g.nl 5 [.u8] (pack xs ys) (pack xs ys).length g.cap, .av (.one (.int false .i64 0))]) (.leaf [.row true 5 [.u8] [] 0 0, .av (.one (.int false .i64 6))]))) | _ => none⟩
set_option maxHeartbeats 2000000 in
theorem packC_ok : packC.Ok Try.prog := by
  refine rctr_ok base2 ⟨_, Try.func11, rfl⟩ (ctr := fun w => noCtr) (fun w => ctrs_none _ w) (pre := fun w => preOf w tab2) (fun w => preOf_ok tab2_ok w) (n := 20) fun w cas args t h ha K hK => ?_
  unfold packC at h
  simp only at h
  split at h
  · cases h
    obtain ⟨y0, y1, rfl, q0, q1⟩ := all2_2 ha
    obtain ⟨A, c, rfl, hX, hc⟩ := argRow q0
    obtain ⟨A2, c2, rfl, hY, hc2⟩ := argRow q1
    rename_i n X m Y
    obtain ⟨big, hK⟩ := hK
    refine ⟨lpOf Try.prog (pkLp Try.prog w w X Y :: [mixLp 11 10, pu0Lp, pu1Lp, pu3Lp, pu4Lp]), lps_ok fun l hl => ?_, ?_⟩
    · rcases List.mem_cons.1 hl with rfl | hl
      · exact pkLp_ok w w X Y
      · exact puls w l hl
    have hgo := pack_tree w A X n c A2 Y m c2 X Y
    rw [show packC.f = 11 from rfl, hgo]
    refine ⟨rfl, fun hne => ?_, fun he => ?_⟩
    · have hne : n ≠ m := by rintro rfl; simp at hne
      exact ⟨_, [_, _], hK.2 (by simp [hne]), rfl, .cons .nil (.cons (.av rfl fun _ => rfl) .nil)⟩
    have he : n = m := by have : (n : Int) = m := by simpa using he
                          omega
    have hK := hK.1 (by simp [he])
    have out : ∀ (xs : List Int) (len cap r : Nat) (nl : Bool) (h' : List Blk), xs = pack X Y → xs.length = len → len ≤ cap ∧ cap ≤ maxLen → (nl = true → len = 0 ∧ cap = 0) → h'[r]? = some ⟨[.row nl [.u8] xs cap], 5⟩ → ∃ rs ys, K rs ∧ AV.tuple [.one (.gs r nl 1 0 len cap), .one (.int true .i64 0)] = packA ys ∧ All2 (OutIs [.v (.one (.xr A [.u8] X n c)), .v (.one (.xr A2 [.u8] Y m c2))] h') rs ys := by
      rintro xs len cap r nl h' rfl rfl ⟨h1, h2⟩ h3 h4
      exact ⟨_, [_, _], hK ⟨nl, cap, h3, h1, h2⟩, rfl, .cons (.row h4 h3) (.cons (.av rfl fun _ => rfl) .nil)⟩
    clear hK hgo ha
    have hn : X.length = n := by simpa using hX.1
    have hm : Y.length = m := by simpa using hY.1
    have hl := lcp_le X Y
    have hk := kk_le X Y
    have x1 := xr_cut (l := lcp X Y) hX hc (by omega) (Nat.le_refl n)
    have x2 := xr_cut (l := lcp X Y) hY hc2 (by omega) (Nat.le_refl m)
    have hpk := pack.eq_def X Y
    simp only [List.length_singleton, cut_n hn, cut_n hm] at x1 x2
    simp only [T.holds]
    simp only [List.length_singleton, Int.toNat_natCast, Nat.mul_one, Nat.sub_zero, cut_n hn, cut_n hm, show oth (X.drop (lcp X Y)) (Y.drop (lcp X Y)) 0 = kk X Y from rfl, cut1, List.drop_zero, true_and, and_true, and_self]
    refine ⟨⟨⟨hX, hc⟩, hY, hc2⟩, ⟨by omega, by omega⟩, ⟨by show lcp X Y < 16384; omega, rfl, ⟨Nat.le_refl _, Nat.zero_le _⟩, fun _ => ⟨rfl, rfl⟩, by show 0 ≤ 2000000; omega, rfl⟩, fun x => ?_⟩
    have q1 : x.it.R ++ num x.it.n = num (lcp X Y) := x.so.eq
    have q2 := x.so.nb
    have q3 := x.so.rl
    have f1 : List.take x.it.r x.it.R ++ [IntKind.u8.wrap (x.it.n : Int)] = num (lcp X Y) := by
      rw [List.take_of_length_le (by omega), ← q1, num_small q2, wu8, Int.emod_eq_of_lt (by omega) (by omega)]
    have q4 := congrArg List.length q1
    rw [num_small q2] at q4
    simp only [List.length_append, List.length_singleton] at q4
    have g1 := num_len (lcp X Y)
    have g2 := num_len (kk X Y)
    refine ⟨⟨⟨Nat.le_of_eq q3.symm, x.so.rd.1, x.so.rd.2, fun e => (x.so.nil e).2⟩, by omega⟩, fun g => ?_⟩
    rw [f1]
    refine ⟨⟨by omega, by omega, by omega, hc⟩, ⟨by omega, by omega, by omega, hc2⟩, fun he => ?_, fun hne => ?_⟩
    · have he : ((m - lcp X Y : Nat) : Int) = 0 := by simpa using he
      exact out _ _ _ 2 _ _ (by rw [hpk, dif_pos (by omega), List.append_nil]) (by omega) ⟨g.le, g.max⟩ (rowR g).nil rfl
    have hne : ¬ ((m - lcp X Y : Nat) : Int) = 0 := by simpa using hne
    have hpos := kk_pos X Y (by omega)
    rw [dif_neg (by omega)] at hpk
    refine ⟨⟨⟨x1, by omega⟩, x2, by omega⟩, ⟨by omega, by omega⟩, ⟨by omega, by omega, by omega, by omega⟩, ⟨by show kk X Y < 16384; omega, by show (num (lcp X Y)).length = x.it.r + 1; omega, ⟨g.le, g.max⟩, (rowR g).nil, by show (num (lcp X Y)).length ≤ 2000000; omega, rfl⟩, fun y => ?_⟩
    have y1 : y.it.R ++ num y.it.n = num (lcp X Y) ++ num (kk X Y) := by
      have := y.so.eq
      simp only [List.length_singleton, Int.toNat_natCast, Nat.mul_one, Nat.sub_zero, cut_n hn, cut_n hm, show oth (X.drop (lcp X Y)) (Y.drop (lcp X Y)) 0 = kk X Y from rfl, cut1, List.drop_zero, true_and, and_true, and_self] at this
      rw [this, f1]
    have y2 := y.so.nb
    have y3 := y.so.rl
    have f2 : List.take y.it.r y.it.R ++ [IntKind.u8.wrap (y.it.n : Int)] = num (lcp X Y) ++ num (kk X Y) := by
      rw [List.take_of_length_le (by omega), ← y1, num_small y2]
      exact congrArg (fun z => y.it.R ++ [z]) (show IntKind.u8.wrap (y.it.n : Int) = (y.it.n : Int) by rw [wu8]; omega)
    have y4 := congrArg List.length y1
    rw [num_small y2] at y4
    simp only [List.length_append, List.length_singleton] at y4
    refine ⟨⟨⟨Nat.le_of_eq y3.symm, y.so.rd.1, y.so.rd.2, fun e => (y.so.nil e).2⟩, by omega⟩, fun g' => ?_⟩
    rw [f2]
    have f3 : List.take (y.it.r + 1) (num (lcp X Y) ++ num (kk X Y)) = num (lcp X Y) ++ num (kk X Y) := List.take_of_length_le (by simp only [List.length_append]; omega)
    rw [f3]
    have hl2 : (X.drop (lcp X Y)).length = n - lcp X Y := by simp; omega
    have hm2 : (Y.drop (lcp X Y)).length = m - lcp X Y := by simp; omega
    have x3 := xr_cut (cap := c - lcp X Y) (l := kk X Y) x1 (by omega) (by omega) (Nat.le_refl _)
    have x4 := xr_cut (cap := c2 - lcp X Y) (l := kk X Y) x2 (by omega) (by omega) (Nat.le_refl _)
    have x5 := xr_cut (cap := c2 - lcp X Y) (l := 0) (h := kk X Y) x2 (by omega) (by omega) (by omega)
    simp only [List.length_singleton, cut_n hl2, cut_n hm2, cut1, List.drop_zero, Nat.sub_zero] at x3 x4 x5
    have f4 : List.take (n - lcp X Y - kk X Y) (List.drop (kk X Y) (List.drop (lcp X Y) X)) = X.drop (lcp X Y + kk X Y) := by
      rw [List.take_of_length_le (by simp; omega), List.drop_drop]
    have f5 : List.take (m - lcp X Y - kk X Y) (List.drop (kk X Y) (List.drop (lcp X Y) Y)) = Y.drop (lcp X Y + kk X Y) := by
      rw [List.take_of_length_le (by simp; omega), List.drop_drop]
    rw [f4, f5]
    rw [List.drop_drop] at x3 x4
    refine ⟨⟨⟨x5, by omega⟩, ⟨by simp only [List.length_append]; omega, g'.le, g'.max, g'.none⟩, by omega⟩, fun z => ?_⟩
    have z1 := (rowR z).le
    have z2 := (rowR z).max
    have z3 := (rowR z).nil
    simp only [rowR] at z1 z2 z3
    simp only [List.length_singleton, Int.toNat_natCast, Nat.mul_one, Nat.sub_zero, cut_n hn, cut_n hm, show oth (X.drop (lcp X Y)) (Y.drop (lcp X Y)) 0 = kk X Y from rfl, cut1, List.drop_zero, true_and, and_true, and_self] at z1 z3
    refine ⟨⟨by omega, by omega, by omega, by omega⟩, ⟨by omega, by omega, by omega, by omega⟩, ⟨?_, ?_, x3, ?_, x4, ?_, ?_, ⟨z1, z2⟩, z3, ?_, ?_⟩, fun v => ?_⟩
    · show n - lcp X Y - kk X Y = m - lcp X Y - kk X Y; omega
    · show m - lcp X Y - kk X Y ≤ 16000; omega
    · show n - lcp X Y - kk X Y ≤ c - lcp X Y - kk X Y; omega
    · show m - lcp X Y - kk X Y ≤ c2 - lcp X Y - kk X Y; omega
    · show (num (lcp X Y) ++ num (kk X Y) ++ List.take (kk X Y) (List.drop (lcp X Y) Y)).length = y.it.r + 1 + kk X Y
      simp only [List.length_append, List.length_take, List.length_drop]
      omega
    · show y.it.r + 1 + kk X Y + 5 * (m - lcp X Y - kk X Y) ≤ 1000000
      omega
    · show num (lcp X Y) ++ num (kk X Y) ++ List.take (kk X Y) (List.drop (lcp X Y) Y) ++ pack (X.drop (lcp X Y + kk X Y)) (Y.drop (lcp X Y + kk X Y)) = pack X Y
      rw [hpk]
      simp only [List.append_assoc]
    · exact out _ _ _ 0 _ _ v.so.eq v.so.rl v.so.rd v.so.nil rfl
  · cases h
end Go.Proofs.Ytcfnfihemejjkaa
