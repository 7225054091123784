/-
  The contract of what orders come to, without a function to peek by. Rows have at most 1000000 orders; no other condition.
-/
import Derived.Test.YtmbahohmiecfiaaR1
namespace Go.Proofs.Ytmbahohmiecfiaa
open Go.RowKit sym
set_option linter.unusedVariables false
set_option linter.unusedSimpArgs false
set_option maxRecDepth 100000
theorem takes_in (op n : Int) : takesL op n = -1 ∨ takesL op n = 0 ∨ takesL op n = 1 ∨ takesL op n = 2 := by
  unfold takesL
  split
  · exact .inr (.inl rfl)
  · split
    · exact .inl rfl
    · split
      · exact .inr (.inr (.inl rfl))
      · exact .inr (.inr (.inr rfl))
theorem takes_name {n : Int} (h : takesL 2 n = 0) : 0 ≤ n ∧ n < 18 := by
  unfold takesL at h
  split at h
  · rename_i h1
    rcases h1 with h1 | h1
    · exact absurd h1 (by decide)
    · exact h1.2
  · split at h <;> first | (exact absurd h (by decide)) | (split at h <;> exact absurd h (by decide))
theorem evalL_at (nm F : Int → Int) {L : List Int} {i : Nat} (h : i * 2 + 1 < L.length) (S : List Int) : evalL nm F (L.drop (i * 2)) S =
    (if takesL (L.getD (i * 2) 0) (L.getD (i * 2 + 1) 0) < 0 ∨ (S.length : Int) < takesL (L.getD (i * 2) 0) (L.getD (i * 2 + 1) 0) then (0, 5)
    else if takesL (L.getD (i * 2) 0) (L.getD (i * 2 + 1) 0) = 0 then evalL nm F (L.drop ((i + 1) * 2)) (S ++ [if L.getD (i * 2) 0 = 2 then nm (L.getD (i * 2 + 1) 0) else L.getD (i * 2 + 1) 0])
    else if takesL (L.getD (i * 2) 0) (L.getD (i * 2 + 1) 0) = 1 then evalL nm F (L.drop ((i + 1) * 2)) (S.take (S.length - 1) ++ [oneL F (L.getD (i * 2) 0) (S.getD (S.length - 1) 0)])
    else if (twoL (L.getD (i * 2) 0) (S.getD (S.length - 2) 0) (S.getD (S.length - 1) 0)).2 ≠ 0 then (0, (twoL (L.getD (i * 2) 0) (S.getD (S.length - 2) 0) (S.getD (S.length - 1) 0)).2)
    else evalL nm F (L.drop ((i + 1) * 2)) (S.take (S.length - 2) ++ [(twoL (L.getD (i * 2) 0) (S.getD (S.length - 2) 0) (S.getD (S.length - 1) 0)).1])) := by
  have e : L.drop (i * 2) = L.getD (i * 2) 0 :: L.getD (i * 2 + 1) 0 :: L.drop ((i + 1) * 2) := by
    rw [List.drop_eq_getElem_cons (by omega), List.drop_eq_getElem_cons (by omega), List.getD_eq_getElem?_getD, List.getD_eq_getElem?_getD, List.getElem?_eq_getElem (by omega), List.getElem?_eq_getElem (by omega), show i * 2 + 1 + 1 = (i + 1) * 2 by omega]
    rfl
  rw [e, evalL]
theorem take_last {R : List Int} {k : Nat} (h : k ≤ R.length) (v : Int) : (R.take k ++ [v]).length = k + 1 := by simp [h]
structure ruP where
structure ruX where
  R : List Int
  r : Nat
  nl : Bool
  d : Nat
  i : Nat
structure ruY where
  R : List Int
  r : Nat
  nl : Bool
  d : Nat
structure ruZ where
  er : Int
def ruSt (A : Option Addr) (L : List Int) (m cap : Nat) (qa qf qb qc qd qe qh ql sp pc : Int) (ad va ki ba : Int) : ruP → ruX → ASt := fun ⟨⟩ ⟨R, r, nl, d, i⟩ => ⟨slots (List.replicate 84 .any) [(0, .v (.one (.xr A [.i64, .i64] L m cap))), (3, .v (.one (.ptr 0 0))), (4, .v (.one (.int true .i64 0))), (5, .v (.one (.int true .i64 0))), (6, .v (.one (.gs 1 nl 1 0 r d))), (13, .v (.one (.xr A [.i64, .i64] L m cap))), (14, .v (.one (.int false .i64 (m : Int)))), (15, .v (.one (.int false .i64 (i : Int))))], [⟨[.int false .u8 qa, .int false .u8 qf, .int false .u8 qb, .int false .u8 qc, .int false .u8 qd, .int false .u8 qe, .int false .u8 qh, .int false .u8 ql, .int false .u16 sp, .int false .u16 pc, .int false .i64 ad, .int false .i64 va, .int false .i64 ki, .int false .i64 ba, .nilfn], 38⟩, ⟨[.row nl [.i64] R d], 3⟩]⟩
def ruFin (A : Option Addr) (L : List Int) (m cap : Nat) (qa qf qb qc qd qe qh ql sp pc : Int) (ad va ki ba : Int) : ruP → ruY → ASt := fun ⟨⟩ ⟨R, r, nl, d⟩ => ⟨slots (List.replicate 84 .any) [(4, .v (.one (.int true .i64 0))), (5, .v (.one (.int true .i64 0))), (6, .v (.one (.gs 1 nl 1 0 r d)))], [⟨[.int false .u8 qa, .int false .u8 qf, .int false .u8 qb, .int false .u8 qc, .int false .u8 qd, .int false .u8 qe, .int false .u8 qh, .int false .u8 ql, .int false .u16 sp, .int false .u16 pc, .int false .i64 ad, .int false .i64 va, .int false .i64 ki, .int false .i64 ba, .nilfn], 38⟩, ⟨[.row nl [.i64] R d], 3⟩]⟩
def ruBck (A : Option Addr) (L : List Int) (m cap : Nat) (qa qf qb qc qd qe qh ql sp pc : Int) (ad va ki ba : Int) : ruP → ruZ → ASt := fun ⟨⟩ ⟨er⟩ => ⟨slots (List.replicate 84 .any) [(4, .v (.one (.int true .i64 0))), (5, .v (.one (.int false .i64 er)))], [⟨[.dead], 38⟩]⟩
def ruNxP : ASt → Option ruP := fun s => some ⟨⟩
def ruNxX : ASt → Option ruX := fun s => match sym.gX s 6 with | none => none | some R => match sym.gL s 6 with | none => none | some r => match sym.gN s 6 with | none => none | some nl => match sym.gC s 6 with | none => none | some d => match (sym.gI s 15).map Int.toNat with | none => none | some i => some ⟨R, r, nl, d, i⟩
def ruNxY : ASt → Option ruY := fun s => match sym.gX s 6 with | none => none | some R => match sym.gL s 6 with | none => none | some r => match sym.gN s 6 with | none => none | some nl => match sym.gC s 6 with | none => none | some d => some ⟨R, r, nl, d⟩
def ruNxZ : ASt → Option ruZ := fun s => match sym.gI s 5 with | none => none | some er => some ⟨er⟩
def ruRo : ASt → List (Option Nat) := (fun s => [sym.rowAt s 6])
def ruRf : ASt → List (Option Nat) := (fun s => [sym.rowAt s 6])
def ruRb : ASt → List (Option Nat) := (fun s => [])
structure ruInv (A : Option Addr) (L : List Int) (m cap : Nat) (qa qf qb qc qd qe qh ql sp pc : Int) (ad va ki ba : Int) (p : ruP) (x : ruX) : Prop where
  i1 : x.i ≤ m
  big : m ≤ 1000000
  rl : x.R.length = x.r
  rd : x.r ≤ x.d ∧ x.d ≤ maxLen
  nil : x.nl = true → x.r = 0 ∧ x.d = 0
  ri : x.r ≤ x.i
  eq : evalL (nameL qa qf qb qc qd qe qh ql sp pc ad va ki ba) F0 (L.drop (x.i * 2)) x.R = evalL (nameL qa qf qb qc qd qe qh ql sp pc ad va ki ba) F0 L []
structure ruPost (A : Option Addr) (L : List Int) (m cap : Nat) (qa qf qb qc qd qe qh ql sp pc : Int) (ad va ki ba : Int) (p : ruP) (x : ruY) : Prop where
  rl : x.R.length = x.r
  rd : x.r ≤ x.d ∧ x.d ≤ maxLen
  nil : x.nl = true → x.r = 0 ∧ x.d = 0
  eq : evalL (nameL qa qf qb qc qd qe qh ql sp pc ad va ki ba) F0 [] x.R = evalL (nameL qa qf qb qc qd qe qh ql sp pc ad va ki ba) F0 L []
structure ruBack (A : Option Addr) (L : List Int) (m cap : Nat) (qa qf qb qc qd qe qh ql sp pc : Int) (ad va ki ba : Int) (p : ruP) (x : ruZ) : Prop where
  eq : evalL (nameL qa qf qb qc qd qe qh ql sp pc ad va ki ba) F0 L [] = (0, x.er)
def ruLp (A : Option Addr) (L : List Int) (m cap : Nat) (qa qf qb qc qd qe qh ql sp pc : Int) (ad va ki ba : Int) : Lp := ⟨10, 0, fun s => match ruNxP s with
  | some p => match ruNxX s with
    | some x => some (loopT 0 1 true ruRo (ruSt A L m cap qa qf qb qc qd qe qh ql sp pc ad va ki ba p) (ruFin A L m cap qa qf qb qc qd qe qh ql sp pc ad va ki ba p) (ruBck A L m cap qa qf qb qc qd qe qh ql sp pc ad va ki ba p) (ruInv A L m cap qa qf qb qc qd qe qh ql sp pc ad va ki ba p) (ruPost A L m cap qa qf qb qc qd qe qh ql sp pc ad va ki ba p) (ruBack A L m cap qa qf qb qc qd qe qh ql sp pc ad va ki ba p) s x)
    | none => none
  | none => none⟩
theorem rustep_tree (w : World) (A : Option Addr) (L : List Int) (m cap : Nat) (qa qf qb qc qd qe qh ql sp pc : Int) (ad va ki ba : Int) (R : List Int) (r : Nat) (nl : Bool) (d : Nat) (i : Nat) :
    roundT Try.prog w (flatT Try.prog) (ctrOf etab2) (callT Try.prog w (flatT Try.prog) (ctrOf etab2) (noPre) (noLoop) 20) ((noLoop) 10) (roundOf (bodyAt Try.prog 10 0)) 0 1 ruRo ruRf ruRb (ruSt A L m cap qa qf qb qc qd qe qh ql sp pc ad va ki ba ⟨⟩) (ruFin A L m cap qa qf qb qc qd qe qh ql sp pc ad va ki ba ⟨⟩) (ruBck A L m cap qa qf qb qc qd qe qh ql sp pc ad va ki ba ⟨⟩) ruNxX ruNxY ruNxZ ⟨R, r, nl, d, i⟩ =
(.br (decide ((↑i : Int) < (↑m : Int)))
 (.chk (sym.XR w A [IntKind.i64, IntKind.i64] L m ∧
  (0 : Int) ≤ (↑i : Int) ∧ (↑i : Int) < (↑m : Int) ∧ (0 : Nat) < [IntKind.i64, IntKind.i64].length)
 (.chk (sym.XC w A [IntKind.i64, IntKind.i64] L ∧
  (0 : Nat) < (2 : Nat) ∧ (↑i : Int).toNat * [IntKind.i64, IntKind.i64].length + (2 : Nat) ≤ L.length)
 (.br (decide
  (takesL
      (L.getD ((↑i : Int).toNat * [IntKind.i64, IntKind.i64].length + (0 : Nat)) (0 : Int))
      (L.getD ((↑i : Int).toNat * [IntKind.i64, IntKind.i64].length + (1 : Nat)) (0 : Int)) <
    (0 : Int)))
  (.chk (IntKind.i64 = IntKind.i64 ∧ (0 : Int) = (0 : Int))
  (.chk (IntKind.i64 = IntKind.i64 ∧ (5 : Int) = (5 : Int))
  (.leaf (.inr (.inr ⟨(5 : Int)⟩)))))
  (.br (decide
  (IntKind.i64.wrap
      ((↑r : Int) -
        takesL
          (L.getD ((↑i : Int).toNat * [IntKind.i64, IntKind.i64].length + (0 : Nat)) (0 : Int))
          (L.getD ((↑i : Int).toNat * [IntKind.i64, IntKind.i64].length + (1 : Nat)) (0 : Int))) <
    (0 : Int)))
   (.chk (IntKind.i64 = IntKind.i64 ∧ (0 : Int) = (0 : Int))
   (.chk (IntKind.i64 = IntKind.i64 ∧ (5 : Int) = (5 : Int))
   (.leaf (.inr (.inr ⟨(5 : Int)⟩)))))
   (.br (takesL
    (L.getD ((↑i : Int).toNat * [IntKind.i64, IntKind.i64].length + (0 : Nat)) (0 : Int))
    (L.getD ((↑i : Int).toNat * [IntKind.i64, IntKind.i64].length + (1 : Nat)) (0 : Int)) ==
  (0 : Int))
    (.br (L.getD ((↑i : Int).toNat * [IntKind.i64, IntKind.i64].length + (0 : Nat)) (0 : Int) == (2 : Int))
     (.chk ((0 : Int) ≤ L.getD ((↑i : Int).toNat * [IntKind.i64, IntKind.i64].length + (1 : Nat)) (0 : Int) ∧
  L.getD ((↑i : Int).toNat * [IntKind.i64, IntKind.i64].length + (1 : Nat)) (0 : Int) < (18 : Int))
     (.chk ((0 : Int) ≤ (0 : Int) ∧
  (0 : Int) ≤
      IntKind.i64.wrap
        ((↑r : Int) -
          takesL
            (L.getD ((↑i : Int).toNat * [IntKind.i64, IntKind.i64].length + (0 : Nat)) (0 : Int))
            (L.getD ((↑i : Int).toNat * [IntKind.i64, IntKind.i64].length + (1 : Nat)) (0 : Int))) ∧
    IntKind.i64.wrap
        ((↑r : Int) -
          takesL
            (L.getD ((↑i : Int).toNat * [IntKind.i64, IntKind.i64].length + (0 : Nat)) (0 : Int))
            (L.getD ((↑i : Int).toNat * [IntKind.i64, IntKind.i64].length + (1 : Nat)) (0 : Int))) ≤
      (↑d : Int))
     (.chk (True ∧
  (nl = nl ∧
      sym.cutO (0 : Nat) d (0 : Nat) = (0 : Nat) ∧
        d - (0 : Nat) = d ∧
          ((IntKind.i64.wrap
                      ((↑r : Int) -
                        takesL
                          (L.getD ((↑i : Int).toNat * [IntKind.i64, IntKind.i64].length + (0 : Nat)) (0 : Int))
                          (L.getD ((↑i : Int).toNat * [IntKind.i64, IntKind.i64].length + (1 : Nat))
                            (0 : Int)))).toNat -
                  (0 : Nat)) *
                [IntKind.i64].length ≤
              R.length ∧
            (IntKind.i64.wrap
                      ((↑r : Int) -
                        takesL
                          (L.getD ((↑i : Int).toNat * [IntKind.i64, IntKind.i64].length + (0 : Nat)) (0 : Int))
                          (L.getD ((↑i : Int).toNat * [IntKind.i64, IntKind.i64].length + (1 : Nat))
                            (0 : Int)))).toNat -
                  (0 : Nat) ≤
                d - (0 : Nat) ∧
              d - (0 : Nat) ≤ Go.maxLen ∧ (nl = true → d - (0 : Nat) = (0 : Nat))) ∧
    ((IntKind.i64.wrap
                ((↑r : Int) -
                  takesL
                    (L.getD ((↑i : Int).toNat * [IntKind.i64, IntKind.i64].length + (0 : Nat)) (0 : Int))
                    (L.getD ((↑i : Int).toNat * [IntKind.i64, IntKind.i64].length + (1 : Nat))
                      (0 : Int)))).toNat -
            (0 : Nat) +
          (1 : Nat)) *
        (8 : Nat) ≤
      (140737488355328 : Nat))
     (.all fun x : sym.Grown nl (1 : Nat)
  ((IntKind.i64.wrap
          ((↑r : Int) -
            takesL
              (L.getD ((↑i : Int).toNat * [IntKind.i64, IntKind.i64].length + (0 : Nat)) (0 : Int))
              (L.getD ((↑i : Int).toNat * [IntKind.i64, IntKind.i64].length + (1 : Nat)) (0 : Int)))).toNat -
      (0 : Nat) +
    (1 : Nat)) =>
      (.chk (A = A ∧ [IntKind.i64, IntKind.i64] = [IntKind.i64, IntKind.i64] ∧ L = L ∧ m = m ∧ cap = cap)
      (.chk (IntKind.i64 = IntKind.i64 ∧ (0 : Int) = (0 : Int))
      (.chk (IntKind.i64 = IntKind.i64 ∧ (0 : Int) = (0 : Int))
      (.chk (x.nl' = x.nl' ∧
  [IntKind.i64].length = (1 : Nat) ∧
    (0 : Nat) = (0 : Nat) ∧
      (IntKind.i64.wrap
                  ((↑r : Int) -
                    takesL
                      (L.getD ((↑i : Int).toNat * [IntKind.i64, IntKind.i64].length + (0 : Nat)) (0 : Int))
                      (L.getD ((↑i : Int).toNat * [IntKind.i64, IntKind.i64].length + (1 : Nat))
                        (0 : Int)))).toNat -
              (0 : Nat) +
            (1 : Nat) =
          (IntKind.i64.wrap
                  ((↑r : Int) -
                    takesL
                      (L.getD ((↑i : Int).toNat * [IntKind.i64, IntKind.i64].length + (0 : Nat)) (0 : Int))
                      (L.getD ((↑i : Int).toNat * [IntKind.i64, IntKind.i64].length + (1 : Nat))
                        (0 : Int)))).toNat -
              (0 : Nat) +
            (1 : Nat) ∧
        x.cap = x.cap)
      (.chk (A = A ∧ [IntKind.i64, IntKind.i64] = [IntKind.i64, IntKind.i64] ∧ L = L ∧ m = m ∧ cap = cap)
      (.chk (IntKind.i64 = IntKind.i64 ∧ (↑m : Int) = (↑m : Int))
      (.chk (IntKind.i64 = IntKind.i64 ∧
  IntKind.i64.wrap ((↑i : Int) + (1 : Int)) = (↑(IntKind.i64.wrap ((↑i : Int) + (1 : Int))).toNat : Int))
      (.chk (IntKind.u8 = IntKind.u8 ∧ qa = qa)
      (.chk (IntKind.u8 = IntKind.u8 ∧ qf = qf)
      (.chk (IntKind.u8 = IntKind.u8 ∧ qb = qb)
      (.chk (IntKind.u8 = IntKind.u8 ∧ qc = qc)
      (.chk (IntKind.u8 = IntKind.u8 ∧ qd = qd)
      (.chk (IntKind.u8 = IntKind.u8 ∧ qe = qe)
      (.chk (IntKind.u8 = IntKind.u8 ∧ qh = qh)
      (.chk (IntKind.u8 = IntKind.u8 ∧ ql = ql)
      (.chk (IntKind.u16 = IntKind.u16 ∧ sp = sp)
      (.chk (IntKind.u16 = IntKind.u16 ∧ pc = pc)
      (.chk (IntKind.i64 = IntKind.i64 ∧ ad = ad)
      (.chk (IntKind.i64 = IntKind.i64 ∧ va = va)
      (.chk (IntKind.i64 = IntKind.i64 ∧ ki = ki)
      (.chk (IntKind.i64 = IntKind.i64 ∧ ba = ba)
      (.chk (x.nl' = x.nl' ∧
  [IntKind.i64] = [IntKind.i64] ∧
    List.take
            (((IntKind.i64.wrap
                    ((↑r : Int) -
                      takesL
                        (L.getD ((↑i : Int).toNat * [IntKind.i64, IntKind.i64].length + (0 : Nat)) (0 : Int))
                        (L.getD ((↑i : Int).toNat * [IntKind.i64, IntKind.i64].length + (1 : Nat))
                          (0 : Int)))).toNat -
                (0 : Nat)) *
              [IntKind.i64].length)
            R ++
          [nameL qa qf qb qc qd qe qh ql sp pc ad va ki ba
              (L.getD ((↑i : Int).toNat * [IntKind.i64, IntKind.i64].length + (1 : Nat)) (0 : Int))] =
        List.take
            (((IntKind.i64.wrap
                    ((↑r : Int) -
                      takesL
                        (L.getD ((↑i : Int).toNat * [IntKind.i64, IntKind.i64].length + (0 : Nat)) (0 : Int))
                        (L.getD ((↑i : Int).toNat * [IntKind.i64, IntKind.i64].length + (1 : Nat))
                          (0 : Int)))).toNat -
                (0 : Nat)) *
              [IntKind.i64].length)
            R ++
          [nameL qa qf qb qc qd qe qh ql sp pc ad va ki ba
              (L.getD ((↑i : Int).toNat * [IntKind.i64, IntKind.i64].length + (1 : Nat)) (0 : Int))] ∧
      x.cap = x.cap)
      (.leaf (.inl ⟨List.take
    (((IntKind.i64.wrap
            ((↑r : Int) -
              takesL
                (L.getD ((↑i : Int).toNat * [IntKind.i64, IntKind.i64].length + (0 : Nat)) (0 : Int))
                (L.getD ((↑i : Int).toNat * [IntKind.i64, IntKind.i64].length + (1 : Nat)) (0 : Int)))).toNat -
        (0 : Nat)) *
      [IntKind.i64].length)
    R ++
  [nameL qa qf qb qc qd qe qh ql sp pc ad va ki ba
      (L.getD ((↑i : Int).toNat * [IntKind.i64, IntKind.i64].length + (1 : Nat)) (0 : Int))], (IntKind.i64.wrap
        ((↑r : Int) -
          takesL
            (L.getD ((↑i : Int).toNat * [IntKind.i64, IntKind.i64].length + (0 : Nat)) (0 : Int))
            (L.getD ((↑i : Int).toNat * [IntKind.i64, IntKind.i64].length + (1 : Nat)) (0 : Int)))).toNat -
    (0 : Nat) +
  (1 : Nat), x.nl', x.cap, (IntKind.i64.wrap ((↑i : Int) + (1 : Int))).toNat⟩))))))))))))))))))))))))))))
     (.chk ((0 : Int) ≤ (0 : Int) ∧
  (0 : Int) ≤
      IntKind.i64.wrap
        ((↑r : Int) -
          takesL
            (L.getD ((↑i : Int).toNat * [IntKind.i64, IntKind.i64].length + (0 : Nat)) (0 : Int))
            (L.getD ((↑i : Int).toNat * [IntKind.i64, IntKind.i64].length + (1 : Nat)) (0 : Int))) ∧
    IntKind.i64.wrap
        ((↑r : Int) -
          takesL
            (L.getD ((↑i : Int).toNat * [IntKind.i64, IntKind.i64].length + (0 : Nat)) (0 : Int))
            (L.getD ((↑i : Int).toNat * [IntKind.i64, IntKind.i64].length + (1 : Nat)) (0 : Int))) ≤
      (↑d : Int))
     (.chk (True ∧
  (nl = nl ∧
      sym.cutO (0 : Nat) d (0 : Nat) = (0 : Nat) ∧
        d - (0 : Nat) = d ∧
          ((IntKind.i64.wrap
                      ((↑r : Int) -
                        takesL
                          (L.getD ((↑i : Int).toNat * [IntKind.i64, IntKind.i64].length + (0 : Nat)) (0 : Int))
                          (L.getD ((↑i : Int).toNat * [IntKind.i64, IntKind.i64].length + (1 : Nat))
                            (0 : Int)))).toNat -
                  (0 : Nat)) *
                [IntKind.i64].length ≤
              R.length ∧
            (IntKind.i64.wrap
                      ((↑r : Int) -
                        takesL
                          (L.getD ((↑i : Int).toNat * [IntKind.i64, IntKind.i64].length + (0 : Nat)) (0 : Int))
                          (L.getD ((↑i : Int).toNat * [IntKind.i64, IntKind.i64].length + (1 : Nat))
                            (0 : Int)))).toNat -
                  (0 : Nat) ≤
                d - (0 : Nat) ∧
              d - (0 : Nat) ≤ Go.maxLen ∧ (nl = true → d - (0 : Nat) = (0 : Nat))) ∧
    ((IntKind.i64.wrap
                ((↑r : Int) -
                  takesL
                    (L.getD ((↑i : Int).toNat * [IntKind.i64, IntKind.i64].length + (0 : Nat)) (0 : Int))
                    (L.getD ((↑i : Int).toNat * [IntKind.i64, IntKind.i64].length + (1 : Nat))
                      (0 : Int)))).toNat -
            (0 : Nat) +
          (1 : Nat)) *
        (8 : Nat) ≤
      (140737488355328 : Nat))
     (.all fun x : sym.Grown nl (1 : Nat)
  ((IntKind.i64.wrap
          ((↑r : Int) -
            takesL
              (L.getD ((↑i : Int).toNat * [IntKind.i64, IntKind.i64].length + (0 : Nat)) (0 : Int))
              (L.getD ((↑i : Int).toNat * [IntKind.i64, IntKind.i64].length + (1 : Nat)) (0 : Int)))).toNat -
      (0 : Nat) +
    (1 : Nat)) =>
      (.chk (A = A ∧ [IntKind.i64, IntKind.i64] = [IntKind.i64, IntKind.i64] ∧ L = L ∧ m = m ∧ cap = cap)
      (.chk (IntKind.i64 = IntKind.i64 ∧ (0 : Int) = (0 : Int))
      (.chk (IntKind.i64 = IntKind.i64 ∧ (0 : Int) = (0 : Int))
      (.chk (x.nl' = x.nl' ∧
  [IntKind.i64].length = (1 : Nat) ∧
    (0 : Nat) = (0 : Nat) ∧
      (IntKind.i64.wrap
                  ((↑r : Int) -
                    takesL
                      (L.getD ((↑i : Int).toNat * [IntKind.i64, IntKind.i64].length + (0 : Nat)) (0 : Int))
                      (L.getD ((↑i : Int).toNat * [IntKind.i64, IntKind.i64].length + (1 : Nat))
                        (0 : Int)))).toNat -
              (0 : Nat) +
            (1 : Nat) =
          (IntKind.i64.wrap
                  ((↑r : Int) -
                    takesL
                      (L.getD ((↑i : Int).toNat * [IntKind.i64, IntKind.i64].length + (0 : Nat)) (0 : Int))
                      (L.getD ((↑i : Int).toNat * [IntKind.i64, IntKind.i64].length + (1 : Nat))
                        (0 : Int)))).toNat -
              (0 : Nat) +
            (1 : Nat) ∧
        x.cap = x.cap)
      (.chk (A = A ∧ [IntKind.i64, IntKind.i64] = [IntKind.i64, IntKind.i64] ∧ L = L ∧ m = m ∧ cap = cap)
      (.chk (IntKind.i64 = IntKind.i64 ∧ (↑m : Int) = (↑m : Int))
      (.chk (IntKind.i64 = IntKind.i64 ∧
  IntKind.i64.wrap ((↑i : Int) + (1 : Int)) = (↑(IntKind.i64.wrap ((↑i : Int) + (1 : Int))).toNat : Int))
      (.chk (IntKind.u8 = IntKind.u8 ∧ qa = qa)
      (.chk (IntKind.u8 = IntKind.u8 ∧ qf = qf)
      (.chk (IntKind.u8 = IntKind.u8 ∧ qb = qb)
      (.chk (IntKind.u8 = IntKind.u8 ∧ qc = qc)
      (.chk (IntKind.u8 = IntKind.u8 ∧ qd = qd)
      (.chk (IntKind.u8 = IntKind.u8 ∧ qe = qe)
      (.chk (IntKind.u8 = IntKind.u8 ∧ qh = qh)
      (.chk (IntKind.u8 = IntKind.u8 ∧ ql = ql)
      (.chk (IntKind.u16 = IntKind.u16 ∧ sp = sp)
      (.chk (IntKind.u16 = IntKind.u16 ∧ pc = pc)
      (.chk (IntKind.i64 = IntKind.i64 ∧ ad = ad)
      (.chk (IntKind.i64 = IntKind.i64 ∧ va = va)
      (.chk (IntKind.i64 = IntKind.i64 ∧ ki = ki)
      (.chk (IntKind.i64 = IntKind.i64 ∧ ba = ba)
      (.chk (x.nl' = x.nl' ∧
  [IntKind.i64] = [IntKind.i64] ∧
    List.take
            (((IntKind.i64.wrap
                    ((↑r : Int) -
                      takesL
                        (L.getD ((↑i : Int).toNat * [IntKind.i64, IntKind.i64].length + (0 : Nat)) (0 : Int))
                        (L.getD ((↑i : Int).toNat * [IntKind.i64, IntKind.i64].length + (1 : Nat))
                          (0 : Int)))).toNat -
                (0 : Nat)) *
              [IntKind.i64].length)
            R ++
          [L.getD ((↑i : Int).toNat * [IntKind.i64, IntKind.i64].length + (1 : Nat)) (0 : Int)] =
        List.take
            (((IntKind.i64.wrap
                    ((↑r : Int) -
                      takesL
                        (L.getD ((↑i : Int).toNat * [IntKind.i64, IntKind.i64].length + (0 : Nat)) (0 : Int))
                        (L.getD ((↑i : Int).toNat * [IntKind.i64, IntKind.i64].length + (1 : Nat))
                          (0 : Int)))).toNat -
                (0 : Nat)) *
              [IntKind.i64].length)
            R ++
          [L.getD ((↑i : Int).toNat * [IntKind.i64, IntKind.i64].length + (1 : Nat)) (0 : Int)] ∧
      x.cap = x.cap)
      (.leaf (.inl ⟨List.take
    (((IntKind.i64.wrap
            ((↑r : Int) -
              takesL
                (L.getD ((↑i : Int).toNat * [IntKind.i64, IntKind.i64].length + (0 : Nat)) (0 : Int))
                (L.getD ((↑i : Int).toNat * [IntKind.i64, IntKind.i64].length + (1 : Nat)) (0 : Int)))).toNat -
        (0 : Nat)) *
      [IntKind.i64].length)
    R ++
  [L.getD ((↑i : Int).toNat * [IntKind.i64, IntKind.i64].length + (1 : Nat)) (0 : Int)], (IntKind.i64.wrap
        ((↑r : Int) -
          takesL
            (L.getD ((↑i : Int).toNat * [IntKind.i64, IntKind.i64].length + (0 : Nat)) (0 : Int))
            (L.getD ((↑i : Int).toNat * [IntKind.i64, IntKind.i64].length + (1 : Nat)) (0 : Int)))).toNat -
    (0 : Nat) +
  (1 : Nat), x.nl', x.cap, (IntKind.i64.wrap ((↑i : Int) + (1 : Int))).toNat⟩))))))))))))))))))))))))))))
    (.br (takesL
    (L.getD ((↑i : Int).toNat * [IntKind.i64, IntKind.i64].length + (0 : Nat)) (0 : Int))
    (L.getD ((↑i : Int).toNat * [IntKind.i64, IntKind.i64].length + (1 : Nat)) (0 : Int)) ==
  (1 : Int))
     (.chk (nl = false ∧
  (0 : Int) ≤
      IntKind.i64.wrap
        ((↑r : Int) -
          takesL
            (L.getD ((↑i : Int).toNat * [IntKind.i64, IntKind.i64].length + (0 : Nat)) (0 : Int))
            (L.getD ((↑i : Int).toNat * [IntKind.i64, IntKind.i64].length + (1 : Nat)) (0 : Int))) ∧
    IntKind.i64.wrap
        ((↑r : Int) -
          takesL
            (L.getD ((↑i : Int).toNat * [IntKind.i64, IntKind.i64].length + (0 : Nat)) (0 : Int))
            (L.getD ((↑i : Int).toNat * [IntKind.i64, IntKind.i64].length + (1 : Nat)) (0 : Int))) <
      (↑r : Int))
     (.chk (nl = false ∧
  ((0 : Nat) +
          (IntKind.i64.wrap
              ((↑r : Int) -
                takesL
                  (L.getD ((↑i : Int).toNat * [IntKind.i64, IntKind.i64].length + (0 : Nat)) (0 : Int))
                  (L.getD ((↑i : Int).toNat * [IntKind.i64, IntKind.i64].length + (1 : Nat)) (0 : Int)))).toNat) *
        (1 : Nat) +
      (1 : Nat) ≤
    R.length)
     (.chk ((0 : Int) ≤ (0 : Int) ∧
  (0 : Int) ≤
      IntKind.i64.wrap
        ((↑r : Int) -
          takesL
            (L.getD ((↑i : Int).toNat * [IntKind.i64, IntKind.i64].length + (0 : Nat)) (0 : Int))
            (L.getD ((↑i : Int).toNat * [IntKind.i64, IntKind.i64].length + (1 : Nat)) (0 : Int))) ∧
    IntKind.i64.wrap
        ((↑r : Int) -
          takesL
            (L.getD ((↑i : Int).toNat * [IntKind.i64, IntKind.i64].length + (0 : Nat)) (0 : Int))
            (L.getD ((↑i : Int).toNat * [IntKind.i64, IntKind.i64].length + (1 : Nat)) (0 : Int))) ≤
      (↑d : Int))
     (.chk (True ∧
  (nl = nl ∧
      sym.cutO (0 : Nat) d (0 : Nat) = (0 : Nat) ∧
        d - (0 : Nat) = d ∧
          ((IntKind.i64.wrap
                      ((↑r : Int) -
                        takesL
                          (L.getD ((↑i : Int).toNat * [IntKind.i64, IntKind.i64].length + (0 : Nat)) (0 : Int))
                          (L.getD ((↑i : Int).toNat * [IntKind.i64, IntKind.i64].length + (1 : Nat))
                            (0 : Int)))).toNat -
                  (0 : Nat)) *
                [IntKind.i64].length ≤
              R.length ∧
            (IntKind.i64.wrap
                      ((↑r : Int) -
                        takesL
                          (L.getD ((↑i : Int).toNat * [IntKind.i64, IntKind.i64].length + (0 : Nat)) (0 : Int))
                          (L.getD ((↑i : Int).toNat * [IntKind.i64, IntKind.i64].length + (1 : Nat))
                            (0 : Int)))).toNat -
                  (0 : Nat) ≤
                d - (0 : Nat) ∧
              d - (0 : Nat) ≤ Go.maxLen ∧ (nl = true → d - (0 : Nat) = (0 : Nat))) ∧
    ((IntKind.i64.wrap
                ((↑r : Int) -
                  takesL
                    (L.getD ((↑i : Int).toNat * [IntKind.i64, IntKind.i64].length + (0 : Nat)) (0 : Int))
                    (L.getD ((↑i : Int).toNat * [IntKind.i64, IntKind.i64].length + (1 : Nat))
                      (0 : Int)))).toNat -
            (0 : Nat) +
          (1 : Nat)) *
        (8 : Nat) ≤
      (140737488355328 : Nat))
     (.all fun x : sym.Grown nl (1 : Nat)
  ((IntKind.i64.wrap
          ((↑r : Int) -
            takesL
              (L.getD ((↑i : Int).toNat * [IntKind.i64, IntKind.i64].length + (0 : Nat)) (0 : Int))
              (L.getD ((↑i : Int).toNat * [IntKind.i64, IntKind.i64].length + (1 : Nat)) (0 : Int)))).toNat -
      (0 : Nat) +
    (1 : Nat)) =>
      (.chk (A = A ∧ [IntKind.i64, IntKind.i64] = [IntKind.i64, IntKind.i64] ∧ L = L ∧ m = m ∧ cap = cap)
      (.chk (IntKind.i64 = IntKind.i64 ∧ (0 : Int) = (0 : Int))
      (.chk (IntKind.i64 = IntKind.i64 ∧ (0 : Int) = (0 : Int))
      (.chk (x.nl' = x.nl' ∧
  [IntKind.i64].length = (1 : Nat) ∧
    (0 : Nat) = (0 : Nat) ∧
      (IntKind.i64.wrap
                  ((↑r : Int) -
                    takesL
                      (L.getD ((↑i : Int).toNat * [IntKind.i64, IntKind.i64].length + (0 : Nat)) (0 : Int))
                      (L.getD ((↑i : Int).toNat * [IntKind.i64, IntKind.i64].length + (1 : Nat))
                        (0 : Int)))).toNat -
              (0 : Nat) +
            (1 : Nat) =
          (IntKind.i64.wrap
                  ((↑r : Int) -
                    takesL
                      (L.getD ((↑i : Int).toNat * [IntKind.i64, IntKind.i64].length + (0 : Nat)) (0 : Int))
                      (L.getD ((↑i : Int).toNat * [IntKind.i64, IntKind.i64].length + (1 : Nat))
                        (0 : Int)))).toNat -
              (0 : Nat) +
            (1 : Nat) ∧
        x.cap = x.cap)
      (.chk (A = A ∧ [IntKind.i64, IntKind.i64] = [IntKind.i64, IntKind.i64] ∧ L = L ∧ m = m ∧ cap = cap)
      (.chk (IntKind.i64 = IntKind.i64 ∧ (↑m : Int) = (↑m : Int))
      (.chk (IntKind.i64 = IntKind.i64 ∧
  IntKind.i64.wrap ((↑i : Int) + (1 : Int)) = (↑(IntKind.i64.wrap ((↑i : Int) + (1 : Int))).toNat : Int))
      (.chk (IntKind.u8 = IntKind.u8 ∧ qa = qa)
      (.chk (IntKind.u8 = IntKind.u8 ∧ qf = qf)
      (.chk (IntKind.u8 = IntKind.u8 ∧ qb = qb)
      (.chk (IntKind.u8 = IntKind.u8 ∧ qc = qc)
      (.chk (IntKind.u8 = IntKind.u8 ∧ qd = qd)
      (.chk (IntKind.u8 = IntKind.u8 ∧ qe = qe)
      (.chk (IntKind.u8 = IntKind.u8 ∧ qh = qh)
      (.chk (IntKind.u8 = IntKind.u8 ∧ ql = ql)
      (.chk (IntKind.u16 = IntKind.u16 ∧ sp = sp)
      (.chk (IntKind.u16 = IntKind.u16 ∧ pc = pc)
      (.chk (IntKind.i64 = IntKind.i64 ∧ ad = ad)
      (.chk (IntKind.i64 = IntKind.i64 ∧ va = va)
      (.chk (IntKind.i64 = IntKind.i64 ∧ ki = ki)
      (.chk (IntKind.i64 = IntKind.i64 ∧ ba = ba)
      (.chk (x.nl' = x.nl' ∧
  [IntKind.i64] = [IntKind.i64] ∧
    List.take
            (((IntKind.i64.wrap
                    ((↑r : Int) -
                      takesL
                        (L.getD ((↑i : Int).toNat * [IntKind.i64, IntKind.i64].length + (0 : Nat)) (0 : Int))
                        (L.getD ((↑i : Int).toNat * [IntKind.i64, IntKind.i64].length + (1 : Nat))
                          (0 : Int)))).toNat -
                (0 : Nat)) *
              [IntKind.i64].length)
            R ++
          [oneL F0
              (L.getD ((↑i : Int).toNat * [IntKind.i64, IntKind.i64].length + (0 : Nat)) (0 : Int))
              (R.getD
                (((0 : Nat) +
                      (IntKind.i64.wrap
                          ((↑r : Int) -
                            takesL
                              (L.getD ((↑i : Int).toNat * [IntKind.i64, IntKind.i64].length + (0 : Nat))
                                (0 : Int))
                              (L.getD ((↑i : Int).toNat * [IntKind.i64, IntKind.i64].length + (1 : Nat))
                                (0 : Int)))).toNat) *
                    (1 : Nat) +
                  (0 : Nat))
                (0 : Int))] =
        List.take
            (((IntKind.i64.wrap
                    ((↑r : Int) -
                      takesL
                        (L.getD ((↑i : Int).toNat * [IntKind.i64, IntKind.i64].length + (0 : Nat)) (0 : Int))
                        (L.getD ((↑i : Int).toNat * [IntKind.i64, IntKind.i64].length + (1 : Nat))
                          (0 : Int)))).toNat -
                (0 : Nat)) *
              [IntKind.i64].length)
            R ++
          [oneL F0
              (L.getD ((↑i : Int).toNat * [IntKind.i64, IntKind.i64].length + (0 : Nat)) (0 : Int))
              (R.getD
                (((0 : Nat) +
                      (IntKind.i64.wrap
                          ((↑r : Int) -
                            takesL
                              (L.getD ((↑i : Int).toNat * [IntKind.i64, IntKind.i64].length + (0 : Nat))
                                (0 : Int))
                              (L.getD ((↑i : Int).toNat * [IntKind.i64, IntKind.i64].length + (1 : Nat))
                                (0 : Int)))).toNat) *
                    (1 : Nat) +
                  (0 : Nat))
                (0 : Int))] ∧
      x.cap = x.cap)
      (.leaf (.inl ⟨List.take
    (((IntKind.i64.wrap
            ((↑r : Int) -
              takesL
                (L.getD ((↑i : Int).toNat * [IntKind.i64, IntKind.i64].length + (0 : Nat)) (0 : Int))
                (L.getD ((↑i : Int).toNat * [IntKind.i64, IntKind.i64].length + (1 : Nat)) (0 : Int)))).toNat -
        (0 : Nat)) *
      [IntKind.i64].length)
    R ++
  [oneL F0
      (L.getD ((↑i : Int).toNat * [IntKind.i64, IntKind.i64].length + (0 : Nat)) (0 : Int))
      (R.getD
        (((0 : Nat) +
              (IntKind.i64.wrap
                  ((↑r : Int) -
                    takesL
                      (L.getD ((↑i : Int).toNat * [IntKind.i64, IntKind.i64].length + (0 : Nat)) (0 : Int))
                      (L.getD ((↑i : Int).toNat * [IntKind.i64, IntKind.i64].length + (1 : Nat))
                        (0 : Int)))).toNat) *
            (1 : Nat) +
          (0 : Nat))
        (0 : Int))], (IntKind.i64.wrap
        ((↑r : Int) -
          takesL
            (L.getD ((↑i : Int).toNat * [IntKind.i64, IntKind.i64].length + (0 : Nat)) (0 : Int))
            (L.getD ((↑i : Int).toNat * [IntKind.i64, IntKind.i64].length + (1 : Nat)) (0 : Int)))).toNat -
    (0 : Nat) +
  (1 : Nat), x.nl', x.cap, (IntKind.i64.wrap ((↑i : Int) + (1 : Int))).toNat⟩)))))))))))))))))))))))))))))
     (.chk (nl = false ∧
  (0 : Int) ≤
      IntKind.i64.wrap
        ((↑r : Int) -
          takesL
            (L.getD ((↑i : Int).toNat * [IntKind.i64, IntKind.i64].length + (0 : Nat)) (0 : Int))
            (L.getD ((↑i : Int).toNat * [IntKind.i64, IntKind.i64].length + (1 : Nat)) (0 : Int))) ∧
    IntKind.i64.wrap
        ((↑r : Int) -
          takesL
            (L.getD ((↑i : Int).toNat * [IntKind.i64, IntKind.i64].length + (0 : Nat)) (0 : Int))
            (L.getD ((↑i : Int).toNat * [IntKind.i64, IntKind.i64].length + (1 : Nat)) (0 : Int))) <
      (↑r : Int))
     (.chk (nl = false ∧
  ((0 : Nat) +
          (IntKind.i64.wrap
              ((↑r : Int) -
                takesL
                  (L.getD ((↑i : Int).toNat * [IntKind.i64, IntKind.i64].length + (0 : Nat)) (0 : Int))
                  (L.getD ((↑i : Int).toNat * [IntKind.i64, IntKind.i64].length + (1 : Nat)) (0 : Int)))).toNat) *
        (1 : Nat) +
      (1 : Nat) ≤
    R.length)
     (.chk (nl = false ∧
  (0 : Int) ≤
      IntKind.i64.wrap
        (IntKind.i64.wrap
            ((↑r : Int) -
              takesL
                (L.getD ((↑i : Int).toNat * [IntKind.i64, IntKind.i64].length + (0 : Nat)) (0 : Int))
                (L.getD ((↑i : Int).toNat * [IntKind.i64, IntKind.i64].length + (1 : Nat)) (0 : Int))) +
          (1 : Int)) ∧
    IntKind.i64.wrap
        (IntKind.i64.wrap
            ((↑r : Int) -
              takesL
                (L.getD ((↑i : Int).toNat * [IntKind.i64, IntKind.i64].length + (0 : Nat)) (0 : Int))
                (L.getD ((↑i : Int).toNat * [IntKind.i64, IntKind.i64].length + (1 : Nat)) (0 : Int))) +
          (1 : Int)) <
      (↑r : Int))
     (.chk (nl = false ∧
  ((0 : Nat) +
          (IntKind.i64.wrap
              (IntKind.i64.wrap
                  ((↑r : Int) -
                    takesL
                      (L.getD ((↑i : Int).toNat * [IntKind.i64, IntKind.i64].length + (0 : Nat)) (0 : Int))
                      (L.getD ((↑i : Int).toNat * [IntKind.i64, IntKind.i64].length + (1 : Nat)) (0 : Int))) +
                (1 : Int))).toNat) *
        (1 : Nat) +
      (1 : Nat) ≤
    R.length)
     (.br ((twoL
      (L.getD ((↑i : Int).toNat * [IntKind.i64, IntKind.i64].length + (0 : Nat)) (0 : Int))
      (R.getD
        (((0 : Nat) +
              (IntKind.i64.wrap
                  ((↑r : Int) -
                    takesL
                      (L.getD ((↑i : Int).toNat * [IntKind.i64, IntKind.i64].length + (0 : Nat)) (0 : Int))
                      (L.getD ((↑i : Int).toNat * [IntKind.i64, IntKind.i64].length + (1 : Nat))
                        (0 : Int)))).toNat) *
            (1 : Nat) +
          (0 : Nat))
        (0 : Int))
      (R.getD
        (((0 : Nat) +
              (IntKind.i64.wrap
                  (IntKind.i64.wrap
                      ((↑r : Int) -
                        takesL
                          (L.getD ((↑i : Int).toNat * [IntKind.i64, IntKind.i64].length + (0 : Nat)) (0 : Int))
                          (L.getD ((↑i : Int).toNat * [IntKind.i64, IntKind.i64].length + (1 : Nat)) (0 : Int))) +
                    (1 : Int))).toNat) *
            (1 : Nat) +
          (0 : Nat))
        (0 : Int))).snd !=
  (0 : Int))
      (.chk (IntKind.i64 = IntKind.i64 ∧ (0 : Int) = (0 : Int))
      (.chk (IntKind.i64 = IntKind.i64 ∧
  (twoL
        (L.getD ((↑i : Int).toNat * [IntKind.i64, IntKind.i64].length + (0 : Nat)) (0 : Int))
        (R.getD
          (((0 : Nat) +
                (IntKind.i64.wrap
                    ((↑r : Int) -
                      takesL
                        (L.getD ((↑i : Int).toNat * [IntKind.i64, IntKind.i64].length + (0 : Nat)) (0 : Int))
                        (L.getD ((↑i : Int).toNat * [IntKind.i64, IntKind.i64].length + (1 : Nat))
                          (0 : Int)))).toNat) *
              (1 : Nat) +
            (0 : Nat))
          (0 : Int))
        (R.getD
          (((0 : Nat) +
                (IntKind.i64.wrap
                    (IntKind.i64.wrap
                        ((↑r : Int) -
                          takesL
                            (L.getD ((↑i : Int).toNat * [IntKind.i64, IntKind.i64].length + (0 : Nat)) (0 : Int))
                            (L.getD ((↑i : Int).toNat * [IntKind.i64, IntKind.i64].length + (1 : Nat))
                              (0 : Int))) +
                      (1 : Int))).toNat) *
              (1 : Nat) +
            (0 : Nat))
          (0 : Int))).snd =
    (twoL
        (L.getD ((↑i : Int).toNat * [IntKind.i64, IntKind.i64].length + (0 : Nat)) (0 : Int))
        (R.getD
          (((0 : Nat) +
                (IntKind.i64.wrap
                    ((↑r : Int) -
                      takesL
                        (L.getD ((↑i : Int).toNat * [IntKind.i64, IntKind.i64].length + (0 : Nat)) (0 : Int))
                        (L.getD ((↑i : Int).toNat * [IntKind.i64, IntKind.i64].length + (1 : Nat))
                          (0 : Int)))).toNat) *
              (1 : Nat) +
            (0 : Nat))
          (0 : Int))
        (R.getD
          (((0 : Nat) +
                (IntKind.i64.wrap
                    (IntKind.i64.wrap
                        ((↑r : Int) -
                          takesL
                            (L.getD ((↑i : Int).toNat * [IntKind.i64, IntKind.i64].length + (0 : Nat)) (0 : Int))
                            (L.getD ((↑i : Int).toNat * [IntKind.i64, IntKind.i64].length + (1 : Nat))
                              (0 : Int))) +
                      (1 : Int))).toNat) *
              (1 : Nat) +
            (0 : Nat))
          (0 : Int))).snd)
      (.leaf (.inr (.inr ⟨(twoL
    (L.getD ((↑i : Int).toNat * [IntKind.i64, IntKind.i64].length + (0 : Nat)) (0 : Int))
    (R.getD
      (((0 : Nat) +
            (IntKind.i64.wrap
                ((↑r : Int) -
                  takesL
                    (L.getD ((↑i : Int).toNat * [IntKind.i64, IntKind.i64].length + (0 : Nat)) (0 : Int))
                    (L.getD ((↑i : Int).toNat * [IntKind.i64, IntKind.i64].length + (1 : Nat))
                      (0 : Int)))).toNat) *
          (1 : Nat) +
        (0 : Nat))
      (0 : Int))
    (R.getD
      (((0 : Nat) +
            (IntKind.i64.wrap
                (IntKind.i64.wrap
                    ((↑r : Int) -
                      takesL
                        (L.getD ((↑i : Int).toNat * [IntKind.i64, IntKind.i64].length + (0 : Nat)) (0 : Int))
                        (L.getD ((↑i : Int).toNat * [IntKind.i64, IntKind.i64].length + (1 : Nat)) (0 : Int))) +
                  (1 : Int))).toNat) *
          (1 : Nat) +
        (0 : Nat))
      (0 : Int))).snd⟩)))))
      (.chk ((0 : Int) ≤ (0 : Int) ∧
  (0 : Int) ≤
      IntKind.i64.wrap
        ((↑r : Int) -
          takesL
            (L.getD ((↑i : Int).toNat * [IntKind.i64, IntKind.i64].length + (0 : Nat)) (0 : Int))
            (L.getD ((↑i : Int).toNat * [IntKind.i64, IntKind.i64].length + (1 : Nat)) (0 : Int))) ∧
    IntKind.i64.wrap
        ((↑r : Int) -
          takesL
            (L.getD ((↑i : Int).toNat * [IntKind.i64, IntKind.i64].length + (0 : Nat)) (0 : Int))
            (L.getD ((↑i : Int).toNat * [IntKind.i64, IntKind.i64].length + (1 : Nat)) (0 : Int))) ≤
      (↑d : Int))
      (.chk (True ∧
  (nl = nl ∧
      sym.cutO (0 : Nat) d (0 : Nat) = (0 : Nat) ∧
        d - (0 : Nat) = d ∧
          ((IntKind.i64.wrap
                      ((↑r : Int) -
                        takesL
                          (L.getD ((↑i : Int).toNat * [IntKind.i64, IntKind.i64].length + (0 : Nat)) (0 : Int))
                          (L.getD ((↑i : Int).toNat * [IntKind.i64, IntKind.i64].length + (1 : Nat))
                            (0 : Int)))).toNat -
                  (0 : Nat)) *
                [IntKind.i64].length ≤
              R.length ∧
            (IntKind.i64.wrap
                      ((↑r : Int) -
                        takesL
                          (L.getD ((↑i : Int).toNat * [IntKind.i64, IntKind.i64].length + (0 : Nat)) (0 : Int))
                          (L.getD ((↑i : Int).toNat * [IntKind.i64, IntKind.i64].length + (1 : Nat))
                            (0 : Int)))).toNat -
                  (0 : Nat) ≤
                d - (0 : Nat) ∧
              d - (0 : Nat) ≤ Go.maxLen ∧ (nl = true → d - (0 : Nat) = (0 : Nat))) ∧
    ((IntKind.i64.wrap
                ((↑r : Int) -
                  takesL
                    (L.getD ((↑i : Int).toNat * [IntKind.i64, IntKind.i64].length + (0 : Nat)) (0 : Int))
                    (L.getD ((↑i : Int).toNat * [IntKind.i64, IntKind.i64].length + (1 : Nat))
                      (0 : Int)))).toNat -
            (0 : Nat) +
          (1 : Nat)) *
        (8 : Nat) ≤
      (140737488355328 : Nat))
      (.all fun x : sym.Grown nl (1 : Nat)
  ((IntKind.i64.wrap
          ((↑r : Int) -
            takesL
              (L.getD ((↑i : Int).toNat * [IntKind.i64, IntKind.i64].length + (0 : Nat)) (0 : Int))
              (L.getD ((↑i : Int).toNat * [IntKind.i64, IntKind.i64].length + (1 : Nat)) (0 : Int)))).toNat -
      (0 : Nat) +
    (1 : Nat)) =>
       (.chk (A = A ∧ [IntKind.i64, IntKind.i64] = [IntKind.i64, IntKind.i64] ∧ L = L ∧ m = m ∧ cap = cap)
       (.chk (IntKind.i64 = IntKind.i64 ∧ (0 : Int) = (0 : Int))
       (.chk (IntKind.i64 = IntKind.i64 ∧ (0 : Int) = (0 : Int))
       (.chk (x.nl' = x.nl' ∧
  [IntKind.i64].length = (1 : Nat) ∧
    (0 : Nat) = (0 : Nat) ∧
      (IntKind.i64.wrap
                  ((↑r : Int) -
                    takesL
                      (L.getD ((↑i : Int).toNat * [IntKind.i64, IntKind.i64].length + (0 : Nat)) (0 : Int))
                      (L.getD ((↑i : Int).toNat * [IntKind.i64, IntKind.i64].length + (1 : Nat))
                        (0 : Int)))).toNat -
              (0 : Nat) +
            (1 : Nat) =
          (IntKind.i64.wrap
                  ((↑r : Int) -
                    takesL
                      (L.getD ((↑i : Int).toNat * [IntKind.i64, IntKind.i64].length + (0 : Nat)) (0 : Int))
                      (L.getD ((↑i : Int).toNat * [IntKind.i64, IntKind.i64].length + (1 : Nat))
                        (0 : Int)))).toNat -
              (0 : Nat) +
            (1 : Nat) ∧
        x.cap = x.cap)
       (.chk (A = A ∧ [IntKind.i64, IntKind.i64] = [IntKind.i64, IntKind.i64] ∧ L = L ∧ m = m ∧ cap = cap)
       (.chk (IntKind.i64 = IntKind.i64 ∧ (↑m : Int) = (↑m : Int))
       (.chk (IntKind.i64 = IntKind.i64 ∧
  IntKind.i64.wrap ((↑i : Int) + (1 : Int)) = (↑(IntKind.i64.wrap ((↑i : Int) + (1 : Int))).toNat : Int))
       (.chk (IntKind.u8 = IntKind.u8 ∧ qa = qa)
       (.chk (IntKind.u8 = IntKind.u8 ∧ qf = qf)
       (.chk (IntKind.u8 = IntKind.u8 ∧ qb = qb)
       (.chk (IntKind.u8 = IntKind.u8 ∧ qc = qc)
       (.chk (IntKind.u8 = IntKind.u8 ∧ qd = qd)
       (.chk (IntKind.u8 = IntKind.u8 ∧ qe = qe)
       (.chk (IntKind.u8 = IntKind.u8 ∧ qh = qh)
       (.chk (IntKind.u8 = IntKind.u8 ∧ ql = ql)
       (.chk (IntKind.u16 = IntKind.u16 ∧ sp = sp)
       (.chk (IntKind.u16 = IntKind.u16 ∧ pc = pc)
       (.chk (IntKind.i64 = IntKind.i64 ∧ ad = ad)
       (.chk (IntKind.i64 = IntKind.i64 ∧ va = va)
       (.chk (IntKind.i64 = IntKind.i64 ∧ ki = ki)
       (.chk (IntKind.i64 = IntKind.i64 ∧ ba = ba)
       (.chk (x.nl' = x.nl' ∧
  [IntKind.i64] = [IntKind.i64] ∧
    List.take
            (((IntKind.i64.wrap
                    ((↑r : Int) -
                      takesL
                        (L.getD ((↑i : Int).toNat * [IntKind.i64, IntKind.i64].length + (0 : Nat)) (0 : Int))
                        (L.getD ((↑i : Int).toNat * [IntKind.i64, IntKind.i64].length + (1 : Nat))
                          (0 : Int)))).toNat -
                (0 : Nat)) *
              [IntKind.i64].length)
            R ++
          [(twoL
                (L.getD ((↑i : Int).toNat * [IntKind.i64, IntKind.i64].length + (0 : Nat)) (0 : Int))
                (R.getD
                  (((0 : Nat) +
                        (IntKind.i64.wrap
                            ((↑r : Int) -
                              takesL
                                (L.getD ((↑i : Int).toNat * [IntKind.i64, IntKind.i64].length + (0 : Nat))
                                  (0 : Int))
                                (L.getD ((↑i : Int).toNat * [IntKind.i64, IntKind.i64].length + (1 : Nat))
                                  (0 : Int)))).toNat) *
                      (1 : Nat) +
                    (0 : Nat))
                  (0 : Int))
                (R.getD
                  (((0 : Nat) +
                        (IntKind.i64.wrap
                            (IntKind.i64.wrap
                                ((↑r : Int) -
                                  takesL
                                    (L.getD ((↑i : Int).toNat * [IntKind.i64, IntKind.i64].length + (0 : Nat))
                                      (0 : Int))
                                    (L.getD ((↑i : Int).toNat * [IntKind.i64, IntKind.i64].length + (1 : Nat))
                                      (0 : Int))) +
                              (1 : Int))).toNat) *
                      (1 : Nat) +
                    (0 : Nat))
                  (0 : Int))).fst] =
        List.take
            (((IntKind.i64.wrap
                    ((↑r : Int) -
                      takesL
                        (L.getD ((↑i : Int).toNat * [IntKind.i64, IntKind.i64].length + (0 : Nat)) (0 : Int))
                        (L.getD ((↑i : Int).toNat * [IntKind.i64, IntKind.i64].length + (1 : Nat))
                          (0 : Int)))).toNat -
                (0 : Nat)) *
              [IntKind.i64].length)
            R ++
          [(twoL
                (L.getD ((↑i : Int).toNat * [IntKind.i64, IntKind.i64].length + (0 : Nat)) (0 : Int))
                (R.getD
                  (((0 : Nat) +
                        (IntKind.i64.wrap
                            ((↑r : Int) -
                              takesL
                                (L.getD ((↑i : Int).toNat * [IntKind.i64, IntKind.i64].length + (0 : Nat))
                                  (0 : Int))
                                (L.getD ((↑i : Int).toNat * [IntKind.i64, IntKind.i64].length + (1 : Nat))
                                  (0 : Int)))).toNat) *
                      (1 : Nat) +
                    (0 : Nat))
                  (0 : Int))
                (R.getD
                  (((0 : Nat) +
                        (IntKind.i64.wrap
                            (IntKind.i64.wrap
                                ((↑r : Int) -
                                  takesL
                                    (L.getD ((↑i : Int).toNat * [IntKind.i64, IntKind.i64].length + (0 : Nat))
                                      (0 : Int))
                                    (L.getD ((↑i : Int).toNat * [IntKind.i64, IntKind.i64].length + (1 : Nat))
                                      (0 : Int))) +
                              (1 : Int))).toNat) *
                      (1 : Nat) +
                    (0 : Nat))
                  (0 : Int))).fst] ∧
      x.cap = x.cap)
       (.leaf (.inl ⟨List.take
    (((IntKind.i64.wrap
            ((↑r : Int) -
              takesL
                (L.getD ((↑i : Int).toNat * [IntKind.i64, IntKind.i64].length + (0 : Nat)) (0 : Int))
                (L.getD ((↑i : Int).toNat * [IntKind.i64, IntKind.i64].length + (1 : Nat)) (0 : Int)))).toNat -
        (0 : Nat)) *
      [IntKind.i64].length)
    R ++
  [(twoL
        (L.getD ((↑i : Int).toNat * [IntKind.i64, IntKind.i64].length + (0 : Nat)) (0 : Int))
        (R.getD
          (((0 : Nat) +
                (IntKind.i64.wrap
                    ((↑r : Int) -
                      takesL
                        (L.getD ((↑i : Int).toNat * [IntKind.i64, IntKind.i64].length + (0 : Nat)) (0 : Int))
                        (L.getD ((↑i : Int).toNat * [IntKind.i64, IntKind.i64].length + (1 : Nat))
                          (0 : Int)))).toNat) *
              (1 : Nat) +
            (0 : Nat))
          (0 : Int))
        (R.getD
          (((0 : Nat) +
                (IntKind.i64.wrap
                    (IntKind.i64.wrap
                        ((↑r : Int) -
                          takesL
                            (L.getD ((↑i : Int).toNat * [IntKind.i64, IntKind.i64].length + (0 : Nat)) (0 : Int))
                            (L.getD ((↑i : Int).toNat * [IntKind.i64, IntKind.i64].length + (1 : Nat))
                              (0 : Int))) +
                      (1 : Int))).toNat) *
              (1 : Nat) +
            (0 : Nat))
          (0 : Int))).fst], (IntKind.i64.wrap
        ((↑r : Int) -
          takesL
            (L.getD ((↑i : Int).toNat * [IntKind.i64, IntKind.i64].length + (0 : Nat)) (0 : Int))
            (L.getD ((↑i : Int).toNat * [IntKind.i64, IntKind.i64].length + (1 : Nat)) (0 : Int)))).toNat -
    (0 : Nat) +
  (1 : Nat), x.nl', x.cap, (IntKind.i64.wrap ((↑i : Int) + (1 : Int))).toNat⟩))))))))))))))))))))))))))))))))))))))
 (.chk (IntKind.i64 = IntKind.i64 ∧ (0 : Int) = (0 : Int))
 (.chk (IntKind.i64 = IntKind.i64 ∧ (0 : Int) = (0 : Int))
 (.chk (nl = nl ∧ (1 : Nat) = (1 : Nat) ∧ (0 : Nat) = (0 : Nat) ∧ r = r ∧ d = d)
 (.chk (IntKind.u8 = IntKind.u8 ∧ qa = qa)
 (.chk (IntKind.u8 = IntKind.u8 ∧ qf = qf)
 (.chk (IntKind.u8 = IntKind.u8 ∧ qb = qb)
 (.chk (IntKind.u8 = IntKind.u8 ∧ qc = qc)
 (.chk (IntKind.u8 = IntKind.u8 ∧ qd = qd)
 (.chk (IntKind.u8 = IntKind.u8 ∧ qe = qe)
 (.chk (IntKind.u8 = IntKind.u8 ∧ qh = qh)
 (.chk (IntKind.u8 = IntKind.u8 ∧ ql = ql)
 (.chk (IntKind.u16 = IntKind.u16 ∧ sp = sp)
 (.chk (IntKind.u16 = IntKind.u16 ∧ pc = pc)
 (.chk (IntKind.i64 = IntKind.i64 ∧ ad = ad)
 (.chk (IntKind.i64 = IntKind.i64 ∧ va = va)
 (.chk (IntKind.i64 = IntKind.i64 ∧ ki = ki)
 (.chk (IntKind.i64 = IntKind.i64 ∧ ba = ba)
 (.chk (nl = nl ∧ [IntKind.i64] = [IntKind.i64] ∧ R = R ∧ d = d)
 (.leaf (.inr (.inl ⟨R, r, nl, d⟩)))))))))))))))))))))) := by kernel_rfl
def ruMu (A : Option Addr) (L : List Int) (m cap : Nat) (qa qf qb qc qd qe qh ql sp pc : Int) (ad va ki ba : Int) (p : ruP) (x : ruX) : Nat := m - x.i
set_option maxHeartbeats 1000000 in
theorem ru_step (w : World) (A : Option Addr) (L : List Int) (m cap : Nat) (qa qf qb qc qd qe qh ql sp pc : Int) (ad va ki ba : Int) (p : ruP) (x : ruX) (hX : XR w A [.i64, .i64] L m) (hc : m ≤ cap) (h : ruInv A L m cap qa qf qb qc qd qe qh ql sp pc ad va ki ba p x) : Hid (roundT Try.prog w (flatT Try.prog) (ctrOf etab2) (callT Try.prog w (flatT Try.prog) (ctrOf etab2) (noPre) (noLoop) 20) ((noLoop) 10) (roundOf (bodyAt Try.prog 10 0)) 0 1 ruRo ruRf ruRb (ruSt A L m cap qa qf qb qc qd qe qh ql sp pc ad va ki ba p) (ruFin A L m cap qa qf qb qc qd qe qh ql sp pc ad va ki ba p) (ruBck A L m cap qa qf qb qc qd qe qh ql sp pc ad va ki ba p) ruNxX ruNxY ruNxZ x) (Kept (ruInv A L m cap qa qf qb qc qd qe qh ql sp pc ad va ki ba p) (ruPost A L m cap qa qf qb qc qd qe qh ql sp pc ad va ki ba p) (ruBack A L m cap qa qf qb qc qd qe qh ql sp pc ad va ki ba p) (ruMu A L m cap qa qf qb qc qd qe qh ql sp pc ad va ki ba p) x) := by
  obtain ⟨⟩ := p
  obtain ⟨R, r, nl, d, i⟩ := x
  constructor
  rw [rustep_tree]
  simp only [T.holds, Kept, ruMu, and_self, true_and, and_true]
  obtain ⟨i1, big, rl, rd, nil, ri, eq⟩ := h
  simp only at i1 big rl rd nil ri eq
  have hl : L.length = m * 2 := hX.1
  simp only [T.holds, List.length_singleton, show [IntKind.i64, IntKind.i64].length = 2 from rfl, Int.toNat_natCast, Nat.mul_one, Nat.sub_zero, Nat.zero_add, Nat.add_zero, Nat.zero_mul, sym.cutO, ite_self, true_and, and_true, and_self, decide_eq_true_eq, decide_eq_false_iff_not, bne_iff_ne, ne_eq, Bool.not_eq_true, bne_eq_false_iff_eq, not_true_eq_false, false_implies, true_implies, beq_iff_eq, beq_eq_false_iff_ne]
  refine ⟨fun hlt => ?_, fun hge => ⟨rl, rd, nil, ?_⟩⟩
  · have hlt : i < m := by omega
    have wi : IntKind.i64.wrap ((i : Int) + 1) = ((i + 1 : Nat) : Int) := by rw [wi64 _ (by omega) (by omega)]; omega
    rw [evalL_at _ _ (by omega)] at eq
    refine ⟨⟨hX, by omega, by omega, by decide⟩, ⟨hX.2, by decide, by omega⟩, ?_⟩
    have ht := takes_in (L.getD (i * 2) 0) (L.getD (i * 2 + 1) 0)
    have hn := @takes_name (L.getD (i * 2 + 1) 0)
    generalize L.getD (i * 2) 0 = op at *
    generalize L.getD (i * 2 + 1) 0 = n at *
    rw [rl] at eq
    rw [wi]
    refine ⟨fun h1 => ⟨by rw [if_pos (.inl h1)] at eq; exact eq.symm⟩, fun h1 => ?_⟩
    have wk : IntKind.i64.wrap ((r : Int) - takesL op n) = (r : Int) - takesL op n := wi64 _ (by omega) (by omega)
    rw [wk]
    refine ⟨fun h2 => ⟨by rw [if_pos (.inr (by omega))] at eq; exact eq.symm⟩, fun h2 => ?_⟩
    rw [if_neg (by omega)] at eq
    obtain ⟨k, hk⟩ : ∃ k : Nat, (r : Int) - takesL op n = k := ⟨((r : Int) - takesL op n).toNat, by omega⟩
    rw [hk]
    simp only [Int.toNat_natCast]
    refine ⟨fun h3 => ?_, fun h3 => ?_⟩
    · have hkr : k = r := by omega
      have hT : R.take k = R := List.take_of_length_le (by omega)
      rw [if_pos h3] at eq
      refine ⟨fun h4 => ?_, fun h4 => ?_⟩
      · rw [if_pos h4] at eq
        subst h4
        exact ⟨hn h3, ⟨by omega, by omega, by omega⟩, ⟨⟨by omega, by omega, rd.2, fun e => (nil e).2⟩, by omega⟩, fun g => ⟨trivial, ⟨by show i + 1 ≤ m; omega, big, take_last (by omega) _, ⟨g.le, g.max⟩, (rowR g).nil, by show k + 1 ≤ i + 1; omega, by show evalL _ _ _ (R.take k ++ _) = _; rw [hT]; exact eq⟩, by omega⟩⟩
      · rw [if_neg h4] at eq
        exact ⟨⟨by omega, by omega, by omega⟩, ⟨⟨by omega, by omega, rd.2, fun e => (nil e).2⟩, by omega⟩, fun g => ⟨trivial, ⟨by show i + 1 ≤ m; omega, big, take_last (by omega) _, ⟨g.le, g.max⟩, (rowR g).nil, by show k + 1 ≤ i + 1; omega, by show evalL _ _ _ (R.take k ++ _) = _; rw [hT]; exact eq⟩, by omega⟩⟩
    · rw [if_neg h3] at eq
      refine ⟨fun h4 => ?_, fun h4 => ?_⟩
      · have hkr : k = r - 1 := by omega
        subst hkr
        rw [if_pos h4] at eq
        have hnl : nl = false := by
          cases nl with
          | false => rfl
          | true => have := (nil rfl).1; omega
        exact ⟨⟨hnl, by omega, by omega⟩, ⟨hnl, by omega⟩, ⟨by omega, by omega, by omega⟩, ⟨⟨by omega, by omega, rd.2, fun e => (nil e).2⟩, by omega⟩, fun g => ⟨trivial, ⟨by show i + 1 ≤ m; omega, big, take_last (by omega) _, ⟨g.le, g.max⟩, (rowR g).nil, by show r - 1 + 1 ≤ i + 1; omega, eq⟩, by omega⟩⟩
      · rw [if_neg h4] at eq
        have hkr : k = r - 2 := by omega
        have hnl : nl = false := by
          cases nl with
          | false => rfl
          | true => have := (nil rfl).1; omega
        have wk1 : IntKind.i64.wrap ((k : Int) + 1) = ((k + 1 : Nat) : Int) := by rw [wi64 _ (by omega) (by omega)]; omega
        rw [wk1, Int.toNat_natCast]
        rw [show r - 2 = k by omega, show r - 1 = k + 1 by omega] at eq
        refine ⟨⟨hnl, by omega, by omega⟩, ⟨hnl, by omega⟩, ⟨hnl, by omega, by omega⟩, ⟨hnl, by omega⟩, fun h5 => ⟨?_⟩, fun h5 => ?_⟩
        · rw [if_pos h5] at eq
          exact eq.symm
        · rw [if_neg (by intro h; exact h h5)] at eq
          exact ⟨⟨by omega, by omega, by omega⟩, ⟨⟨by omega, by omega, rd.2, fun e => (nil e).2⟩, by omega⟩, fun g => ⟨trivial, ⟨by show i + 1 ≤ m; omega, big, take_last (by omega) _, ⟨g.le, g.max⟩, (rowR g).nil, by show k + 1 ≤ i + 1; omega, eq⟩, by omega⟩⟩
  · have : L.drop (i * 2) = [] := List.drop_of_length_le (by omega)
    rw [this] at eq
    exact eq
theorem ruLp_ok (w : World) (A : Option Addr) (L : List Int) (m cap : Nat) (qa qf qb qc qd qe qh ql sp pc : Int) (ad va ki ba : Int) (hX : XR w A [.i64, .i64] L m) (hc : m ≤ cap) : (ruLp A L m cap qa qf qb qc qd qe qh ql sp pc ad va ki ba).ok Try.prog w := by
  intro s t h
  unfold ruLp at h
  simp only at h
  split at h
  · rename_i p _
    split at h
    · rename_i x _
      cases h
      exact loop_ok base2 (etab2_ok w) (callT_ok base2.mixed base2.names base2.eqs (etab2_ok w).ok (etab2_ok w).there (pre_none _ _) (loops_none _ _) 20) ((loops_none _ _) 10) (c := roundOf (bodyAt Try.prog 10 0)) (by kernel_rfl) (id := 0) (n := 1) (hr := true) (ro := ruRo) (rf := ruRf) (rr := ruRb) (st := ruSt A L m cap qa qf qb qc qd qe qh ql sp pc ad va ki ba p) (fin := ruFin A L m cap qa qf qb qc qd qe qh ql sp pc ad va ki ba p) (bck := ruBck A L m cap qa qf qb qc qd qe qh ql sp pc ad va ki ba p) (inv := ruInv A L m cap qa qf qb qc qd qe qh ql sp pc ad va ki ba p) (post := ruPost A L m cap qa qf qb qc qd qe qh ql sp pc ad va ki ba p) (back := ruBack A L m cap qa qf qb qc qd qe qh ql sp pc ad va ki ba p) (nx := ruNxX) (fx := ruNxY) (bx := ruNxZ) (ruMu A L m cap qa qf qb qc qd qe qh ql sp pc ad va ki ba p) (nf := 2) (nf' := 2) (nf'' := 1) (fun x => by kernel_rfl) (fun y => by kernel_rfl) (fun z => by kernel_rfl) (.inl rfl) (fun x hx => ru_step w A L m cap qa qf qb qc qd qe qh ql sp pc ad va ki ba p x hX hc hx) s x
    · cases h
  · cases h
theorem run_tree (w : World) (A : Option Addr) (L : List Int) (m cap : Nat) (qa qf qb qc qd qe qh ql sp pc : Int) (ad va ki ba : Int) :
    callT Try.prog w (flatT Try.prog) (ctrOf etab2) (noPre) (lpOf Try.prog [ruLp A L m cap qa qf qb qc qd qe qh ql sp pc ad va ki ba]) 20 10 [.v (.one (.xr A [.i64, .i64] L m cap)), .v (.agg [.int false .u8 qa, .int false .u8 qf, .int false .u8 qb, .int false .u8 qc, .int false .u8 qd, .int false .u8 qe, .int false .u8 qh, .int false .u8 ql, .int false .u16 sp, .int false .u16 pc, .int false .i64 ad, .int false .i64 va, .int false .i64 ki, .int false .i64 ba, .nilfn])] [] =
(.chk (sym.textAt Go.Proofs.Try.prog (10 : Go.FuncId) (0 : Nat) = sym.textAt Go.Proofs.Try.prog (10 : Go.FuncId) (0 : Nat))
(.chk (A = A ∧ [IntKind.i64, IntKind.i64] = [IntKind.i64, IntKind.i64] ∧ L = L ∧ m = m ∧ cap = cap)
(.chk (IntKind.i64 = IntKind.i64 ∧ (0 : Int) = (0 : Int))
(.chk (IntKind.i64 = IntKind.i64 ∧ (0 : Int) = (0 : Int))
(.chk (true = true ∧ (0 : Nat) = (0 : Nat) ∧ (0 : Nat) = (0 : Nat))
(.chk (A = A ∧ [IntKind.i64, IntKind.i64] = [IntKind.i64, IntKind.i64] ∧ L = L ∧ m = m ∧ cap = cap)
(.chk (IntKind.i64 = IntKind.i64 ∧ (↑m : Int) = (↑m : Int))
(.chk (IntKind.i64 = IntKind.i64 ∧ (0 : Int) = (0 : Int))
(.chk (IntKind.u8 = IntKind.u8 ∧ qa = qa)
(.chk (IntKind.u8 = IntKind.u8 ∧ qf = qf)
(.chk (IntKind.u8 = IntKind.u8 ∧ qb = qb)
(.chk (IntKind.u8 = IntKind.u8 ∧ qc = qc)
(.chk (IntKind.u8 = IntKind.u8 ∧ qd = qd)
(.chk (IntKind.u8 = IntKind.u8 ∧ qe = qe)
(.chk (IntKind.u8 = IntKind.u8 ∧ qh = qh)
(.chk (IntKind.u8 = IntKind.u8 ∧ ql = ql)
(.chk (IntKind.u16 = IntKind.u16 ∧ sp = sp)
(.chk (IntKind.u16 = IntKind.u16 ∧ pc = pc)
(.chk (IntKind.i64 = IntKind.i64 ∧ ad = ad)
(.chk (IntKind.i64 = IntKind.i64 ∧ va = va)
(.chk (IntKind.i64 = IntKind.i64 ∧ ki = ki)
(.chk (IntKind.i64 = IntKind.i64 ∧ ba = ba)
(.chk (true = true ∧ ([] : List Int) = [])
(.chk (ruInv A L m cap qa qf qb qc qd qe qh ql sp pc ad va ki ba { }
  { R := [], r := (0 : Nat), nl := true, d := (0 : Nat), i := (0 : Nat) })
(.all fun x : Bool =>
 (.br (x)
  (.all fun x_1 : sym.Got ruY
  (ruPost A L m cap qa qf qb qc qd qe qh ql sp pc ad va ki ba { }) =>
   (.br ((↑x_1.1.2 : Int) != (1 : Int))
    (.leaf ((.tuple [(.one (.int true .i64 (0))), (.one (.int true .i64 (5)))]), [⟨[(.int false .u8 (qa)), (.int false .u8 (qf)), (.int false .u8 (qb)), (.int false .u8 (qc)), (.int false .u8 (qd)), (.int false .u8 (qe)), (.int false .u8 (qh)), (.int false .u8 (ql)), (.int false .u16 (sp)), (.int false .u16 (pc)), (.int false .i64 (ad)), (.int false .i64 (va)), (.int false .i64 (ki)), (.int false .i64 (ba)), .nilfn], 38⟩, ⟨[(.row (x_1.1.3) ([IntKind.i64]) (x_1.1.1) (x_1.1.4))], 3⟩]))
    (.chk (x_1.1.3 = false ∧ (0 : Int) ≤ (0 : Int) ∧ (0 : Int) < (↑x_1.1.2 : Int))
    (.chk (x_1.1.3 = false ∧ (1 : Nat) ≤ x_1.1.1.length)
    (.leaf ((.tuple [(.one (.int false .i64 (x_1.1.1.getD (0 : Nat) (0 : Int)))), (.one (.int true .i64 (0)))]), [⟨[(.int false .u8 (qa)), (.int false .u8 (qf)), (.int false .u8 (qb)), (.int false .u8 (qc)), (.int false .u8 (qd)), (.int false .u8 (qe)), (.int false .u8 (qh)), (.int false .u8 (ql)), (.int false .u16 (sp)), (.int false .u16 (pc)), (.int false .i64 (ad)), (.int false .i64 (va)), (.int false .i64 (ki)), (.int false .i64 (ba)), .nilfn], 38⟩, ⟨[(.row (x_1.1.3) ([IntKind.i64]) (x_1.1.1) (x_1.1.4))], 3⟩]))))))
  (.all fun x_1 : sym.Got ruZ
  (ruBack A L m cap qa qf qb qc qd qe qh ql sp pc ad va ki ba { }) =>
   (.leaf ((.tuple [(.one (.int true .i64 (0))), (.one (.int false .i64 (x_1.1.1)))]), [⟨[.dead], 38⟩]))))))))))))))))))))))))))))) := by kernel_rfl
def runC : RCtr := ⟨10, [some [.i64, .i64], none], fun | [.row [.i64, .i64] m L, .av (.v (.agg [.int _ .u8 qa, .int _ .u8 qf, .int _ .u8 qb, .int _ .u8 qc, .int _ .u8 qd, .int _ .u8 qe, .int _ .u8 qh, .int _ .u8 ql, .int _ .u16 sp, .int _ .u16 pc, .int _ .i64 ad, .int _ .i64 va, .int _ .i64 ki, .int _ .i64 ba, .nilfn]))] => some (.chk (m ≤ 1000000) (.leaf [.av (.one (.int false .i64 (evalL (nameL qa qf qb qc qd qe qh ql sp pc ad va ki ba) F0 L []).1)), .av (.one (.int false .i64 (evalL (nameL qa qf qb qc qd qe qh ql sp pc ad va ki ba) F0 L []).2))])) | _ => none⟩
theorem runC_ok (w0 : World) : runC.Ok Try.prog w0 := by
  refine rctr_ok base2 ⟨_, Try.func10, rfl⟩ (ctr := fun w => ctrOf etab2) w0 (fun w _ => etab2_ok w) (pre := fun w => noPre) (fun w _ => pre_none _ w) (n := 20) fun w hw0 cas args t h ha K hK => ?_
  unfold runC at h
  simp only at h
  split at h
  · cases h
    obtain ⟨y0, y1, rfl, q0, q1⟩ := all2_2 ha
    obtain ⟨A, c, rfl, hX, hc⟩ := argRow q0
    obtain ⟨rfl, o1⟩ := argAv q1
    rename_i m L _ qa _ qf _ qb _ qc _ qd _ qe _ qh _ ql _ sp _ pc _ ad _ va _ ki _ ba
    obtain ⟨big, hK⟩ := hK
    refine ⟨lpOf Try.prog [ruLp A L m c qa qf qb qc qd qe qh ql sp pc ad va ki ba], lps_ok fun l hl => ?_, ?_⟩
    · simp only [List.mem_cons, List.not_mem_nil, or_false] at hl
      subst hl
      exact ruLp_ok w _ _ _ _ _ _ _ _ _ _ _ _ _ _ _ _ _ _ hX hc
    show T.holds (callT Try.prog w (flatT Try.prog) (ctrOf etab2) noPre _ 20 10 [_, .v (.agg [.int false .u8 qa, .int false .u8 qf, .int false .u8 qb, .int false .u8 qc, .int false .u8 qd, .int false .u8 qe, .int false .u8 qh, .int false .u8 ql, .int false .u16 sp, .int false .u16 pc, .int false .i64 ad, .int false .i64 va, .int false .i64 ki, .int false .i64 ba, .nilfn])] []) _
    rw [run_tree]
    simp only [T.holds, true_and, and_true, and_self]
    have fin : ∀ R : List Int, evalL (nameL qa qf qb qc qd qe qh ql sp pc ad va ki ba) F0 [] R = if R.length = 1 then (R.getD 0 0, 0) else (0, 5) := fun R => rfl
    refine ⟨⟨Nat.zero_le _, big, rfl, ⟨Nat.le_refl _, by decide⟩, fun _ => ⟨rfl, rfl⟩, Nat.le_refl _, rfl⟩, fun x => ⟨fun _ y => ⟨fun h => ?_, fun h => ?_⟩, fun _ y => ?_⟩⟩
    · have e := y.so.eq
      have hl := y.so.rl
      have h : ¬ y.it.r = 1 := by intro h1; rw [h1] at h; exact absurd h (by decide)
      rw [fin, if_neg (by omega)] at e
      rw [← e] at hK
      exact ⟨_, [_, _], hK, rfl, .cons (.av rfl fun _ => rfl) (.cons (.av rfl fun _ => rfl) .nil)⟩
    · have e := y.so.eq
      have hl := y.so.rl
      have h : (y.it.r : Int) = 1 := by simpa using h
      have h : y.it.r = 1 := by omega
      have hnl : y.it.nl = false := by
        cases hh : y.it.nl with
        | false => rfl
        | true => have := (y.so.nil hh).1; omega
      rw [fin, if_pos (by omega)] at e
      rw [← e] at hK
      exact ⟨⟨hnl, by decide, by omega⟩, ⟨hnl, by omega⟩, _, [_, _], hK, rfl, .cons (.av rfl fun _ => rfl) (.cons (.av rfl fun _ => rfl) .nil)⟩
    · have e := y.so.eq
      rw [e] at hK
      exact ⟨_, [_, _], hK, rfl, .cons (.av rfl fun _ => rfl) (.cons (.av rfl fun _ => rfl) .nil)⟩
  · cases h
end Go.Proofs.Ytmbahohmiecfiaa
