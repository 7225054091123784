/-
  The contract of what orders come to, with a function that notes what is asked for. Rows have at most 1000000 orders.
-/
import Derived.Test.YtmbahohmiecfiaaR16
namespace Go.Proofs.Ytmbahohmiecfiaa
open Go.RowKit sym
set_option linter.unusedVariables false
set_option linter.unusedSimpArgs false
set_option maxRecDepth 100000
def askT : List Ctr := [takesC, twoC]
def runA (w0 : World) : FCtr := ⟨10, fun args h => match args, h with
  | [.v (.one (.gs 1 ln 2 0 m cap)), .v (.agg cs)], [⟨[.row ln' [.i64, .i64] L cap'], 50⟩, ⟨[.nos], 47⟩, ⟨es, 28⟩] => match envA 2 3 cs, envX es with
    | some q, some e => some (.chk ((ln' = ln ∧ cap' = cap) ∧ XR w0 e.AB [.u8] e.Bx e.nb ∧ (L.length = m * 2 ∧ m ≤ cap ∧ (ln = true → m = 0)) ∧ m ≤ 1000000) (.all fun r : RowR (asksL q.nm (pkL e.Bx e.nb) L []).length => .leaf (.tuple [.one (.int false .i64 (evalL q.nm (pkL e.Bx e.nb) L []).1), .one (.int false .i64 (evalL q.nm (pkL e.Bx e.nb) L []).2)], [⟨[.row ln [.i64, .i64] L cap], 50⟩, ⟨[.gs 4 r.nl 1 0 (asksL q.nm (pkL e.Bx e.nb) L []).length r.cap], 47⟩, e.blk, ⟨[.row r.nl [.u16] (asksL q.nm (pkL e.Bx e.nb) L []) r.cap], 23⟩])))
    | _, _ => none
  | _, _ => none⟩
structure raP where
structure raX where
  R : List Int
  r : Nat
  nl : Bool
  d : Nat
  Q : List Int
  ak : Nat
  an : Bool
  ac : Nat
  i : Nat
structure raY where
  R : List Int
  r : Nat
  nl : Bool
  d : Nat
  Q : List Int
  ak : Nat
  an : Bool
  ac : Nat
structure raZ where
  er : Int
  Q : List Int
  ak : Nat
  an : Bool
  ac : Nat
def raSt (LK : Nat → Option Obj) (O : Nat → Bool) (ln : Bool) (L : List Int) (m cap : Nat) (qa qf qb qc qd qe qh ql sp pc : Int) (ad va ki ba : Int) (eqa eqf eqb eqc eqd eqe eqh eql esp epc ead eva eki eba : Int) (AB : Option Addr) (Bx : List Int) (nb cb : Nat) : raP → raX → ASt := fun ⟨⟩ ⟨R, r, nl, d, Q, ak, an, ac, i⟩ => ⟨slots (List.replicate 84 .any) [(0, .v (.one (.gs 1 ln 2 0 m cap))), (3, .v (.one (.ptr 4 0))), (4, .v (.one (.int true .i64 0))), (5, .v (.one (.int true .i64 0))), (6, .v (.one (.gs 5 nl 1 0 r d))), (13, .v (.one (.gs 1 ln 2 0 m cap))), (14, .v (.one (.int false .i64 (m : Int)))), (15, .v (.one (.int false .i64 (i : Int))))], [⟨[.keep LK O], 0⟩, ⟨[.row ln [.i64, .i64] L cap], 50⟩, ⟨[.gs 6 an 1 0 ak ac], 47⟩, ⟨[.int false .u8 eqa, .int false .u8 eqf, .int false .u8 eqb, .int false .u8 eqc, .int false .u8 eqd, .int false .u8 eqe, .int false .u8 eqh, .int false .u8 eql, .int false .u16 esp, .int false .u16 epc, .int false .i64 ead, .int false .i64 eva, .int false .i64 eki, .int false .i64 eba, .xr AB [.u8] Bx nb cb], 28⟩, ⟨[.int false .u8 qa, .int false .u8 qf, .int false .u8 qb, .int false .u8 qc, .int false .u8 qd, .int false .u8 qe, .int false .u8 qh, .int false .u8 ql, .int false .u16 sp, .int false .u16 pc, .int false .i64 ad, .int false .i64 va, .int false .i64 ki, .int false .i64 ba, .fn 16 [(2, 0), (3, 0)]], 38⟩, ⟨[.row nl [.i64] R d], 3⟩, ⟨[.row an [.u16] Q ac], 23⟩]⟩
def raFin (LK : Nat → Option Obj) (O : Nat → Bool) (ln : Bool) (L : List Int) (m cap : Nat) (qa qf qb qc qd qe qh ql sp pc : Int) (ad va ki ba : Int) (eqa eqf eqb eqc eqd eqe eqh eql esp epc ead eva eki eba : Int) (AB : Option Addr) (Bx : List Int) (nb cb : Nat) : raP → raY → ASt := fun ⟨⟩ ⟨R, r, nl, d, Q, ak, an, ac⟩ => ⟨slots (List.replicate 84 .any) [(4, .v (.one (.int true .i64 0))), (5, .v (.one (.int true .i64 0))), (6, .v (.one (.gs 5 nl 1 0 r d)))], [⟨[.keep LK O], 0⟩, ⟨[.row ln [.i64, .i64] L cap], 50⟩, ⟨[.gs 6 an 1 0 ak ac], 47⟩, ⟨[.int false .u8 eqa, .int false .u8 eqf, .int false .u8 eqb, .int false .u8 eqc, .int false .u8 eqd, .int false .u8 eqe, .int false .u8 eqh, .int false .u8 eql, .int false .u16 esp, .int false .u16 epc, .int false .i64 ead, .int false .i64 eva, .int false .i64 eki, .int false .i64 eba, .xr AB [.u8] Bx nb cb], 28⟩, ⟨[.int false .u8 qa, .int false .u8 qf, .int false .u8 qb, .int false .u8 qc, .int false .u8 qd, .int false .u8 qe, .int false .u8 qh, .int false .u8 ql, .int false .u16 sp, .int false .u16 pc, .int false .i64 ad, .int false .i64 va, .int false .i64 ki, .int false .i64 ba, .fn 16 [(2, 0), (3, 0)]], 38⟩, ⟨[.row nl [.i64] R d], 3⟩, ⟨[.row an [.u16] Q ac], 23⟩]⟩
def raBck (LK : Nat → Option Obj) (O : Nat → Bool) (ln : Bool) (L : List Int) (m cap : Nat) (qa qf qb qc qd qe qh ql sp pc : Int) (ad va ki ba : Int) (eqa eqf eqb eqc eqd eqe eqh eql esp epc ead eva eki eba : Int) (AB : Option Addr) (Bx : List Int) (nb cb : Nat) : raP → raZ → ASt := fun ⟨⟩ ⟨er, Q, ak, an, ac⟩ => ⟨slots (List.replicate 84 .any) [(4, .v (.one (.int true .i64 0))), (5, .v (.one (.int false .i64 er)))], [⟨[.keep LK O], 0⟩, ⟨[.row ln [.i64, .i64] L cap], 50⟩, ⟨[.gs 5 an 1 0 ak ac], 47⟩, ⟨[.int false .u8 eqa, .int false .u8 eqf, .int false .u8 eqb, .int false .u8 eqc, .int false .u8 eqd, .int false .u8 eqe, .int false .u8 eqh, .int false .u8 eql, .int false .u16 esp, .int false .u16 epc, .int false .i64 ead, .int false .i64 eva, .int false .i64 eki, .int false .i64 eba, .xr AB [.u8] Bx nb cb], 28⟩, ⟨[.dead], 38⟩, ⟨[.row an [.u16] Q ac], 23⟩]⟩
def raNxP : ASt → Option raP := fun s => some ⟨⟩
def raNxX : ASt → Option raX := fun s => match sym.gX s 6 with | none => none | some R => match sym.gL s 6 with | none => none | some r => match sym.gN s 6 with | none => none | some nl => match sym.gC s 6 with | none => none | some d => match hgX s 2 0 with | none => none | some Q => match hgL s 2 0 with | none => none | some ak => match hgN s 2 0 with | none => none | some an => match hgC s 2 0 with | none => none | some ac => match (sym.gI s 15).map Int.toNat with | none => none | some i => some ⟨R, r, nl, d, Q, ak, an, ac, i⟩
def raNxY : ASt → Option raY := fun s => match sym.gX s 6 with | none => none | some R => match sym.gL s 6 with | none => none | some r => match sym.gN s 6 with | none => none | some nl => match sym.gC s 6 with | none => none | some d => match hgX s 2 0 with | none => none | some Q => match hgL s 2 0 with | none => none | some ak => match hgN s 2 0 with | none => none | some an => match hgC s 2 0 with | none => none | some ac => some ⟨R, r, nl, d, Q, ak, an, ac⟩
def raNxZ : ASt → Option raZ := fun s => match sym.gI s 5 with | none => none | some er => match hgX s 2 0 with | none => none | some Q => match hgL s 2 0 with | none => none | some ak => match hgN s 2 0 with | none => none | some an => match hgC s 2 0 with | none => none | some ac => some ⟨er, Q, ak, an, ac⟩
def raRo : ASt → List (Option Nat) := (fun s => [sym.rowAt s 6, sym.rowIn s 2 0])
def raRf : ASt → List (Option Nat) := (fun s => [sym.rowAt s 6, sym.rowIn s 2 0])
def raRb : ASt → List (Option Nat) := (fun s => [sym.rowIn s 2 0])
structure raInv (LK : Nat → Option Obj) (O : Nat → Bool) (ln : Bool) (L : List Int) (m cap : Nat) (qa qf qb qc qd qe qh ql sp pc : Int) (ad va ki ba : Int) (eqa eqf eqb eqc eqd eqe eqh eql esp epc ead eva eki eba : Int) (AB : Option Addr) (Bx : List Int) (nb cb : Nat) (p : raP) (x : raX) : Prop where
  i1 : x.i ≤ m
  big : m ≤ 1000000
  rl : x.R.length = x.r
  rd : x.r ≤ x.d ∧ x.d ≤ maxLen
  nil : x.nl = true → x.r = 0 ∧ x.d = 0
  ri : x.r ≤ x.i
  zl : x.Q.length = x.ak
  zd : x.ak ≤ x.ac ∧ x.ac ≤ maxLen
  zn : x.an = true → x.ak = 0 ∧ x.ac = 0
  zi : x.ak ≤ x.i
  eq : evalL (nameL qa qf qb qc qd qe qh ql sp pc ad va ki ba) (pkL Bx nb) (L.drop (x.i * 2)) x.R = evalL (nameL qa qf qb qc qd qe qh ql sp pc ad va ki ba) (pkL Bx nb) L []
  aq : x.Q ++ asksL (nameL qa qf qb qc qd qe qh ql sp pc ad va ki ba) (pkL Bx nb) (L.drop (x.i * 2)) x.R = asksL (nameL qa qf qb qc qd qe qh ql sp pc ad va ki ba) (pkL Bx nb) L []
structure raPost (LK : Nat → Option Obj) (O : Nat → Bool) (ln : Bool) (L : List Int) (m cap : Nat) (qa qf qb qc qd qe qh ql sp pc : Int) (ad va ki ba : Int) (eqa eqf eqb eqc eqd eqe eqh eql esp epc ead eva eki eba : Int) (AB : Option Addr) (Bx : List Int) (nb cb : Nat) (p : raP) (x : raY) : Prop where
  rl : x.R.length = x.r
  rd : x.r ≤ x.d ∧ x.d ≤ maxLen
  nil : x.nl = true → x.r = 0 ∧ x.d = 0
  zl : x.Q.length = x.ak
  zd : x.ak ≤ x.ac ∧ x.ac ≤ maxLen
  zn : x.an = true → x.ak = 0 ∧ x.ac = 0
  eq : evalL (nameL qa qf qb qc qd qe qh ql sp pc ad va ki ba) (pkL Bx nb) [] x.R = evalL (nameL qa qf qb qc qd qe qh ql sp pc ad va ki ba) (pkL Bx nb) L []
  aq : x.Q = asksL (nameL qa qf qb qc qd qe qh ql sp pc ad va ki ba) (pkL Bx nb) L []
structure raBack (LK : Nat → Option Obj) (O : Nat → Bool) (ln : Bool) (L : List Int) (m cap : Nat) (qa qf qb qc qd qe qh ql sp pc : Int) (ad va ki ba : Int) (eqa eqf eqb eqc eqd eqe eqh eql esp epc ead eva eki eba : Int) (AB : Option Addr) (Bx : List Int) (nb cb : Nat) (p : raP) (x : raZ) : Prop where
  zl : x.Q.length = x.ak
  zd : x.ak ≤ x.ac ∧ x.ac ≤ maxLen
  zn : x.an = true → x.ak = 0 ∧ x.ac = 0
  eq : evalL (nameL qa qf qb qc qd qe qh ql sp pc ad va ki ba) (pkL Bx nb) L [] = (0, x.er)
  aq : x.Q = asksL (nameL qa qf qb qc qd qe qh ql sp pc ad va ki ba) (pkL Bx nb) L []
def raLp (LK : Nat → Option Obj) (O : Nat → Bool) (ln : Bool) (L : List Int) (m cap : Nat) (qa qf qb qc qd qe qh ql sp pc : Int) (ad va ki ba : Int) (eqa eqf eqb eqc eqd eqe eqh eql esp epc ead eva eki eba : Int) (AB : Option Addr) (Bx : List Int) (nb cb : Nat) : Lp := ⟨10, 0, fun s => match raNxP s with
  | some p => match raNxX s with
    | some x => some (loopT 0 5 true raRo (raSt LK O ln L m cap qa qf qb qc qd qe qh ql sp pc ad va ki ba eqa eqf eqb eqc eqd eqe eqh eql esp epc ead eva eki eba AB Bx nb cb p) (raFin LK O ln L m cap qa qf qb qc qd qe qh ql sp pc ad va ki ba eqa eqf eqb eqc eqd eqe eqh eql esp epc ead eva eki eba AB Bx nb cb p) (raBck LK O ln L m cap qa qf qb qc qd qe qh ql sp pc ad va ki ba eqa eqf eqb eqc eqd eqe eqh eql esp epc ead eva eki eba AB Bx nb cb p) (raInv LK O ln L m cap qa qf qb qc qd qe qh ql sp pc ad va ki ba eqa eqf eqb eqc eqd eqe eqh eql esp epc ead eva eki eba AB Bx nb cb p) (raPost LK O ln L m cap qa qf qb qc qd qe qh ql sp pc ad va ki ba eqa eqf eqb eqc eqd eqe eqh eql esp epc ead eva eki eba AB Bx nb cb p) (raBack LK O ln L m cap qa qf qb qc qd qe qh ql sp pc ad va ki ba eqa eqf eqb eqc eqd eqe eqh eql esp epc ead eva eki eba AB Bx nb cb p) s x)
    | none => none
  | none => none⟩
theorem rastep_tree (w : World) (LK : Nat → Option Obj) (O : Nat → Bool) (ln : Bool) (L : List Int) (m cap : Nat) (qa qf qb qc qd qe qh ql sp pc : Int) (ad va ki ba : Int) (eqa eqf eqb eqc eqd eqe eqh eql esp epc ead eva eki eba : Int) (AB : Option Addr) (Bx : List Int) (nb cb : Nat) (R : List Int) (r : Nat) (nl : Bool) (d : Nat) (Q : List Int) (ak : Nat) (an : Bool) (ac : Nat) (i : Nat) :
    roundT Try.prog w (flatT Try.prog) (ctrOf askT) (callT Try.prog w (flatT Try.prog) (ctrOf askT) (fpreOf [nameA, oneA w]) (lpOf Try.prog [mixLp 10 20]) 20) ((lpOf Try.prog [mixLp 10 20]) 10) (roundOf (bodyAt Try.prog 10 0)) 0 5 raRo raRf raRb (raSt LK O ln L m cap qa qf qb qc qd qe qh ql sp pc ad va ki ba eqa eqf eqb eqc eqd eqe eqh eql esp epc ead eva eki eba AB Bx nb cb ⟨⟩) (raFin LK O ln L m cap qa qf qb qc qd qe qh ql sp pc ad va ki ba eqa eqf eqb eqc eqd eqe eqh eql esp epc ead eva eki eba AB Bx nb cb ⟨⟩) (raBck LK O ln L m cap qa qf qb qc qd qe qh ql sp pc ad va ki ba eqa eqf eqb eqc eqd eqe eqh eql esp epc ead eva eki eba AB Bx nb cb ⟨⟩) raNxX raNxY raNxZ ⟨R, r, nl, d, Q, ak, an, ac, i⟩ =
(.br (decide ((↑i : Int) < (↑m : Int)))
 (.chk (ln = false ∧ (0 : Int) ≤ (↑i : Int) ∧ (↑i : Int) < (↑m : Int))
 (.chk (ln = false ∧ ((0 : Nat) + (↑i : Int).toNat) * (2 : Nat) + (2 : Nat) ≤ L.length)
 (.br (decide
  (takesL (L.getD (((0 : Nat) + (↑i : Int).toNat) * (2 : Nat) + (0 : Nat)) (0 : Int))
      (L.getD (((0 : Nat) + (↑i : Int).toNat) * (2 : Nat) + (1 : Nat)) (0 : Int)) <
    (0 : Int)))
 (.chk (IntKind.i64 = IntKind.i64 ∧ (0 : Int) = (0 : Int))
 (.chk (IntKind.i64 = IntKind.i64 ∧ (5 : Int) = (5 : Int))
 (.chk (LK = LK ∧ O = O)
 (.chk (ln = ln ∧ [IntKind.i64, IntKind.i64] = [IntKind.i64, IntKind.i64] ∧ L = L ∧ cap = cap)
 (.chk (an = an ∧ (1 : Nat) = (1 : Nat) ∧ (0 : Nat) = (0 : Nat) ∧ ak = ak ∧ ac = ac)
 (.chk (IntKind.u8 = IntKind.u8 ∧ eqa = eqa)
 (.chk (IntKind.u8 = IntKind.u8 ∧ eqf = eqf)
 (.chk (IntKind.u8 = IntKind.u8 ∧ eqb = eqb)
 (.chk (IntKind.u8 = IntKind.u8 ∧ eqc = eqc)
 (.chk (IntKind.u8 = IntKind.u8 ∧ eqd = eqd)
 (.chk (IntKind.u8 = IntKind.u8 ∧ eqe = eqe)
 (.chk (IntKind.u8 = IntKind.u8 ∧ eqh = eqh)
 (.chk (IntKind.u8 = IntKind.u8 ∧ eql = eql)
 (.chk (IntKind.u16 = IntKind.u16 ∧ esp = esp)
 (.chk (IntKind.u16 = IntKind.u16 ∧ epc = epc)
 (.chk (IntKind.i64 = IntKind.i64 ∧ ead = ead)
 (.chk (IntKind.i64 = IntKind.i64 ∧ eva = eva)
 (.chk (IntKind.i64 = IntKind.i64 ∧ eki = eki)
 (.chk (IntKind.i64 = IntKind.i64 ∧ eba = eba)
 (.chk (AB = AB ∧ [IntKind.u8] = [IntKind.u8] ∧ Bx = Bx ∧ nb = nb ∧ cb = cb)
 (.chk (an = an ∧ [IntKind.u16] = [IntKind.u16] ∧ Q = Q ∧ ac = ac)
 (.leaf (.inr (.inr ⟨(5 : Int), Q, ak, an, ac⟩))))))))))))))))))))))))
 (.br (decide
  (IntKind.i64.wrap
      ((↑r : Int) -
        takesL (L.getD (((0 : Nat) + (↑i : Int).toNat) * (2 : Nat) + (0 : Nat)) (0 : Int))
          (L.getD (((0 : Nat) + (↑i : Int).toNat) * (2 : Nat) + (1 : Nat)) (0 : Int))) <
    (0 : Int)))
 (.chk (IntKind.i64 = IntKind.i64 ∧ (0 : Int) = (0 : Int))
 (.chk (IntKind.i64 = IntKind.i64 ∧ (5 : Int) = (5 : Int))
 (.chk (LK = LK ∧ O = O)
 (.chk (ln = ln ∧ [IntKind.i64, IntKind.i64] = [IntKind.i64, IntKind.i64] ∧ L = L ∧ cap = cap)
 (.chk (an = an ∧ (1 : Nat) = (1 : Nat) ∧ (0 : Nat) = (0 : Nat) ∧ ak = ak ∧ ac = ac)
 (.chk (IntKind.u8 = IntKind.u8 ∧ eqa = eqa)
 (.chk (IntKind.u8 = IntKind.u8 ∧ eqf = eqf)
 (.chk (IntKind.u8 = IntKind.u8 ∧ eqb = eqb)
 (.chk (IntKind.u8 = IntKind.u8 ∧ eqc = eqc)
 (.chk (IntKind.u8 = IntKind.u8 ∧ eqd = eqd)
 (.chk (IntKind.u8 = IntKind.u8 ∧ eqe = eqe)
 (.chk (IntKind.u8 = IntKind.u8 ∧ eqh = eqh)
 (.chk (IntKind.u8 = IntKind.u8 ∧ eql = eql)
 (.chk (IntKind.u16 = IntKind.u16 ∧ esp = esp)
 (.chk (IntKind.u16 = IntKind.u16 ∧ epc = epc)
 (.chk (IntKind.i64 = IntKind.i64 ∧ ead = ead)
 (.chk (IntKind.i64 = IntKind.i64 ∧ eva = eva)
 (.chk (IntKind.i64 = IntKind.i64 ∧ eki = eki)
 (.chk (IntKind.i64 = IntKind.i64 ∧ eba = eba)
 (.chk (AB = AB ∧ [IntKind.u8] = [IntKind.u8] ∧ Bx = Bx ∧ nb = nb ∧ cb = cb)
 (.chk (an = an ∧ [IntKind.u16] = [IntKind.u16] ∧ Q = Q ∧ ac = ac)
 (.leaf (.inr (.inr ⟨(5 : Int), Q, ak, an, ac⟩))))))))))))))))))))))))
 (.br (takesL (L.getD (((0 : Nat) + (↑i : Int).toNat) * (2 : Nat) + (0 : Nat)) (0 : Int))
    (L.getD (((0 : Nat) + (↑i : Int).toNat) * (2 : Nat) + (1 : Nat)) (0 : Int)) ==
  (0 : Int))
 (.br (L.getD (((0 : Nat) + (↑i : Int).toNat) * (2 : Nat) + (0 : Nat)) (0 : Int) == (2 : Int))
 (.chk ((an = an ∧ ac = ac) ∧
  (0 : Int) ≤ L.getD (((0 : Nat) + (↑i : Int).toNat) * (2 : Nat) + (1 : Nat)) (0 : Int) ∧
    L.getD (((0 : Nat) + (↑i : Int).toNat) * (2 : Nat) + (1 : Nat)) (0 : Int) < (18 : Int))
 (.chk ((0 : Int) ≤ (0 : Int) ∧
  (0 : Int) ≤
      IntKind.i64.wrap
        ((↑r : Int) -
          takesL (L.getD (((0 : Nat) + (↑i : Int).toNat) * (2 : Nat) + (0 : Nat)) (0 : Int))
            (L.getD (((0 : Nat) + (↑i : Int).toNat) * (2 : Nat) + (1 : Nat)) (0 : Int))) ∧
    IntKind.i64.wrap
        ((↑r : Int) -
          takesL (L.getD (((0 : Nat) + (↑i : Int).toNat) * (2 : Nat) + (0 : Nat)) (0 : Int))
            (L.getD (((0 : Nat) + (↑i : Int).toNat) * (2 : Nat) + (1 : Nat)) (0 : Int))) ≤
      (↑d : Int))
 (.chk (True ∧
  (nl = nl ∧
      sym.cutO (0 : Nat) d (0 : Nat) = (0 : Nat) ∧
        d - (0 : Nat) = d ∧
          ((IntKind.i64.wrap
                      ((↑r : Int) -
                        takesL
                          (L.getD (((0 : Nat) + (↑i : Int).toNat) * (2 : Nat) + (0 : Nat)) (0 : Int))
                          (L.getD (((0 : Nat) + (↑i : Int).toNat) * (2 : Nat) + (1 : Nat)) (0 : Int)))).toNat -
                  (0 : Nat)) *
                [IntKind.i64].length ≤
              R.length ∧
            (IntKind.i64.wrap
                      ((↑r : Int) -
                        takesL
                          (L.getD (((0 : Nat) + (↑i : Int).toNat) * (2 : Nat) + (0 : Nat)) (0 : Int))
                          (L.getD (((0 : Nat) + (↑i : Int).toNat) * (2 : Nat) + (1 : Nat)) (0 : Int)))).toNat -
                  (0 : Nat) ≤
                d - (0 : Nat) ∧
              d - (0 : Nat) ≤ Go.maxLen ∧ (nl = true → d - (0 : Nat) = (0 : Nat))) ∧
    ((IntKind.i64.wrap
                ((↑r : Int) -
                  takesL
                    (L.getD (((0 : Nat) + (↑i : Int).toNat) * (2 : Nat) + (0 : Nat)) (0 : Int))
                    (L.getD (((0 : Nat) + (↑i : Int).toNat) * (2 : Nat) + (1 : Nat)) (0 : Int)))).toNat -
            (0 : Nat) +
          (1 : Nat)) *
        (8 : Nat) ≤
      (140737488355328 : Nat))
 (.all fun x : sym.Grown nl (1 : Nat)
  ((IntKind.i64.wrap
          ((↑r : Int) -
            takesL
              (L.getD (((0 : Nat) + (↑i : Int).toNat) * (2 : Nat) + (0 : Nat)) (0 : Int))
              (L.getD (((0 : Nat) + (↑i : Int).toNat) * (2 : Nat) + (1 : Nat)) (0 : Int)))).toNat -
      (0 : Nat) +
    (1 : Nat)) =>
 (.chk (ln = ln ∧ (2 : Nat) = (2 : Nat) ∧ (0 : Nat) = (0 : Nat) ∧ m = m ∧ cap = cap)
 (.chk (IntKind.i64 = IntKind.i64 ∧ (0 : Int) = (0 : Int))
 (.chk (IntKind.i64 = IntKind.i64 ∧ (0 : Int) = (0 : Int))
 (.chk (x.nl' = x.nl' ∧
  [IntKind.i64].length = (1 : Nat) ∧
    (0 : Nat) = (0 : Nat) ∧
      (IntKind.i64.wrap
                  ((↑r : Int) -
                    takesL
                      (L.getD (((0 : Nat) + (↑i : Int).toNat) * (2 : Nat) + (0 : Nat)) (0 : Int))
                      (L.getD (((0 : Nat) + (↑i : Int).toNat) * (2 : Nat) + (1 : Nat)) (0 : Int)))).toNat -
              (0 : Nat) +
            (1 : Nat) =
          (IntKind.i64.wrap
                  ((↑r : Int) -
                    takesL
                      (L.getD (((0 : Nat) + (↑i : Int).toNat) * (2 : Nat) + (0 : Nat)) (0 : Int))
                      (L.getD (((0 : Nat) + (↑i : Int).toNat) * (2 : Nat) + (1 : Nat)) (0 : Int)))).toNat -
              (0 : Nat) +
            (1 : Nat) ∧
        x.cap = x.cap)
 (.chk (ln = ln ∧ (2 : Nat) = (2 : Nat) ∧ (0 : Nat) = (0 : Nat) ∧ m = m ∧ cap = cap)
 (.chk (IntKind.i64 = IntKind.i64 ∧ (↑m : Int) = (↑m : Int))
 (.chk (IntKind.i64 = IntKind.i64 ∧
  IntKind.i64.wrap ((↑i : Int) + (1 : Int)) = (↑(IntKind.i64.wrap ((↑i : Int) + (1 : Int))).toNat : Int))
 (.chk (LK = LK ∧ O = O)
 (.chk (ln = ln ∧ [IntKind.i64, IntKind.i64] = [IntKind.i64, IntKind.i64] ∧ L = L ∧ cap = cap)
 (.chk (an = an ∧ (1 : Nat) = (1 : Nat) ∧ (0 : Nat) = (0 : Nat) ∧ ak = ak ∧ ac = ac)
 (.chk (IntKind.u8 = IntKind.u8 ∧ eqa = eqa)
 (.chk (IntKind.u8 = IntKind.u8 ∧ eqf = eqf)
 (.chk (IntKind.u8 = IntKind.u8 ∧ eqb = eqb)
 (.chk (IntKind.u8 = IntKind.u8 ∧ eqc = eqc)
 (.chk (IntKind.u8 = IntKind.u8 ∧ eqd = eqd)
 (.chk (IntKind.u8 = IntKind.u8 ∧ eqe = eqe)
 (.chk (IntKind.u8 = IntKind.u8 ∧ eqh = eqh)
 (.chk (IntKind.u8 = IntKind.u8 ∧ eql = eql)
 (.chk (IntKind.u16 = IntKind.u16 ∧ esp = esp)
 (.chk (IntKind.u16 = IntKind.u16 ∧ epc = epc)
 (.chk (IntKind.i64 = IntKind.i64 ∧ ead = ead)
 (.chk (IntKind.i64 = IntKind.i64 ∧ eva = eva)
 (.chk (IntKind.i64 = IntKind.i64 ∧ eki = eki)
 (.chk (IntKind.i64 = IntKind.i64 ∧ eba = eba)
 (.chk (AB = AB ∧ [IntKind.u8] = [IntKind.u8] ∧ Bx = Bx ∧ nb = nb ∧ cb = cb)
 (.chk (IntKind.u8 = IntKind.u8 ∧ qa = qa)
 (.chk (IntKind.u8 = IntKind.u8 ∧ qf = qf)
 (.chk (IntKind.u8 = IntKind.u8 ∧ qb = qb)
 (.chk (IntKind.u8 = IntKind.u8 ∧ qc = qc)
 (.chk (IntKind.u8 = IntKind.u8 ∧ qd = qd)
 (.chk (IntKind.u8 = IntKind.u8 ∧ qe = qe)
 (.chk (IntKind.u8 = IntKind.u8 ∧ qh = qh)
 (.chk (IntKind.u8 = IntKind.u8 ∧ ql = ql)
 (.chk (IntKind.u16 = IntKind.u16 ∧ sp = sp)
 (.chk (IntKind.u16 = IntKind.u16 ∧ pc = pc)
 (.chk (IntKind.i64 = IntKind.i64 ∧ ad = ad)
 (.chk (IntKind.i64 = IntKind.i64 ∧ va = va)
 (.chk (IntKind.i64 = IntKind.i64 ∧ ki = ki)
 (.chk (IntKind.i64 = IntKind.i64 ∧ ba = ba)
 (.chk (x.nl' = x.nl' ∧
  [IntKind.i64] = [IntKind.i64] ∧
    List.take
            (((IntKind.i64.wrap
                    ((↑r : Int) -
                      takesL
                        (L.getD (((0 : Nat) + (↑i : Int).toNat) * (2 : Nat) + (0 : Nat)) (0 : Int))
                        (L.getD (((0 : Nat) + (↑i : Int).toNat) * (2 : Nat) + (1 : Nat)) (0 : Int)))).toNat -
                (0 : Nat)) *
              [IntKind.i64].length)
            R ++
          [nameL qa qf qb qc qd qe qh ql sp pc ad va ki ba
              (L.getD (((0 : Nat) + (↑i : Int).toNat) * (2 : Nat) + (1 : Nat)) (0 : Int))] =
        List.take
            (((IntKind.i64.wrap
                    ((↑r : Int) -
                      takesL
                        (L.getD (((0 : Nat) + (↑i : Int).toNat) * (2 : Nat) + (0 : Nat)) (0 : Int))
                        (L.getD (((0 : Nat) + (↑i : Int).toNat) * (2 : Nat) + (1 : Nat)) (0 : Int)))).toNat -
                (0 : Nat)) *
              [IntKind.i64].length)
            R ++
          [nameL qa qf qb qc qd qe qh ql sp pc ad va ki ba
              (L.getD (((0 : Nat) + (↑i : Int).toNat) * (2 : Nat) + (1 : Nat)) (0 : Int))] ∧
      x.cap = x.cap)
 (.chk (an = an ∧ [IntKind.u16] = [IntKind.u16] ∧ Q = Q ∧ ac = ac)
 (.leaf (.inl ⟨List.take
    (((IntKind.i64.wrap
            ((↑r : Int) -
              takesL
                (L.getD (((0 : Nat) + (↑i : Int).toNat) * (2 : Nat) + (0 : Nat)) (0 : Int))
                (L.getD (((0 : Nat) + (↑i : Int).toNat) * (2 : Nat) + (1 : Nat)) (0 : Int)))).toNat -
        (0 : Nat)) *
      [IntKind.i64].length)
    R ++
  [nameL qa qf qb qc qd qe qh ql sp pc ad va ki ba
      (L.getD (((0 : Nat) + (↑i : Int).toNat) * (2 : Nat) + (1 : Nat)) (0 : Int))], (IntKind.i64.wrap
        ((↑r : Int) -
          takesL (L.getD (((0 : Nat) + (↑i : Int).toNat) * (2 : Nat) + (0 : Nat)) (0 : Int))
            (L.getD (((0 : Nat) + (↑i : Int).toNat) * (2 : Nat) + (1 : Nat)) (0 : Int)))).toNat -
    (0 : Nat) +
  (1 : Nat), x.nl', x.cap, Q, ak, an, ac, (IntKind.i64.wrap ((↑i : Int) + (1 : Int))).toNat⟩)))))))))))))))))))))))))))))))))))))))))))))))
 (.chk ((0 : Int) ≤ (0 : Int) ∧
  (0 : Int) ≤
      IntKind.i64.wrap
        ((↑r : Int) -
          takesL (L.getD (((0 : Nat) + (↑i : Int).toNat) * (2 : Nat) + (0 : Nat)) (0 : Int))
            (L.getD (((0 : Nat) + (↑i : Int).toNat) * (2 : Nat) + (1 : Nat)) (0 : Int))) ∧
    IntKind.i64.wrap
        ((↑r : Int) -
          takesL (L.getD (((0 : Nat) + (↑i : Int).toNat) * (2 : Nat) + (0 : Nat)) (0 : Int))
            (L.getD (((0 : Nat) + (↑i : Int).toNat) * (2 : Nat) + (1 : Nat)) (0 : Int))) ≤
      (↑d : Int))
 (.chk (True ∧
  (nl = nl ∧
      sym.cutO (0 : Nat) d (0 : Nat) = (0 : Nat) ∧
        d - (0 : Nat) = d ∧
          ((IntKind.i64.wrap
                      ((↑r : Int) -
                        takesL
                          (L.getD (((0 : Nat) + (↑i : Int).toNat) * (2 : Nat) + (0 : Nat)) (0 : Int))
                          (L.getD (((0 : Nat) + (↑i : Int).toNat) * (2 : Nat) + (1 : Nat)) (0 : Int)))).toNat -
                  (0 : Nat)) *
                [IntKind.i64].length ≤
              R.length ∧
            (IntKind.i64.wrap
                      ((↑r : Int) -
                        takesL
                          (L.getD (((0 : Nat) + (↑i : Int).toNat) * (2 : Nat) + (0 : Nat)) (0 : Int))
                          (L.getD (((0 : Nat) + (↑i : Int).toNat) * (2 : Nat) + (1 : Nat)) (0 : Int)))).toNat -
                  (0 : Nat) ≤
                d - (0 : Nat) ∧
              d - (0 : Nat) ≤ Go.maxLen ∧ (nl = true → d - (0 : Nat) = (0 : Nat))) ∧
    ((IntKind.i64.wrap
                ((↑r : Int) -
                  takesL
                    (L.getD (((0 : Nat) + (↑i : Int).toNat) * (2 : Nat) + (0 : Nat)) (0 : Int))
                    (L.getD (((0 : Nat) + (↑i : Int).toNat) * (2 : Nat) + (1 : Nat)) (0 : Int)))).toNat -
            (0 : Nat) +
          (1 : Nat)) *
        (8 : Nat) ≤
      (140737488355328 : Nat))
 (.all fun x : sym.Grown nl (1 : Nat)
  ((IntKind.i64.wrap
          ((↑r : Int) -
            takesL
              (L.getD (((0 : Nat) + (↑i : Int).toNat) * (2 : Nat) + (0 : Nat)) (0 : Int))
              (L.getD (((0 : Nat) + (↑i : Int).toNat) * (2 : Nat) + (1 : Nat)) (0 : Int)))).toNat -
      (0 : Nat) +
    (1 : Nat)) =>
 (.chk (ln = ln ∧ (2 : Nat) = (2 : Nat) ∧ (0 : Nat) = (0 : Nat) ∧ m = m ∧ cap = cap)
 (.chk (IntKind.i64 = IntKind.i64 ∧ (0 : Int) = (0 : Int))
 (.chk (IntKind.i64 = IntKind.i64 ∧ (0 : Int) = (0 : Int))
 (.chk (x.nl' = x.nl' ∧
  [IntKind.i64].length = (1 : Nat) ∧
    (0 : Nat) = (0 : Nat) ∧
      (IntKind.i64.wrap
                  ((↑r : Int) -
                    takesL
                      (L.getD (((0 : Nat) + (↑i : Int).toNat) * (2 : Nat) + (0 : Nat)) (0 : Int))
                      (L.getD (((0 : Nat) + (↑i : Int).toNat) * (2 : Nat) + (1 : Nat)) (0 : Int)))).toNat -
              (0 : Nat) +
            (1 : Nat) =
          (IntKind.i64.wrap
                  ((↑r : Int) -
                    takesL
                      (L.getD (((0 : Nat) + (↑i : Int).toNat) * (2 : Nat) + (0 : Nat)) (0 : Int))
                      (L.getD (((0 : Nat) + (↑i : Int).toNat) * (2 : Nat) + (1 : Nat)) (0 : Int)))).toNat -
              (0 : Nat) +
            (1 : Nat) ∧
        x.cap = x.cap)
 (.chk (ln = ln ∧ (2 : Nat) = (2 : Nat) ∧ (0 : Nat) = (0 : Nat) ∧ m = m ∧ cap = cap)
 (.chk (IntKind.i64 = IntKind.i64 ∧ (↑m : Int) = (↑m : Int))
 (.chk (IntKind.i64 = IntKind.i64 ∧
  IntKind.i64.wrap ((↑i : Int) + (1 : Int)) = (↑(IntKind.i64.wrap ((↑i : Int) + (1 : Int))).toNat : Int))
 (.chk (LK = LK ∧ O = O)
 (.chk (ln = ln ∧ [IntKind.i64, IntKind.i64] = [IntKind.i64, IntKind.i64] ∧ L = L ∧ cap = cap)
 (.chk (an = an ∧ (1 : Nat) = (1 : Nat) ∧ (0 : Nat) = (0 : Nat) ∧ ak = ak ∧ ac = ac)
 (.chk (IntKind.u8 = IntKind.u8 ∧ eqa = eqa)
 (.chk (IntKind.u8 = IntKind.u8 ∧ eqf = eqf)
 (.chk (IntKind.u8 = IntKind.u8 ∧ eqb = eqb)
 (.chk (IntKind.u8 = IntKind.u8 ∧ eqc = eqc)
 (.chk (IntKind.u8 = IntKind.u8 ∧ eqd = eqd)
 (.chk (IntKind.u8 = IntKind.u8 ∧ eqe = eqe)
 (.chk (IntKind.u8 = IntKind.u8 ∧ eqh = eqh)
 (.chk (IntKind.u8 = IntKind.u8 ∧ eql = eql)
 (.chk (IntKind.u16 = IntKind.u16 ∧ esp = esp)
 (.chk (IntKind.u16 = IntKind.u16 ∧ epc = epc)
 (.chk (IntKind.i64 = IntKind.i64 ∧ ead = ead)
 (.chk (IntKind.i64 = IntKind.i64 ∧ eva = eva)
 (.chk (IntKind.i64 = IntKind.i64 ∧ eki = eki)
 (.chk (IntKind.i64 = IntKind.i64 ∧ eba = eba)
 (.chk (AB = AB ∧ [IntKind.u8] = [IntKind.u8] ∧ Bx = Bx ∧ nb = nb ∧ cb = cb)
 (.chk (IntKind.u8 = IntKind.u8 ∧ qa = qa)
 (.chk (IntKind.u8 = IntKind.u8 ∧ qf = qf)
 (.chk (IntKind.u8 = IntKind.u8 ∧ qb = qb)
 (.chk (IntKind.u8 = IntKind.u8 ∧ qc = qc)
 (.chk (IntKind.u8 = IntKind.u8 ∧ qd = qd)
 (.chk (IntKind.u8 = IntKind.u8 ∧ qe = qe)
 (.chk (IntKind.u8 = IntKind.u8 ∧ qh = qh)
 (.chk (IntKind.u8 = IntKind.u8 ∧ ql = ql)
 (.chk (IntKind.u16 = IntKind.u16 ∧ sp = sp)
 (.chk (IntKind.u16 = IntKind.u16 ∧ pc = pc)
 (.chk (IntKind.i64 = IntKind.i64 ∧ ad = ad)
 (.chk (IntKind.i64 = IntKind.i64 ∧ va = va)
 (.chk (IntKind.i64 = IntKind.i64 ∧ ki = ki)
 (.chk (IntKind.i64 = IntKind.i64 ∧ ba = ba)
 (.chk (x.nl' = x.nl' ∧
  [IntKind.i64] = [IntKind.i64] ∧
    List.take
            (((IntKind.i64.wrap
                    ((↑r : Int) -
                      takesL
                        (L.getD (((0 : Nat) + (↑i : Int).toNat) * (2 : Nat) + (0 : Nat)) (0 : Int))
                        (L.getD (((0 : Nat) + (↑i : Int).toNat) * (2 : Nat) + (1 : Nat)) (0 : Int)))).toNat -
                (0 : Nat)) *
              [IntKind.i64].length)
            R ++
          [L.getD (((0 : Nat) + (↑i : Int).toNat) * (2 : Nat) + (1 : Nat)) (0 : Int)] =
        List.take
            (((IntKind.i64.wrap
                    ((↑r : Int) -
                      takesL
                        (L.getD (((0 : Nat) + (↑i : Int).toNat) * (2 : Nat) + (0 : Nat)) (0 : Int))
                        (L.getD (((0 : Nat) + (↑i : Int).toNat) * (2 : Nat) + (1 : Nat)) (0 : Int)))).toNat -
                (0 : Nat)) *
              [IntKind.i64].length)
            R ++
          [L.getD (((0 : Nat) + (↑i : Int).toNat) * (2 : Nat) + (1 : Nat)) (0 : Int)] ∧
      x.cap = x.cap)
 (.chk (an = an ∧ [IntKind.u16] = [IntKind.u16] ∧ Q = Q ∧ ac = ac)
 (.leaf (.inl ⟨List.take
    (((IntKind.i64.wrap
            ((↑r : Int) -
              takesL
                (L.getD (((0 : Nat) + (↑i : Int).toNat) * (2 : Nat) + (0 : Nat)) (0 : Int))
                (L.getD (((0 : Nat) + (↑i : Int).toNat) * (2 : Nat) + (1 : Nat)) (0 : Int)))).toNat -
        (0 : Nat)) *
      [IntKind.i64].length)
    R ++
  [L.getD (((0 : Nat) + (↑i : Int).toNat) * (2 : Nat) + (1 : Nat)) (0 : Int)], (IntKind.i64.wrap
        ((↑r : Int) -
          takesL (L.getD (((0 : Nat) + (↑i : Int).toNat) * (2 : Nat) + (0 : Nat)) (0 : Int))
            (L.getD (((0 : Nat) + (↑i : Int).toNat) * (2 : Nat) + (1 : Nat)) (0 : Int)))).toNat -
    (0 : Nat) +
  (1 : Nat), x.nl', x.cap, Q, ak, an, ac, (IntKind.i64.wrap ((↑i : Int) + (1 : Int))).toNat⟩)))))))))))))))))))))))))))))))))))))))))))))))
 (.br (takesL (L.getD (((0 : Nat) + (↑i : Int).toNat) * (2 : Nat) + (0 : Nat)) (0 : Int))
    (L.getD (((0 : Nat) + (↑i : Int).toNat) * (2 : Nat) + (1 : Nat)) (0 : Int)) ==
  (1 : Int))
 (.chk (nl = false ∧
  (0 : Int) ≤
      IntKind.i64.wrap
        ((↑r : Int) -
          takesL (L.getD (((0 : Nat) + (↑i : Int).toNat) * (2 : Nat) + (0 : Nat)) (0 : Int))
            (L.getD (((0 : Nat) + (↑i : Int).toNat) * (2 : Nat) + (1 : Nat)) (0 : Int))) ∧
    IntKind.i64.wrap
        ((↑r : Int) -
          takesL (L.getD (((0 : Nat) + (↑i : Int).toNat) * (2 : Nat) + (0 : Nat)) (0 : Int))
            (L.getD (((0 : Nat) + (↑i : Int).toNat) * (2 : Nat) + (1 : Nat)) (0 : Int))) <
      (↑r : Int))
 (.all fun x : Bool =>
 (.br (x)
 (.all fun x_1 : Bool =>
 (.br (x_1)
 (.chk (nl = false ∧
  ((0 : Nat) +
          (IntKind.i64.wrap
              ((↑r : Int) -
                takesL
                  (L.getD (((0 : Nat) + (↑i : Int).toNat) * (2 : Nat) + (0 : Nat)) (0 : Int))
                  (L.getD (((0 : Nat) + (↑i : Int).toNat) * (2 : Nat) + (1 : Nat)) (0 : Int)))).toNat) *
        (1 : Nat) +
      (1 : Nat) ≤
    R.length)
 (.chk ((an = an ∧ ac = ac) ∧
  sym.XR w AB [IntKind.u8] Bx nb ∧
    Q.length = ak ∧ ak ≤ ac ∧ ac ≤ Go.maxLen ∧ (an = true → ak = (0 : Nat) ∧ ac = (0 : Nat)) ∧ ak ≤ (1000000 : Nat))
 (.all fun x_2 : RowR
  (ak +
    (askD (L.getD (((0 : Nat) + (↑i : Int).toNat) * (2 : Nat) + (0 : Nat)) (0 : Int))
        (R.getD
          (((0 : Nat) +
                (IntKind.i64.wrap
                    ((↑r : Int) -
                      takesL
                        (L.getD (((0 : Nat) + (↑i : Int).toNat) * (2 : Nat) + (0 : Nat)) (0 : Int))
                        (L.getD (((0 : Nat) + (↑i : Int).toNat) * (2 : Nat) + (1 : Nat)) (0 : Int)))).toNat) *
              (1 : Nat) +
            (0 : Nat))
          (0 : Int))).length) =>
 (.chk ((0 : Int) ≤ (0 : Int) ∧
  (0 : Int) ≤
      IntKind.i64.wrap
        ((↑r : Int) -
          takesL (L.getD (((0 : Nat) + (↑i : Int).toNat) * (2 : Nat) + (0 : Nat)) (0 : Int))
            (L.getD (((0 : Nat) + (↑i : Int).toNat) * (2 : Nat) + (1 : Nat)) (0 : Int))) ∧
    IntKind.i64.wrap
        ((↑r : Int) -
          takesL (L.getD (((0 : Nat) + (↑i : Int).toNat) * (2 : Nat) + (0 : Nat)) (0 : Int))
            (L.getD (((0 : Nat) + (↑i : Int).toNat) * (2 : Nat) + (1 : Nat)) (0 : Int))) ≤
      (↑d : Int))
 (.chk (True ∧
  (nl = nl ∧
      sym.cutO (0 : Nat) d (0 : Nat) = (0 : Nat) ∧
        d - (0 : Nat) = d ∧
          ((IntKind.i64.wrap
                      ((↑r : Int) -
                        takesL
                          (L.getD (((0 : Nat) + (↑i : Int).toNat) * (2 : Nat) + (0 : Nat)) (0 : Int))
                          (L.getD (((0 : Nat) + (↑i : Int).toNat) * (2 : Nat) + (1 : Nat)) (0 : Int)))).toNat -
                  (0 : Nat)) *
                [IntKind.i64].length ≤
              R.length ∧
            (IntKind.i64.wrap
                      ((↑r : Int) -
                        takesL
                          (L.getD (((0 : Nat) + (↑i : Int).toNat) * (2 : Nat) + (0 : Nat)) (0 : Int))
                          (L.getD (((0 : Nat) + (↑i : Int).toNat) * (2 : Nat) + (1 : Nat)) (0 : Int)))).toNat -
                  (0 : Nat) ≤
                d - (0 : Nat) ∧
              d - (0 : Nat) ≤ Go.maxLen ∧ (nl = true → d - (0 : Nat) = (0 : Nat))) ∧
    ((IntKind.i64.wrap
                ((↑r : Int) -
                  takesL
                    (L.getD (((0 : Nat) + (↑i : Int).toNat) * (2 : Nat) + (0 : Nat)) (0 : Int))
                    (L.getD (((0 : Nat) + (↑i : Int).toNat) * (2 : Nat) + (1 : Nat)) (0 : Int)))).toNat -
            (0 : Nat) +
          (1 : Nat)) *
        (8 : Nat) ≤
      (140737488355328 : Nat))
 (.all fun x_3 : sym.Grown nl (1 : Nat)
  ((IntKind.i64.wrap
          ((↑r : Int) -
            takesL
              (L.getD (((0 : Nat) + (↑i : Int).toNat) * (2 : Nat) + (0 : Nat)) (0 : Int))
              (L.getD (((0 : Nat) + (↑i : Int).toNat) * (2 : Nat) + (1 : Nat)) (0 : Int)))).toNat -
      (0 : Nat) +
    (1 : Nat)) =>
 (.chk (ln = ln ∧ (2 : Nat) = (2 : Nat) ∧ (0 : Nat) = (0 : Nat) ∧ m = m ∧ cap = cap)
 (.chk (IntKind.i64 = IntKind.i64 ∧ (0 : Int) = (0 : Int))
 (.chk (IntKind.i64 = IntKind.i64 ∧ (0 : Int) = (0 : Int))
 (.chk (x_3.nl' = x_3.nl' ∧
  [IntKind.i64].length = (1 : Nat) ∧
    (0 : Nat) = (0 : Nat) ∧
      (IntKind.i64.wrap
                  ((↑r : Int) -
                    takesL
                      (L.getD (((0 : Nat) + (↑i : Int).toNat) * (2 : Nat) + (0 : Nat)) (0 : Int))
                      (L.getD (((0 : Nat) + (↑i : Int).toNat) * (2 : Nat) + (1 : Nat)) (0 : Int)))).toNat -
              (0 : Nat) +
            (1 : Nat) =
          (IntKind.i64.wrap
                  ((↑r : Int) -
                    takesL
                      (L.getD (((0 : Nat) + (↑i : Int).toNat) * (2 : Nat) + (0 : Nat)) (0 : Int))
                      (L.getD (((0 : Nat) + (↑i : Int).toNat) * (2 : Nat) + (1 : Nat)) (0 : Int)))).toNat -
              (0 : Nat) +
            (1 : Nat) ∧
        x_3.cap = x_3.cap)
 (.chk (ln = ln ∧ (2 : Nat) = (2 : Nat) ∧ (0 : Nat) = (0 : Nat) ∧ m = m ∧ cap = cap)
 (.chk (IntKind.i64 = IntKind.i64 ∧ (↑m : Int) = (↑m : Int))
 (.chk (IntKind.i64 = IntKind.i64 ∧
  IntKind.i64.wrap ((↑i : Int) + (1 : Int)) = (↑(IntKind.i64.wrap ((↑i : Int) + (1 : Int))).toNat : Int))
 (.chk (LK = LK ∧ O = O)
 (.chk (ln = ln ∧ [IntKind.i64, IntKind.i64] = [IntKind.i64, IntKind.i64] ∧ L = L ∧ cap = cap)
 (.chk (x_2.nl = x_2.nl ∧
  (1 : Nat) = (1 : Nat) ∧
    (0 : Nat) = (0 : Nat) ∧
      ak +
            (askD (L.getD (((0 : Nat) + (↑i : Int).toNat) * (2 : Nat) + (0 : Nat)) (0 : Int))
                (R.getD
                  (((0 : Nat) +
                        (IntKind.i64.wrap
                            ((↑r : Int) -
                              takesL
                                (L.getD (((0 : Nat) + (↑i : Int).toNat) * (2 : Nat) + (0 : Nat)) (0 : Int))
                                (L.getD (((0 : Nat) + (↑i : Int).toNat) * (2 : Nat) + (1 : Nat)) (0 : Int)))).toNat) *
                      (1 : Nat) +
                    (0 : Nat))
                  (0 : Int))).length =
          ak +
            (askD (L.getD (((0 : Nat) + (↑i : Int).toNat) * (2 : Nat) + (0 : Nat)) (0 : Int))
                (R.getD
                  (((0 : Nat) +
                        (IntKind.i64.wrap
                            ((↑r : Int) -
                              takesL
                                (L.getD (((0 : Nat) + (↑i : Int).toNat) * (2 : Nat) + (0 : Nat)) (0 : Int))
                                (L.getD (((0 : Nat) + (↑i : Int).toNat) * (2 : Nat) + (1 : Nat)) (0 : Int)))).toNat) *
                      (1 : Nat) +
                    (0 : Nat))
                  (0 : Int))).length ∧
        x_2.cap = x_2.cap)
 (.chk (IntKind.u8 = IntKind.u8 ∧ eqa = eqa)
 (.chk (IntKind.u8 = IntKind.u8 ∧ eqf = eqf)
 (.chk (IntKind.u8 = IntKind.u8 ∧ eqb = eqb)
 (.chk (IntKind.u8 = IntKind.u8 ∧ eqc = eqc)
 (.chk (IntKind.u8 = IntKind.u8 ∧ eqd = eqd)
 (.chk (IntKind.u8 = IntKind.u8 ∧ eqe = eqe)
 (.chk (IntKind.u8 = IntKind.u8 ∧ eqh = eqh)
 (.chk (IntKind.u8 = IntKind.u8 ∧ eql = eql)
 (.chk (IntKind.u16 = IntKind.u16 ∧ esp = esp)
 (.chk (IntKind.u16 = IntKind.u16 ∧ epc = epc)
 (.chk (IntKind.i64 = IntKind.i64 ∧ ead = ead)
 (.chk (IntKind.i64 = IntKind.i64 ∧ eva = eva)
 (.chk (IntKind.i64 = IntKind.i64 ∧ eki = eki)
 (.chk (IntKind.i64 = IntKind.i64 ∧ eba = eba)
 (.chk (AB = AB ∧ [IntKind.u8] = [IntKind.u8] ∧ Bx = Bx ∧ nb = nb ∧ cb = cb)
 (.chk (IntKind.u8 = IntKind.u8 ∧ qa = qa)
 (.chk (IntKind.u8 = IntKind.u8 ∧ qf = qf)
 (.chk (IntKind.u8 = IntKind.u8 ∧ qb = qb)
 (.chk (IntKind.u8 = IntKind.u8 ∧ qc = qc)
 (.chk (IntKind.u8 = IntKind.u8 ∧ qd = qd)
 (.chk (IntKind.u8 = IntKind.u8 ∧ qe = qe)
 (.chk (IntKind.u8 = IntKind.u8 ∧ qh = qh)
 (.chk (IntKind.u8 = IntKind.u8 ∧ ql = ql)
 (.chk (IntKind.u16 = IntKind.u16 ∧ sp = sp)
 (.chk (IntKind.u16 = IntKind.u16 ∧ pc = pc)
 (.chk (IntKind.i64 = IntKind.i64 ∧ ad = ad)
 (.chk (IntKind.i64 = IntKind.i64 ∧ va = va)
 (.chk (IntKind.i64 = IntKind.i64 ∧ ki = ki)
 (.chk (IntKind.i64 = IntKind.i64 ∧ ba = ba)
 (.chk (x_3.nl' = x_3.nl' ∧
  [IntKind.i64] = [IntKind.i64] ∧
    List.take
            (((IntKind.i64.wrap
                    ((↑r : Int) -
                      takesL
                        (L.getD (((0 : Nat) + (↑i : Int).toNat) * (2 : Nat) + (0 : Nat)) (0 : Int))
                        (L.getD (((0 : Nat) + (↑i : Int).toNat) * (2 : Nat) + (1 : Nat)) (0 : Int)))).toNat -
                (0 : Nat)) *
              [IntKind.i64].length)
            R ++
          [oneL (pkL Bx nb)
              (L.getD (((0 : Nat) + (↑i : Int).toNat) * (2 : Nat) + (0 : Nat)) (0 : Int))
              (R.getD
                (((0 : Nat) +
                      (IntKind.i64.wrap
                          ((↑r : Int) -
                            takesL
                              (L.getD (((0 : Nat) + (↑i : Int).toNat) * (2 : Nat) + (0 : Nat)) (0 : Int))
                              (L.getD (((0 : Nat) + (↑i : Int).toNat) * (2 : Nat) + (1 : Nat)) (0 : Int)))).toNat) *
                    (1 : Nat) +
                  (0 : Nat))
                (0 : Int))] =
        List.take
            (((IntKind.i64.wrap
                    ((↑r : Int) -
                      takesL
                        (L.getD (((0 : Nat) + (↑i : Int).toNat) * (2 : Nat) + (0 : Nat)) (0 : Int))
                        (L.getD (((0 : Nat) + (↑i : Int).toNat) * (2 : Nat) + (1 : Nat)) (0 : Int)))).toNat -
                (0 : Nat)) *
              [IntKind.i64].length)
            R ++
          [oneL (pkL Bx nb)
              (L.getD (((0 : Nat) + (↑i : Int).toNat) * (2 : Nat) + (0 : Nat)) (0 : Int))
              (R.getD
                (((0 : Nat) +
                      (IntKind.i64.wrap
                          ((↑r : Int) -
                            takesL
                              (L.getD (((0 : Nat) + (↑i : Int).toNat) * (2 : Nat) + (0 : Nat)) (0 : Int))
                              (L.getD (((0 : Nat) + (↑i : Int).toNat) * (2 : Nat) + (1 : Nat)) (0 : Int)))).toNat) *
                    (1 : Nat) +
                  (0 : Nat))
                (0 : Int))] ∧
      x_3.cap = x_3.cap)
 (.chk (x_2.nl = x_2.nl ∧
  [IntKind.u16] = [IntKind.u16] ∧
    Q ++
          askD (L.getD (((0 : Nat) + (↑i : Int).toNat) * (2 : Nat) + (0 : Nat)) (0 : Int))
            (R.getD
              (((0 : Nat) +
                    (IntKind.i64.wrap
                        ((↑r : Int) -
                          takesL
                            (L.getD (((0 : Nat) + (↑i : Int).toNat) * (2 : Nat) + (0 : Nat)) (0 : Int))
                            (L.getD (((0 : Nat) + (↑i : Int).toNat) * (2 : Nat) + (1 : Nat)) (0 : Int)))).toNat) *
                  (1 : Nat) +
                (0 : Nat))
              (0 : Int)) =
        Q ++
          askD (L.getD (((0 : Nat) + (↑i : Int).toNat) * (2 : Nat) + (0 : Nat)) (0 : Int))
            (R.getD
              (((0 : Nat) +
                    (IntKind.i64.wrap
                        ((↑r : Int) -
                          takesL
                            (L.getD (((0 : Nat) + (↑i : Int).toNat) * (2 : Nat) + (0 : Nat)) (0 : Int))
                            (L.getD (((0 : Nat) + (↑i : Int).toNat) * (2 : Nat) + (1 : Nat)) (0 : Int)))).toNat) *
                  (1 : Nat) +
                (0 : Nat))
              (0 : Int)) ∧
      x_2.cap = x_2.cap)
 (.leaf (.inl ⟨List.take
    (((IntKind.i64.wrap
            ((↑r : Int) -
              takesL
                (L.getD (((0 : Nat) + (↑i : Int).toNat) * (2 : Nat) + (0 : Nat)) (0 : Int))
                (L.getD (((0 : Nat) + (↑i : Int).toNat) * (2 : Nat) + (1 : Nat)) (0 : Int)))).toNat -
        (0 : Nat)) *
      [IntKind.i64].length)
    R ++
  [oneL (pkL Bx nb)
      (L.getD (((0 : Nat) + (↑i : Int).toNat) * (2 : Nat) + (0 : Nat)) (0 : Int))
      (R.getD
        (((0 : Nat) +
              (IntKind.i64.wrap
                  ((↑r : Int) -
                    takesL
                      (L.getD (((0 : Nat) + (↑i : Int).toNat) * (2 : Nat) + (0 : Nat)) (0 : Int))
                      (L.getD (((0 : Nat) + (↑i : Int).toNat) * (2 : Nat) + (1 : Nat)) (0 : Int)))).toNat) *
            (1 : Nat) +
          (0 : Nat))
        (0 : Int))], (IntKind.i64.wrap
        ((↑r : Int) -
          takesL (L.getD (((0 : Nat) + (↑i : Int).toNat) * (2 : Nat) + (0 : Nat)) (0 : Int))
            (L.getD (((0 : Nat) + (↑i : Int).toNat) * (2 : Nat) + (1 : Nat)) (0 : Int)))).toNat -
    (0 : Nat) +
  (1 : Nat), x_3.nl', x_3.cap, Q ++
  askD (L.getD (((0 : Nat) + (↑i : Int).toNat) * (2 : Nat) + (0 : Nat)) (0 : Int))
    (R.getD
      (((0 : Nat) +
            (IntKind.i64.wrap
                ((↑r : Int) -
                  takesL
                    (L.getD (((0 : Nat) + (↑i : Int).toNat) * (2 : Nat) + (0 : Nat)) (0 : Int))
                    (L.getD (((0 : Nat) + (↑i : Int).toNat) * (2 : Nat) + (1 : Nat)) (0 : Int)))).toNat) *
          (1 : Nat) +
        (0 : Nat))
      (0 : Int)), ak +
  (askD (L.getD (((0 : Nat) + (↑i : Int).toNat) * (2 : Nat) + (0 : Nat)) (0 : Int))
      (R.getD
        (((0 : Nat) +
              (IntKind.i64.wrap
                  ((↑r : Int) -
                    takesL
                      (L.getD (((0 : Nat) + (↑i : Int).toNat) * (2 : Nat) + (0 : Nat)) (0 : Int))
                      (L.getD (((0 : Nat) + (↑i : Int).toNat) * (2 : Nat) + (1 : Nat)) (0 : Int)))).toNat) *
            (1 : Nat) +
          (0 : Nat))
        (0 : Int))).length, x_2.nl, x_2.cap, (IntKind.i64.wrap ((↑i : Int) + (1 : Int))).toNat⟩)))))))))))))))))))))))))))))))))))))))))))))))))
 (.chk (nl = false ∧
  ((0 : Nat) +
          (IntKind.i64.wrap
              ((↑r : Int) -
                takesL
                  (L.getD (((0 : Nat) + (↑i : Int).toNat) * (2 : Nat) + (0 : Nat)) (0 : Int))
                  (L.getD (((0 : Nat) + (↑i : Int).toNat) * (2 : Nat) + (1 : Nat)) (0 : Int)))).toNat) *
        (1 : Nat) +
      (1 : Nat) ≤
    R.length)
 (.chk ((an = an ∧ ac = ac) ∧
  sym.XR w AB [IntKind.u8] Bx nb ∧
    Q.length = ak ∧ ak ≤ ac ∧ ac ≤ Go.maxLen ∧ (an = true → ak = (0 : Nat) ∧ ac = (0 : Nat)) ∧ ak ≤ (1000000 : Nat))
 (.all fun x_2 : RowR
  (ak +
    (askD (L.getD (((0 : Nat) + (↑i : Int).toNat) * (2 : Nat) + (0 : Nat)) (0 : Int))
        (R.getD
          (((0 : Nat) +
                (IntKind.i64.wrap
                    ((↑r : Int) -
                      takesL
                        (L.getD (((0 : Nat) + (↑i : Int).toNat) * (2 : Nat) + (0 : Nat)) (0 : Int))
                        (L.getD (((0 : Nat) + (↑i : Int).toNat) * (2 : Nat) + (1 : Nat)) (0 : Int)))).toNat) *
              (1 : Nat) +
            (0 : Nat))
          (0 : Int))).length) =>
 (.chk ((0 : Int) ≤ (0 : Int) ∧
  (0 : Int) ≤
      IntKind.i64.wrap
        ((↑r : Int) -
          takesL (L.getD (((0 : Nat) + (↑i : Int).toNat) * (2 : Nat) + (0 : Nat)) (0 : Int))
            (L.getD (((0 : Nat) + (↑i : Int).toNat) * (2 : Nat) + (1 : Nat)) (0 : Int))) ∧
    IntKind.i64.wrap
        ((↑r : Int) -
          takesL (L.getD (((0 : Nat) + (↑i : Int).toNat) * (2 : Nat) + (0 : Nat)) (0 : Int))
            (L.getD (((0 : Nat) + (↑i : Int).toNat) * (2 : Nat) + (1 : Nat)) (0 : Int))) ≤
      (↑d : Int))
 (.chk (True ∧
  (nl = nl ∧
      sym.cutO (0 : Nat) d (0 : Nat) = (0 : Nat) ∧
        d - (0 : Nat) = d ∧
          ((IntKind.i64.wrap
                      ((↑r : Int) -
                        takesL
                          (L.getD (((0 : Nat) + (↑i : Int).toNat) * (2 : Nat) + (0 : Nat)) (0 : Int))
                          (L.getD (((0 : Nat) + (↑i : Int).toNat) * (2 : Nat) + (1 : Nat)) (0 : Int)))).toNat -
                  (0 : Nat)) *
                [IntKind.i64].length ≤
              R.length ∧
            (IntKind.i64.wrap
                      ((↑r : Int) -
                        takesL
                          (L.getD (((0 : Nat) + (↑i : Int).toNat) * (2 : Nat) + (0 : Nat)) (0 : Int))
                          (L.getD (((0 : Nat) + (↑i : Int).toNat) * (2 : Nat) + (1 : Nat)) (0 : Int)))).toNat -
                  (0 : Nat) ≤
                d - (0 : Nat) ∧
              d - (0 : Nat) ≤ Go.maxLen ∧ (nl = true → d - (0 : Nat) = (0 : Nat))) ∧
    ((IntKind.i64.wrap
                ((↑r : Int) -
                  takesL
                    (L.getD (((0 : Nat) + (↑i : Int).toNat) * (2 : Nat) + (0 : Nat)) (0 : Int))
                    (L.getD (((0 : Nat) + (↑i : Int).toNat) * (2 : Nat) + (1 : Nat)) (0 : Int)))).toNat -
            (0 : Nat) +
          (1 : Nat)) *
        (8 : Nat) ≤
      (140737488355328 : Nat))
 (.all fun x_3 : sym.Grown nl (1 : Nat)
  ((IntKind.i64.wrap
          ((↑r : Int) -
            takesL
              (L.getD (((0 : Nat) + (↑i : Int).toNat) * (2 : Nat) + (0 : Nat)) (0 : Int))
              (L.getD (((0 : Nat) + (↑i : Int).toNat) * (2 : Nat) + (1 : Nat)) (0 : Int)))).toNat -
      (0 : Nat) +
    (1 : Nat)) =>
 (.chk (ln = ln ∧ (2 : Nat) = (2 : Nat) ∧ (0 : Nat) = (0 : Nat) ∧ m = m ∧ cap = cap)
 (.chk (IntKind.i64 = IntKind.i64 ∧ (0 : Int) = (0 : Int))
 (.chk (IntKind.i64 = IntKind.i64 ∧ (0 : Int) = (0 : Int))
 (.chk (x_3.nl' = x_3.nl' ∧
  [IntKind.i64].length = (1 : Nat) ∧
    (0 : Nat) = (0 : Nat) ∧
      (IntKind.i64.wrap
                  ((↑r : Int) -
                    takesL
                      (L.getD (((0 : Nat) + (↑i : Int).toNat) * (2 : Nat) + (0 : Nat)) (0 : Int))
                      (L.getD (((0 : Nat) + (↑i : Int).toNat) * (2 : Nat) + (1 : Nat)) (0 : Int)))).toNat -
              (0 : Nat) +
            (1 : Nat) =
          (IntKind.i64.wrap
                  ((↑r : Int) -
                    takesL
                      (L.getD (((0 : Nat) + (↑i : Int).toNat) * (2 : Nat) + (0 : Nat)) (0 : Int))
                      (L.getD (((0 : Nat) + (↑i : Int).toNat) * (2 : Nat) + (1 : Nat)) (0 : Int)))).toNat -
              (0 : Nat) +
            (1 : Nat) ∧
        x_3.cap = x_3.cap)
 (.chk (ln = ln ∧ (2 : Nat) = (2 : Nat) ∧ (0 : Nat) = (0 : Nat) ∧ m = m ∧ cap = cap)
 (.chk (IntKind.i64 = IntKind.i64 ∧ (↑m : Int) = (↑m : Int))
 (.chk (IntKind.i64 = IntKind.i64 ∧
  IntKind.i64.wrap ((↑i : Int) + (1 : Int)) = (↑(IntKind.i64.wrap ((↑i : Int) + (1 : Int))).toNat : Int))
 (.chk (LK = LK ∧ O = O)
 (.chk (ln = ln ∧ [IntKind.i64, IntKind.i64] = [IntKind.i64, IntKind.i64] ∧ L = L ∧ cap = cap)
 (.chk (x_2.nl = x_2.nl ∧
  (1 : Nat) = (1 : Nat) ∧
    (0 : Nat) = (0 : Nat) ∧
      ak +
            (askD (L.getD (((0 : Nat) + (↑i : Int).toNat) * (2 : Nat) + (0 : Nat)) (0 : Int))
                (R.getD
                  (((0 : Nat) +
                        (IntKind.i64.wrap
                            ((↑r : Int) -
                              takesL
                                (L.getD (((0 : Nat) + (↑i : Int).toNat) * (2 : Nat) + (0 : Nat)) (0 : Int))
                                (L.getD (((0 : Nat) + (↑i : Int).toNat) * (2 : Nat) + (1 : Nat)) (0 : Int)))).toNat) *
                      (1 : Nat) +
                    (0 : Nat))
                  (0 : Int))).length =
          ak +
            (askD (L.getD (((0 : Nat) + (↑i : Int).toNat) * (2 : Nat) + (0 : Nat)) (0 : Int))
                (R.getD
                  (((0 : Nat) +
                        (IntKind.i64.wrap
                            ((↑r : Int) -
                              takesL
                                (L.getD (((0 : Nat) + (↑i : Int).toNat) * (2 : Nat) + (0 : Nat)) (0 : Int))
                                (L.getD (((0 : Nat) + (↑i : Int).toNat) * (2 : Nat) + (1 : Nat)) (0 : Int)))).toNat) *
                      (1 : Nat) +
                    (0 : Nat))
                  (0 : Int))).length ∧
        x_2.cap = x_2.cap)
 (.chk (IntKind.u8 = IntKind.u8 ∧ eqa = eqa)
 (.chk (IntKind.u8 = IntKind.u8 ∧ eqf = eqf)
 (.chk (IntKind.u8 = IntKind.u8 ∧ eqb = eqb)
 (.chk (IntKind.u8 = IntKind.u8 ∧ eqc = eqc)
 (.chk (IntKind.u8 = IntKind.u8 ∧ eqd = eqd)
 (.chk (IntKind.u8 = IntKind.u8 ∧ eqe = eqe)
 (.chk (IntKind.u8 = IntKind.u8 ∧ eqh = eqh)
 (.chk (IntKind.u8 = IntKind.u8 ∧ eql = eql)
 (.chk (IntKind.u16 = IntKind.u16 ∧ esp = esp)
 (.chk (IntKind.u16 = IntKind.u16 ∧ epc = epc)
 (.chk (IntKind.i64 = IntKind.i64 ∧ ead = ead)
 (.chk (IntKind.i64 = IntKind.i64 ∧ eva = eva)
 (.chk (IntKind.i64 = IntKind.i64 ∧ eki = eki)
 (.chk (IntKind.i64 = IntKind.i64 ∧ eba = eba)
 (.chk (AB = AB ∧ [IntKind.u8] = [IntKind.u8] ∧ Bx = Bx ∧ nb = nb ∧ cb = cb)
 (.chk (IntKind.u8 = IntKind.u8 ∧ qa = qa)
 (.chk (IntKind.u8 = IntKind.u8 ∧ qf = qf)
 (.chk (IntKind.u8 = IntKind.u8 ∧ qb = qb)
 (.chk (IntKind.u8 = IntKind.u8 ∧ qc = qc)
 (.chk (IntKind.u8 = IntKind.u8 ∧ qd = qd)
 (.chk (IntKind.u8 = IntKind.u8 ∧ qe = qe)
 (.chk (IntKind.u8 = IntKind.u8 ∧ qh = qh)
 (.chk (IntKind.u8 = IntKind.u8 ∧ ql = ql)
 (.chk (IntKind.u16 = IntKind.u16 ∧ sp = sp)
 (.chk (IntKind.u16 = IntKind.u16 ∧ pc = pc)
 (.chk (IntKind.i64 = IntKind.i64 ∧ ad = ad)
 (.chk (IntKind.i64 = IntKind.i64 ∧ va = va)
 (.chk (IntKind.i64 = IntKind.i64 ∧ ki = ki)
 (.chk (IntKind.i64 = IntKind.i64 ∧ ba = ba)
 (.chk (x_3.nl' = x_3.nl' ∧
  [IntKind.i64] = [IntKind.i64] ∧
    List.take
            (((IntKind.i64.wrap
                    ((↑r : Int) -
                      takesL
                        (L.getD (((0 : Nat) + (↑i : Int).toNat) * (2 : Nat) + (0 : Nat)) (0 : Int))
                        (L.getD (((0 : Nat) + (↑i : Int).toNat) * (2 : Nat) + (1 : Nat)) (0 : Int)))).toNat -
                (0 : Nat)) *
              [IntKind.i64].length)
            R ++
          [oneL (pkL Bx nb)
              (L.getD (((0 : Nat) + (↑i : Int).toNat) * (2 : Nat) + (0 : Nat)) (0 : Int))
              (R.getD
                (((0 : Nat) +
                      (IntKind.i64.wrap
                          ((↑r : Int) -
                            takesL
                              (L.getD (((0 : Nat) + (↑i : Int).toNat) * (2 : Nat) + (0 : Nat)) (0 : Int))
                              (L.getD (((0 : Nat) + (↑i : Int).toNat) * (2 : Nat) + (1 : Nat)) (0 : Int)))).toNat) *
                    (1 : Nat) +
                  (0 : Nat))
                (0 : Int))] =
        List.take
            (((IntKind.i64.wrap
                    ((↑r : Int) -
                      takesL
                        (L.getD (((0 : Nat) + (↑i : Int).toNat) * (2 : Nat) + (0 : Nat)) (0 : Int))
                        (L.getD (((0 : Nat) + (↑i : Int).toNat) * (2 : Nat) + (1 : Nat)) (0 : Int)))).toNat -
                (0 : Nat)) *
              [IntKind.i64].length)
            R ++
          [oneL (pkL Bx nb)
              (L.getD (((0 : Nat) + (↑i : Int).toNat) * (2 : Nat) + (0 : Nat)) (0 : Int))
              (R.getD
                (((0 : Nat) +
                      (IntKind.i64.wrap
                          ((↑r : Int) -
                            takesL
                              (L.getD (((0 : Nat) + (↑i : Int).toNat) * (2 : Nat) + (0 : Nat)) (0 : Int))
                              (L.getD (((0 : Nat) + (↑i : Int).toNat) * (2 : Nat) + (1 : Nat)) (0 : Int)))).toNat) *
                    (1 : Nat) +
                  (0 : Nat))
                (0 : Int))] ∧
      x_3.cap = x_3.cap)
 (.chk (x_2.nl = x_2.nl ∧
  [IntKind.u16] = [IntKind.u16] ∧
    Q ++
          askD (L.getD (((0 : Nat) + (↑i : Int).toNat) * (2 : Nat) + (0 : Nat)) (0 : Int))
            (R.getD
              (((0 : Nat) +
                    (IntKind.i64.wrap
                        ((↑r : Int) -
                          takesL
                            (L.getD (((0 : Nat) + (↑i : Int).toNat) * (2 : Nat) + (0 : Nat)) (0 : Int))
                            (L.getD (((0 : Nat) + (↑i : Int).toNat) * (2 : Nat) + (1 : Nat)) (0 : Int)))).toNat) *
                  (1 : Nat) +
                (0 : Nat))
              (0 : Int)) =
        Q ++
          askD (L.getD (((0 : Nat) + (↑i : Int).toNat) * (2 : Nat) + (0 : Nat)) (0 : Int))
            (R.getD
              (((0 : Nat) +
                    (IntKind.i64.wrap
                        ((↑r : Int) -
                          takesL
                            (L.getD (((0 : Nat) + (↑i : Int).toNat) * (2 : Nat) + (0 : Nat)) (0 : Int))
                            (L.getD (((0 : Nat) + (↑i : Int).toNat) * (2 : Nat) + (1 : Nat)) (0 : Int)))).toNat) *
                  (1 : Nat) +
                (0 : Nat))
              (0 : Int)) ∧
      x_2.cap = x_2.cap)
 (.leaf (.inl ⟨List.take
    (((IntKind.i64.wrap
            ((↑r : Int) -
              takesL
                (L.getD (((0 : Nat) + (↑i : Int).toNat) * (2 : Nat) + (0 : Nat)) (0 : Int))
                (L.getD (((0 : Nat) + (↑i : Int).toNat) * (2 : Nat) + (1 : Nat)) (0 : Int)))).toNat -
        (0 : Nat)) *
      [IntKind.i64].length)
    R ++
  [oneL (pkL Bx nb)
      (L.getD (((0 : Nat) + (↑i : Int).toNat) * (2 : Nat) + (0 : Nat)) (0 : Int))
      (R.getD
        (((0 : Nat) +
              (IntKind.i64.wrap
                  ((↑r : Int) -
                    takesL
                      (L.getD (((0 : Nat) + (↑i : Int).toNat) * (2 : Nat) + (0 : Nat)) (0 : Int))
                      (L.getD (((0 : Nat) + (↑i : Int).toNat) * (2 : Nat) + (1 : Nat)) (0 : Int)))).toNat) *
            (1 : Nat) +
          (0 : Nat))
        (0 : Int))], (IntKind.i64.wrap
        ((↑r : Int) -
          takesL (L.getD (((0 : Nat) + (↑i : Int).toNat) * (2 : Nat) + (0 : Nat)) (0 : Int))
            (L.getD (((0 : Nat) + (↑i : Int).toNat) * (2 : Nat) + (1 : Nat)) (0 : Int)))).toNat -
    (0 : Nat) +
  (1 : Nat), x_3.nl', x_3.cap, Q ++
  askD (L.getD (((0 : Nat) + (↑i : Int).toNat) * (2 : Nat) + (0 : Nat)) (0 : Int))
    (R.getD
      (((0 : Nat) +
            (IntKind.i64.wrap
                ((↑r : Int) -
                  takesL
                    (L.getD (((0 : Nat) + (↑i : Int).toNat) * (2 : Nat) + (0 : Nat)) (0 : Int))
                    (L.getD (((0 : Nat) + (↑i : Int).toNat) * (2 : Nat) + (1 : Nat)) (0 : Int)))).toNat) *
          (1 : Nat) +
        (0 : Nat))
      (0 : Int)), ak +
  (askD (L.getD (((0 : Nat) + (↑i : Int).toNat) * (2 : Nat) + (0 : Nat)) (0 : Int))
      (R.getD
        (((0 : Nat) +
              (IntKind.i64.wrap
                  ((↑r : Int) -
                    takesL
                      (L.getD (((0 : Nat) + (↑i : Int).toNat) * (2 : Nat) + (0 : Nat)) (0 : Int))
                      (L.getD (((0 : Nat) + (↑i : Int).toNat) * (2 : Nat) + (1 : Nat)) (0 : Int)))).toNat) *
            (1 : Nat) +
          (0 : Nat))
        (0 : Int))).length, x_2.nl, x_2.cap, (IntKind.i64.wrap ((↑i : Int) + (1 : Int))).toNat⟩)))))))))))))))))))))))))))))))))))))))))))))))))))
 (.all fun x_1 : Bool =>
 (.br (x_1)
 (.all fun x_2 : Bool =>
 (.br (x_2)
 (.chk (nl = false ∧
  ((0 : Nat) +
          (IntKind.i64.wrap
              ((↑r : Int) -
                takesL
                  (L.getD (((0 : Nat) + (↑i : Int).toNat) * (2 : Nat) + (0 : Nat)) (0 : Int))
                  (L.getD (((0 : Nat) + (↑i : Int).toNat) * (2 : Nat) + (1 : Nat)) (0 : Int)))).toNat) *
        (1 : Nat) +
      (1 : Nat) ≤
    R.length)
 (.chk ((an = an ∧ ac = ac) ∧
  sym.XR w AB [IntKind.u8] Bx nb ∧
    Q.length = ak ∧ ak ≤ ac ∧ ac ≤ Go.maxLen ∧ (an = true → ak = (0 : Nat) ∧ ac = (0 : Nat)) ∧ ak ≤ (1000000 : Nat))
 (.all fun x_3 : RowR
  (ak +
    (askD (L.getD (((0 : Nat) + (↑i : Int).toNat) * (2 : Nat) + (0 : Nat)) (0 : Int))
        (R.getD
          (((0 : Nat) +
                (IntKind.i64.wrap
                    ((↑r : Int) -
                      takesL
                        (L.getD (((0 : Nat) + (↑i : Int).toNat) * (2 : Nat) + (0 : Nat)) (0 : Int))
                        (L.getD (((0 : Nat) + (↑i : Int).toNat) * (2 : Nat) + (1 : Nat)) (0 : Int)))).toNat) *
              (1 : Nat) +
            (0 : Nat))
          (0 : Int))).length) =>
 (.chk ((0 : Int) ≤ (0 : Int) ∧
  (0 : Int) ≤
      IntKind.i64.wrap
        ((↑r : Int) -
          takesL (L.getD (((0 : Nat) + (↑i : Int).toNat) * (2 : Nat) + (0 : Nat)) (0 : Int))
            (L.getD (((0 : Nat) + (↑i : Int).toNat) * (2 : Nat) + (1 : Nat)) (0 : Int))) ∧
    IntKind.i64.wrap
        ((↑r : Int) -
          takesL (L.getD (((0 : Nat) + (↑i : Int).toNat) * (2 : Nat) + (0 : Nat)) (0 : Int))
            (L.getD (((0 : Nat) + (↑i : Int).toNat) * (2 : Nat) + (1 : Nat)) (0 : Int))) ≤
      (↑d : Int))
 (.chk (True ∧
  (nl = nl ∧
      sym.cutO (0 : Nat) d (0 : Nat) = (0 : Nat) ∧
        d - (0 : Nat) = d ∧
          ((IntKind.i64.wrap
                      ((↑r : Int) -
                        takesL
                          (L.getD (((0 : Nat) + (↑i : Int).toNat) * (2 : Nat) + (0 : Nat)) (0 : Int))
                          (L.getD (((0 : Nat) + (↑i : Int).toNat) * (2 : Nat) + (1 : Nat)) (0 : Int)))).toNat -
                  (0 : Nat)) *
                [IntKind.i64].length ≤
              R.length ∧
            (IntKind.i64.wrap
                      ((↑r : Int) -
                        takesL
                          (L.getD (((0 : Nat) + (↑i : Int).toNat) * (2 : Nat) + (0 : Nat)) (0 : Int))
                          (L.getD (((0 : Nat) + (↑i : Int).toNat) * (2 : Nat) + (1 : Nat)) (0 : Int)))).toNat -
                  (0 : Nat) ≤
                d - (0 : Nat) ∧
              d - (0 : Nat) ≤ Go.maxLen ∧ (nl = true → d - (0 : Nat) = (0 : Nat))) ∧
    ((IntKind.i64.wrap
                ((↑r : Int) -
                  takesL
                    (L.getD (((0 : Nat) + (↑i : Int).toNat) * (2 : Nat) + (0 : Nat)) (0 : Int))
                    (L.getD (((0 : Nat) + (↑i : Int).toNat) * (2 : Nat) + (1 : Nat)) (0 : Int)))).toNat -
            (0 : Nat) +
          (1 : Nat)) *
        (8 : Nat) ≤
      (140737488355328 : Nat))
 (.all fun x_4 : sym.Grown nl (1 : Nat)
  ((IntKind.i64.wrap
          ((↑r : Int) -
            takesL
              (L.getD (((0 : Nat) + (↑i : Int).toNat) * (2 : Nat) + (0 : Nat)) (0 : Int))
              (L.getD (((0 : Nat) + (↑i : Int).toNat) * (2 : Nat) + (1 : Nat)) (0 : Int)))).toNat -
      (0 : Nat) +
    (1 : Nat)) =>
 (.chk (ln = ln ∧ (2 : Nat) = (2 : Nat) ∧ (0 : Nat) = (0 : Nat) ∧ m = m ∧ cap = cap)
 (.chk (IntKind.i64 = IntKind.i64 ∧ (0 : Int) = (0 : Int))
 (.chk (IntKind.i64 = IntKind.i64 ∧ (0 : Int) = (0 : Int))
 (.chk (x_4.nl' = x_4.nl' ∧
  [IntKind.i64].length = (1 : Nat) ∧
    (0 : Nat) = (0 : Nat) ∧
      (IntKind.i64.wrap
                  ((↑r : Int) -
                    takesL
                      (L.getD (((0 : Nat) + (↑i : Int).toNat) * (2 : Nat) + (0 : Nat)) (0 : Int))
                      (L.getD (((0 : Nat) + (↑i : Int).toNat) * (2 : Nat) + (1 : Nat)) (0 : Int)))).toNat -
              (0 : Nat) +
            (1 : Nat) =
          (IntKind.i64.wrap
                  ((↑r : Int) -
                    takesL
                      (L.getD (((0 : Nat) + (↑i : Int).toNat) * (2 : Nat) + (0 : Nat)) (0 : Int))
                      (L.getD (((0 : Nat) + (↑i : Int).toNat) * (2 : Nat) + (1 : Nat)) (0 : Int)))).toNat -
              (0 : Nat) +
            (1 : Nat) ∧
        x_4.cap = x_4.cap)
 (.chk (ln = ln ∧ (2 : Nat) = (2 : Nat) ∧ (0 : Nat) = (0 : Nat) ∧ m = m ∧ cap = cap)
 (.chk (IntKind.i64 = IntKind.i64 ∧ (↑m : Int) = (↑m : Int))
 (.chk (IntKind.i64 = IntKind.i64 ∧
  IntKind.i64.wrap ((↑i : Int) + (1 : Int)) = (↑(IntKind.i64.wrap ((↑i : Int) + (1 : Int))).toNat : Int))
 (.chk (LK = LK ∧ O = O)
 (.chk (ln = ln ∧ [IntKind.i64, IntKind.i64] = [IntKind.i64, IntKind.i64] ∧ L = L ∧ cap = cap)
 (.chk (x_3.nl = x_3.nl ∧
  (1 : Nat) = (1 : Nat) ∧
    (0 : Nat) = (0 : Nat) ∧
      ak +
            (askD (L.getD (((0 : Nat) + (↑i : Int).toNat) * (2 : Nat) + (0 : Nat)) (0 : Int))
                (R.getD
                  (((0 : Nat) +
                        (IntKind.i64.wrap
                            ((↑r : Int) -
                              takesL
                                (L.getD (((0 : Nat) + (↑i : Int).toNat) * (2 : Nat) + (0 : Nat)) (0 : Int))
                                (L.getD (((0 : Nat) + (↑i : Int).toNat) * (2 : Nat) + (1 : Nat)) (0 : Int)))).toNat) *
                      (1 : Nat) +
                    (0 : Nat))
                  (0 : Int))).length =
          ak +
            (askD (L.getD (((0 : Nat) + (↑i : Int).toNat) * (2 : Nat) + (0 : Nat)) (0 : Int))
                (R.getD
                  (((0 : Nat) +
                        (IntKind.i64.wrap
                            ((↑r : Int) -
                              takesL
                                (L.getD (((0 : Nat) + (↑i : Int).toNat) * (2 : Nat) + (0 : Nat)) (0 : Int))
                                (L.getD (((0 : Nat) + (↑i : Int).toNat) * (2 : Nat) + (1 : Nat)) (0 : Int)))).toNat) *
                      (1 : Nat) +
                    (0 : Nat))
                  (0 : Int))).length ∧
        x_3.cap = x_3.cap)
 (.chk (IntKind.u8 = IntKind.u8 ∧ eqa = eqa)
 (.chk (IntKind.u8 = IntKind.u8 ∧ eqf = eqf)
 (.chk (IntKind.u8 = IntKind.u8 ∧ eqb = eqb)
 (.chk (IntKind.u8 = IntKind.u8 ∧ eqc = eqc)
 (.chk (IntKind.u8 = IntKind.u8 ∧ eqd = eqd)
 (.chk (IntKind.u8 = IntKind.u8 ∧ eqe = eqe)
 (.chk (IntKind.u8 = IntKind.u8 ∧ eqh = eqh)
 (.chk (IntKind.u8 = IntKind.u8 ∧ eql = eql)
 (.chk (IntKind.u16 = IntKind.u16 ∧ esp = esp)
 (.chk (IntKind.u16 = IntKind.u16 ∧ epc = epc)
 (.chk (IntKind.i64 = IntKind.i64 ∧ ead = ead)
 (.chk (IntKind.i64 = IntKind.i64 ∧ eva = eva)
 (.chk (IntKind.i64 = IntKind.i64 ∧ eki = eki)
 (.chk (IntKind.i64 = IntKind.i64 ∧ eba = eba)
 (.chk (AB = AB ∧ [IntKind.u8] = [IntKind.u8] ∧ Bx = Bx ∧ nb = nb ∧ cb = cb)
 (.chk (IntKind.u8 = IntKind.u8 ∧ qa = qa)
 (.chk (IntKind.u8 = IntKind.u8 ∧ qf = qf)
 (.chk (IntKind.u8 = IntKind.u8 ∧ qb = qb)
 (.chk (IntKind.u8 = IntKind.u8 ∧ qc = qc)
 (.chk (IntKind.u8 = IntKind.u8 ∧ qd = qd)
 (.chk (IntKind.u8 = IntKind.u8 ∧ qe = qe)
 (.chk (IntKind.u8 = IntKind.u8 ∧ qh = qh)
 (.chk (IntKind.u8 = IntKind.u8 ∧ ql = ql)
 (.chk (IntKind.u16 = IntKind.u16 ∧ sp = sp)
 (.chk (IntKind.u16 = IntKind.u16 ∧ pc = pc)
 (.chk (IntKind.i64 = IntKind.i64 ∧ ad = ad)
 (.chk (IntKind.i64 = IntKind.i64 ∧ va = va)
 (.chk (IntKind.i64 = IntKind.i64 ∧ ki = ki)
 (.chk (IntKind.i64 = IntKind.i64 ∧ ba = ba)
 (.chk (x_4.nl' = x_4.nl' ∧
  [IntKind.i64] = [IntKind.i64] ∧
    List.take
            (((IntKind.i64.wrap
                    ((↑r : Int) -
                      takesL
                        (L.getD (((0 : Nat) + (↑i : Int).toNat) * (2 : Nat) + (0 : Nat)) (0 : Int))
                        (L.getD (((0 : Nat) + (↑i : Int).toNat) * (2 : Nat) + (1 : Nat)) (0 : Int)))).toNat -
                (0 : Nat)) *
              [IntKind.i64].length)
            R ++
          [oneL (pkL Bx nb)
              (L.getD (((0 : Nat) + (↑i : Int).toNat) * (2 : Nat) + (0 : Nat)) (0 : Int))
              (R.getD
                (((0 : Nat) +
                      (IntKind.i64.wrap
                          ((↑r : Int) -
                            takesL
                              (L.getD (((0 : Nat) + (↑i : Int).toNat) * (2 : Nat) + (0 : Nat)) (0 : Int))
                              (L.getD (((0 : Nat) + (↑i : Int).toNat) * (2 : Nat) + (1 : Nat)) (0 : Int)))).toNat) *
                    (1 : Nat) +
                  (0 : Nat))
                (0 : Int))] =
        List.take
            (((IntKind.i64.wrap
                    ((↑r : Int) -
                      takesL
                        (L.getD (((0 : Nat) + (↑i : Int).toNat) * (2 : Nat) + (0 : Nat)) (0 : Int))
                        (L.getD (((0 : Nat) + (↑i : Int).toNat) * (2 : Nat) + (1 : Nat)) (0 : Int)))).toNat -
                (0 : Nat)) *
              [IntKind.i64].length)
            R ++
          [oneL (pkL Bx nb)
              (L.getD (((0 : Nat) + (↑i : Int).toNat) * (2 : Nat) + (0 : Nat)) (0 : Int))
              (R.getD
                (((0 : Nat) +
                      (IntKind.i64.wrap
                          ((↑r : Int) -
                            takesL
                              (L.getD (((0 : Nat) + (↑i : Int).toNat) * (2 : Nat) + (0 : Nat)) (0 : Int))
                              (L.getD (((0 : Nat) + (↑i : Int).toNat) * (2 : Nat) + (1 : Nat)) (0 : Int)))).toNat) *
                    (1 : Nat) +
                  (0 : Nat))
                (0 : Int))] ∧
      x_4.cap = x_4.cap)
 (.chk (x_3.nl = x_3.nl ∧
  [IntKind.u16] = [IntKind.u16] ∧
    Q ++
          askD (L.getD (((0 : Nat) + (↑i : Int).toNat) * (2 : Nat) + (0 : Nat)) (0 : Int))
            (R.getD
              (((0 : Nat) +
                    (IntKind.i64.wrap
                        ((↑r : Int) -
                          takesL
                            (L.getD (((0 : Nat) + (↑i : Int).toNat) * (2 : Nat) + (0 : Nat)) (0 : Int))
                            (L.getD (((0 : Nat) + (↑i : Int).toNat) * (2 : Nat) + (1 : Nat)) (0 : Int)))).toNat) *
                  (1 : Nat) +
                (0 : Nat))
              (0 : Int)) =
        Q ++
          askD (L.getD (((0 : Nat) + (↑i : Int).toNat) * (2 : Nat) + (0 : Nat)) (0 : Int))
            (R.getD
              (((0 : Nat) +
                    (IntKind.i64.wrap
                        ((↑r : Int) -
                          takesL
                            (L.getD (((0 : Nat) + (↑i : Int).toNat) * (2 : Nat) + (0 : Nat)) (0 : Int))
                            (L.getD (((0 : Nat) + (↑i : Int).toNat) * (2 : Nat) + (1 : Nat)) (0 : Int)))).toNat) *
                  (1 : Nat) +
                (0 : Nat))
              (0 : Int)) ∧
      x_3.cap = x_3.cap)
 (.leaf (.inl ⟨List.take
    (((IntKind.i64.wrap
            ((↑r : Int) -
              takesL
                (L.getD (((0 : Nat) + (↑i : Int).toNat) * (2 : Nat) + (0 : Nat)) (0 : Int))
                (L.getD (((0 : Nat) + (↑i : Int).toNat) * (2 : Nat) + (1 : Nat)) (0 : Int)))).toNat -
        (0 : Nat)) *
      [IntKind.i64].length)
    R ++
  [oneL (pkL Bx nb)
      (L.getD (((0 : Nat) + (↑i : Int).toNat) * (2 : Nat) + (0 : Nat)) (0 : Int))
      (R.getD
        (((0 : Nat) +
              (IntKind.i64.wrap
                  ((↑r : Int) -
                    takesL
                      (L.getD (((0 : Nat) + (↑i : Int).toNat) * (2 : Nat) + (0 : Nat)) (0 : Int))
                      (L.getD (((0 : Nat) + (↑i : Int).toNat) * (2 : Nat) + (1 : Nat)) (0 : Int)))).toNat) *
            (1 : Nat) +
          (0 : Nat))
        (0 : Int))], (IntKind.i64.wrap
        ((↑r : Int) -
          takesL (L.getD (((0 : Nat) + (↑i : Int).toNat) * (2 : Nat) + (0 : Nat)) (0 : Int))
            (L.getD (((0 : Nat) + (↑i : Int).toNat) * (2 : Nat) + (1 : Nat)) (0 : Int)))).toNat -
    (0 : Nat) +
  (1 : Nat), x_4.nl', x_4.cap, Q ++
  askD (L.getD (((0 : Nat) + (↑i : Int).toNat) * (2 : Nat) + (0 : Nat)) (0 : Int))
    (R.getD
      (((0 : Nat) +
            (IntKind.i64.wrap
                ((↑r : Int) -
                  takesL
                    (L.getD (((0 : Nat) + (↑i : Int).toNat) * (2 : Nat) + (0 : Nat)) (0 : Int))
                    (L.getD (((0 : Nat) + (↑i : Int).toNat) * (2 : Nat) + (1 : Nat)) (0 : Int)))).toNat) *
          (1 : Nat) +
        (0 : Nat))
      (0 : Int)), ak +
  (askD (L.getD (((0 : Nat) + (↑i : Int).toNat) * (2 : Nat) + (0 : Nat)) (0 : Int))
      (R.getD
        (((0 : Nat) +
              (IntKind.i64.wrap
                  ((↑r : Int) -
                    takesL
                      (L.getD (((0 : Nat) + (↑i : Int).toNat) * (2 : Nat) + (0 : Nat)) (0 : Int))
                      (L.getD (((0 : Nat) + (↑i : Int).toNat) * (2 : Nat) + (1 : Nat)) (0 : Int)))).toNat) *
            (1 : Nat) +
          (0 : Nat))
        (0 : Int))).length, x_3.nl, x_3.cap, (IntKind.i64.wrap ((↑i : Int) + (1 : Int))).toNat⟩)))))))))))))))))))))))))))))))))))))))))))))))))
 (.chk (nl = false ∧
  ((0 : Nat) +
          (IntKind.i64.wrap
              ((↑r : Int) -
                takesL
                  (L.getD (((0 : Nat) + (↑i : Int).toNat) * (2 : Nat) + (0 : Nat)) (0 : Int))
                  (L.getD (((0 : Nat) + (↑i : Int).toNat) * (2 : Nat) + (1 : Nat)) (0 : Int)))).toNat) *
        (1 : Nat) +
      (1 : Nat) ≤
    R.length)
 (.chk ((an = an ∧ ac = ac) ∧
  sym.XR w AB [IntKind.u8] Bx nb ∧
    Q.length = ak ∧ ak ≤ ac ∧ ac ≤ Go.maxLen ∧ (an = true → ak = (0 : Nat) ∧ ac = (0 : Nat)) ∧ ak ≤ (1000000 : Nat))
 (.all fun x_3 : RowR
  (ak +
    (askD (L.getD (((0 : Nat) + (↑i : Int).toNat) * (2 : Nat) + (0 : Nat)) (0 : Int))
        (R.getD
          (((0 : Nat) +
                (IntKind.i64.wrap
                    ((↑r : Int) -
                      takesL
                        (L.getD (((0 : Nat) + (↑i : Int).toNat) * (2 : Nat) + (0 : Nat)) (0 : Int))
                        (L.getD (((0 : Nat) + (↑i : Int).toNat) * (2 : Nat) + (1 : Nat)) (0 : Int)))).toNat) *
              (1 : Nat) +
            (0 : Nat))
          (0 : Int))).length) =>
 (.chk ((0 : Int) ≤ (0 : Int) ∧
  (0 : Int) ≤
      IntKind.i64.wrap
        ((↑r : Int) -
          takesL (L.getD (((0 : Nat) + (↑i : Int).toNat) * (2 : Nat) + (0 : Nat)) (0 : Int))
            (L.getD (((0 : Nat) + (↑i : Int).toNat) * (2 : Nat) + (1 : Nat)) (0 : Int))) ∧
    IntKind.i64.wrap
        ((↑r : Int) -
          takesL (L.getD (((0 : Nat) + (↑i : Int).toNat) * (2 : Nat) + (0 : Nat)) (0 : Int))
            (L.getD (((0 : Nat) + (↑i : Int).toNat) * (2 : Nat) + (1 : Nat)) (0 : Int))) ≤
      (↑d : Int))
 (.chk (True ∧
  (nl = nl ∧
      sym.cutO (0 : Nat) d (0 : Nat) = (0 : Nat) ∧
        d - (0 : Nat) = d ∧
          ((IntKind.i64.wrap
                      ((↑r : Int) -
                        takesL
                          (L.getD (((0 : Nat) + (↑i : Int).toNat) * (2 : Nat) + (0 : Nat)) (0 : Int))
                          (L.getD (((0 : Nat) + (↑i : Int).toNat) * (2 : Nat) + (1 : Nat)) (0 : Int)))).toNat -
                  (0 : Nat)) *
                [IntKind.i64].length ≤
              R.length ∧
            (IntKind.i64.wrap
                      ((↑r : Int) -
                        takesL
                          (L.getD (((0 : Nat) + (↑i : Int).toNat) * (2 : Nat) + (0 : Nat)) (0 : Int))
                          (L.getD (((0 : Nat) + (↑i : Int).toNat) * (2 : Nat) + (1 : Nat)) (0 : Int)))).toNat -
                  (0 : Nat) ≤
                d - (0 : Nat) ∧
              d - (0 : Nat) ≤ Go.maxLen ∧ (nl = true → d - (0 : Nat) = (0 : Nat))) ∧
    ((IntKind.i64.wrap
                ((↑r : Int) -
                  takesL
                    (L.getD (((0 : Nat) + (↑i : Int).toNat) * (2 : Nat) + (0 : Nat)) (0 : Int))
                    (L.getD (((0 : Nat) + (↑i : Int).toNat) * (2 : Nat) + (1 : Nat)) (0 : Int)))).toNat -
            (0 : Nat) +
          (1 : Nat)) *
        (8 : Nat) ≤
      (140737488355328 : Nat))
 (.all fun x_4 : sym.Grown nl (1 : Nat)
  ((IntKind.i64.wrap
          ((↑r : Int) -
            takesL
              (L.getD (((0 : Nat) + (↑i : Int).toNat) * (2 : Nat) + (0 : Nat)) (0 : Int))
              (L.getD (((0 : Nat) + (↑i : Int).toNat) * (2 : Nat) + (1 : Nat)) (0 : Int)))).toNat -
      (0 : Nat) +
    (1 : Nat)) =>
 (.chk (ln = ln ∧ (2 : Nat) = (2 : Nat) ∧ (0 : Nat) = (0 : Nat) ∧ m = m ∧ cap = cap)
 (.chk (IntKind.i64 = IntKind.i64 ∧ (0 : Int) = (0 : Int))
 (.chk (IntKind.i64 = IntKind.i64 ∧ (0 : Int) = (0 : Int))
 (.chk (x_4.nl' = x_4.nl' ∧
  [IntKind.i64].length = (1 : Nat) ∧
    (0 : Nat) = (0 : Nat) ∧
      (IntKind.i64.wrap
                  ((↑r : Int) -
                    takesL
                      (L.getD (((0 : Nat) + (↑i : Int).toNat) * (2 : Nat) + (0 : Nat)) (0 : Int))
                      (L.getD (((0 : Nat) + (↑i : Int).toNat) * (2 : Nat) + (1 : Nat)) (0 : Int)))).toNat -
              (0 : Nat) +
            (1 : Nat) =
          (IntKind.i64.wrap
                  ((↑r : Int) -
                    takesL
                      (L.getD (((0 : Nat) + (↑i : Int).toNat) * (2 : Nat) + (0 : Nat)) (0 : Int))
                      (L.getD (((0 : Nat) + (↑i : Int).toNat) * (2 : Nat) + (1 : Nat)) (0 : Int)))).toNat -
              (0 : Nat) +
            (1 : Nat) ∧
        x_4.cap = x_4.cap)
 (.chk (ln = ln ∧ (2 : Nat) = (2 : Nat) ∧ (0 : Nat) = (0 : Nat) ∧ m = m ∧ cap = cap)
 (.chk (IntKind.i64 = IntKind.i64 ∧ (↑m : Int) = (↑m : Int))
 (.chk (IntKind.i64 = IntKind.i64 ∧
  IntKind.i64.wrap ((↑i : Int) + (1 : Int)) = (↑(IntKind.i64.wrap ((↑i : Int) + (1 : Int))).toNat : Int))
 (.chk (LK = LK ∧ O = O)
 (.chk (ln = ln ∧ [IntKind.i64, IntKind.i64] = [IntKind.i64, IntKind.i64] ∧ L = L ∧ cap = cap)
 (.chk (x_3.nl = x_3.nl ∧
  (1 : Nat) = (1 : Nat) ∧
    (0 : Nat) = (0 : Nat) ∧
      ak +
            (askD (L.getD (((0 : Nat) + (↑i : Int).toNat) * (2 : Nat) + (0 : Nat)) (0 : Int))
                (R.getD
                  (((0 : Nat) +
                        (IntKind.i64.wrap
                            ((↑r : Int) -
                              takesL
                                (L.getD (((0 : Nat) + (↑i : Int).toNat) * (2 : Nat) + (0 : Nat)) (0 : Int))
                                (L.getD (((0 : Nat) + (↑i : Int).toNat) * (2 : Nat) + (1 : Nat)) (0 : Int)))).toNat) *
                      (1 : Nat) +
                    (0 : Nat))
                  (0 : Int))).length =
          ak +
            (askD (L.getD (((0 : Nat) + (↑i : Int).toNat) * (2 : Nat) + (0 : Nat)) (0 : Int))
                (R.getD
                  (((0 : Nat) +
                        (IntKind.i64.wrap
                            ((↑r : Int) -
                              takesL
                                (L.getD (((0 : Nat) + (↑i : Int).toNat) * (2 : Nat) + (0 : Nat)) (0 : Int))
                                (L.getD (((0 : Nat) + (↑i : Int).toNat) * (2 : Nat) + (1 : Nat)) (0 : Int)))).toNat) *
                      (1 : Nat) +
                    (0 : Nat))
                  (0 : Int))).length ∧
        x_3.cap = x_3.cap)
 (.chk (IntKind.u8 = IntKind.u8 ∧ eqa = eqa)
 (.chk (IntKind.u8 = IntKind.u8 ∧ eqf = eqf)
 (.chk (IntKind.u8 = IntKind.u8 ∧ eqb = eqb)
 (.chk (IntKind.u8 = IntKind.u8 ∧ eqc = eqc)
 (.chk (IntKind.u8 = IntKind.u8 ∧ eqd = eqd)
 (.chk (IntKind.u8 = IntKind.u8 ∧ eqe = eqe)
 (.chk (IntKind.u8 = IntKind.u8 ∧ eqh = eqh)
 (.chk (IntKind.u8 = IntKind.u8 ∧ eql = eql)
 (.chk (IntKind.u16 = IntKind.u16 ∧ esp = esp)
 (.chk (IntKind.u16 = IntKind.u16 ∧ epc = epc)
 (.chk (IntKind.i64 = IntKind.i64 ∧ ead = ead)
 (.chk (IntKind.i64 = IntKind.i64 ∧ eva = eva)
 (.chk (IntKind.i64 = IntKind.i64 ∧ eki = eki)
 (.chk (IntKind.i64 = IntKind.i64 ∧ eba = eba)
 (.chk (AB = AB ∧ [IntKind.u8] = [IntKind.u8] ∧ Bx = Bx ∧ nb = nb ∧ cb = cb)
 (.chk (IntKind.u8 = IntKind.u8 ∧ qa = qa)
 (.chk (IntKind.u8 = IntKind.u8 ∧ qf = qf)
 (.chk (IntKind.u8 = IntKind.u8 ∧ qb = qb)
 (.chk (IntKind.u8 = IntKind.u8 ∧ qc = qc)
 (.chk (IntKind.u8 = IntKind.u8 ∧ qd = qd)
 (.chk (IntKind.u8 = IntKind.u8 ∧ qe = qe)
 (.chk (IntKind.u8 = IntKind.u8 ∧ qh = qh)
 (.chk (IntKind.u8 = IntKind.u8 ∧ ql = ql)
 (.chk (IntKind.u16 = IntKind.u16 ∧ sp = sp)
 (.chk (IntKind.u16 = IntKind.u16 ∧ pc = pc)
 (.chk (IntKind.i64 = IntKind.i64 ∧ ad = ad)
 (.chk (IntKind.i64 = IntKind.i64 ∧ va = va)
 (.chk (IntKind.i64 = IntKind.i64 ∧ ki = ki)
 (.chk (IntKind.i64 = IntKind.i64 ∧ ba = ba)
 (.chk (x_4.nl' = x_4.nl' ∧
  [IntKind.i64] = [IntKind.i64] ∧
    List.take
            (((IntKind.i64.wrap
                    ((↑r : Int) -
                      takesL
                        (L.getD (((0 : Nat) + (↑i : Int).toNat) * (2 : Nat) + (0 : Nat)) (0 : Int))
                        (L.getD (((0 : Nat) + (↑i : Int).toNat) * (2 : Nat) + (1 : Nat)) (0 : Int)))).toNat -
                (0 : Nat)) *
              [IntKind.i64].length)
            R ++
          [oneL (pkL Bx nb)
              (L.getD (((0 : Nat) + (↑i : Int).toNat) * (2 : Nat) + (0 : Nat)) (0 : Int))
              (R.getD
                (((0 : Nat) +
                      (IntKind.i64.wrap
                          ((↑r : Int) -
                            takesL
                              (L.getD (((0 : Nat) + (↑i : Int).toNat) * (2 : Nat) + (0 : Nat)) (0 : Int))
                              (L.getD (((0 : Nat) + (↑i : Int).toNat) * (2 : Nat) + (1 : Nat)) (0 : Int)))).toNat) *
                    (1 : Nat) +
                  (0 : Nat))
                (0 : Int))] =
        List.take
            (((IntKind.i64.wrap
                    ((↑r : Int) -
                      takesL
                        (L.getD (((0 : Nat) + (↑i : Int).toNat) * (2 : Nat) + (0 : Nat)) (0 : Int))
                        (L.getD (((0 : Nat) + (↑i : Int).toNat) * (2 : Nat) + (1 : Nat)) (0 : Int)))).toNat -
                (0 : Nat)) *
              [IntKind.i64].length)
            R ++
          [oneL (pkL Bx nb)
              (L.getD (((0 : Nat) + (↑i : Int).toNat) * (2 : Nat) + (0 : Nat)) (0 : Int))
              (R.getD
                (((0 : Nat) +
                      (IntKind.i64.wrap
                          ((↑r : Int) -
                            takesL
                              (L.getD (((0 : Nat) + (↑i : Int).toNat) * (2 : Nat) + (0 : Nat)) (0 : Int))
                              (L.getD (((0 : Nat) + (↑i : Int).toNat) * (2 : Nat) + (1 : Nat)) (0 : Int)))).toNat) *
                    (1 : Nat) +
                  (0 : Nat))
                (0 : Int))] ∧
      x_4.cap = x_4.cap)
 (.chk (x_3.nl = x_3.nl ∧
  [IntKind.u16] = [IntKind.u16] ∧
    Q ++
          askD (L.getD (((0 : Nat) + (↑i : Int).toNat) * (2 : Nat) + (0 : Nat)) (0 : Int))
            (R.getD
              (((0 : Nat) +
                    (IntKind.i64.wrap
                        ((↑r : Int) -
                          takesL
                            (L.getD (((0 : Nat) + (↑i : Int).toNat) * (2 : Nat) + (0 : Nat)) (0 : Int))
                            (L.getD (((0 : Nat) + (↑i : Int).toNat) * (2 : Nat) + (1 : Nat)) (0 : Int)))).toNat) *
                  (1 : Nat) +
                (0 : Nat))
              (0 : Int)) =
        Q ++
          askD (L.getD (((0 : Nat) + (↑i : Int).toNat) * (2 : Nat) + (0 : Nat)) (0 : Int))
            (R.getD
              (((0 : Nat) +
                    (IntKind.i64.wrap
                        ((↑r : Int) -
                          takesL
                            (L.getD (((0 : Nat) + (↑i : Int).toNat) * (2 : Nat) + (0 : Nat)) (0 : Int))
                            (L.getD (((0 : Nat) + (↑i : Int).toNat) * (2 : Nat) + (1 : Nat)) (0 : Int)))).toNat) *
                  (1 : Nat) +
                (0 : Nat))
              (0 : Int)) ∧
      x_3.cap = x_3.cap)
 (.leaf (.inl ⟨List.take
    (((IntKind.i64.wrap
            ((↑r : Int) -
              takesL
                (L.getD (((0 : Nat) + (↑i : Int).toNat) * (2 : Nat) + (0 : Nat)) (0 : Int))
                (L.getD (((0 : Nat) + (↑i : Int).toNat) * (2 : Nat) + (1 : Nat)) (0 : Int)))).toNat -
        (0 : Nat)) *
      [IntKind.i64].length)
    R ++
  [oneL (pkL Bx nb)
      (L.getD (((0 : Nat) + (↑i : Int).toNat) * (2 : Nat) + (0 : Nat)) (0 : Int))
      (R.getD
        (((0 : Nat) +
              (IntKind.i64.wrap
                  ((↑r : Int) -
                    takesL
                      (L.getD (((0 : Nat) + (↑i : Int).toNat) * (2 : Nat) + (0 : Nat)) (0 : Int))
                      (L.getD (((0 : Nat) + (↑i : Int).toNat) * (2 : Nat) + (1 : Nat)) (0 : Int)))).toNat) *
            (1 : Nat) +
          (0 : Nat))
        (0 : Int))], (IntKind.i64.wrap
        ((↑r : Int) -
          takesL (L.getD (((0 : Nat) + (↑i : Int).toNat) * (2 : Nat) + (0 : Nat)) (0 : Int))
            (L.getD (((0 : Nat) + (↑i : Int).toNat) * (2 : Nat) + (1 : Nat)) (0 : Int)))).toNat -
    (0 : Nat) +
  (1 : Nat), x_4.nl', x_4.cap, Q ++
  askD (L.getD (((0 : Nat) + (↑i : Int).toNat) * (2 : Nat) + (0 : Nat)) (0 : Int))
    (R.getD
      (((0 : Nat) +
            (IntKind.i64.wrap
                ((↑r : Int) -
                  takesL
                    (L.getD (((0 : Nat) + (↑i : Int).toNat) * (2 : Nat) + (0 : Nat)) (0 : Int))
                    (L.getD (((0 : Nat) + (↑i : Int).toNat) * (2 : Nat) + (1 : Nat)) (0 : Int)))).toNat) *
          (1 : Nat) +
        (0 : Nat))
      (0 : Int)), ak +
  (askD (L.getD (((0 : Nat) + (↑i : Int).toNat) * (2 : Nat) + (0 : Nat)) (0 : Int))
      (R.getD
        (((0 : Nat) +
              (IntKind.i64.wrap
                  ((↑r : Int) -
                    takesL
                      (L.getD (((0 : Nat) + (↑i : Int).toNat) * (2 : Nat) + (0 : Nat)) (0 : Int))
                      (L.getD (((0 : Nat) + (↑i : Int).toNat) * (2 : Nat) + (1 : Nat)) (0 : Int)))).toNat) *
            (1 : Nat) +
          (0 : Nat))
        (0 : Int))).length, x_3.nl, x_3.cap, (IntKind.i64.wrap ((↑i : Int) + (1 : Int))).toNat⟩)))))))))))))))))))))))))))))))))))))))))))))))))))
 (.chk (nl = false ∧
  ((0 : Nat) +
          (IntKind.i64.wrap
              ((↑r : Int) -
                takesL
                  (L.getD (((0 : Nat) + (↑i : Int).toNat) * (2 : Nat) + (0 : Nat)) (0 : Int))
                  (L.getD (((0 : Nat) + (↑i : Int).toNat) * (2 : Nat) + (1 : Nat)) (0 : Int)))).toNat) *
        (1 : Nat) +
      (1 : Nat) ≤
    R.length)
 (.all fun x_2 : Bool =>
 (.br (x_2)
 (.chk ((an = an ∧ ac = ac) ∧
  sym.XR w AB [IntKind.u8] Bx nb ∧
    Q.length = ak ∧ ak ≤ ac ∧ ac ≤ Go.maxLen ∧ (an = true → ak = (0 : Nat) ∧ ac = (0 : Nat)) ∧ ak ≤ (1000000 : Nat))
 (.all fun x_3 : RowR
  (ak +
    (askD (L.getD (((0 : Nat) + (↑i : Int).toNat) * (2 : Nat) + (0 : Nat)) (0 : Int))
        (R.getD
          (((0 : Nat) +
                (IntKind.i64.wrap
                    ((↑r : Int) -
                      takesL
                        (L.getD (((0 : Nat) + (↑i : Int).toNat) * (2 : Nat) + (0 : Nat)) (0 : Int))
                        (L.getD (((0 : Nat) + (↑i : Int).toNat) * (2 : Nat) + (1 : Nat)) (0 : Int)))).toNat) *
              (1 : Nat) +
            (0 : Nat))
          (0 : Int))).length) =>
 (.chk ((0 : Int) ≤ (0 : Int) ∧
  (0 : Int) ≤
      IntKind.i64.wrap
        ((↑r : Int) -
          takesL (L.getD (((0 : Nat) + (↑i : Int).toNat) * (2 : Nat) + (0 : Nat)) (0 : Int))
            (L.getD (((0 : Nat) + (↑i : Int).toNat) * (2 : Nat) + (1 : Nat)) (0 : Int))) ∧
    IntKind.i64.wrap
        ((↑r : Int) -
          takesL (L.getD (((0 : Nat) + (↑i : Int).toNat) * (2 : Nat) + (0 : Nat)) (0 : Int))
            (L.getD (((0 : Nat) + (↑i : Int).toNat) * (2 : Nat) + (1 : Nat)) (0 : Int))) ≤
      (↑d : Int))
 (.chk (True ∧
  (nl = nl ∧
      sym.cutO (0 : Nat) d (0 : Nat) = (0 : Nat) ∧
        d - (0 : Nat) = d ∧
          ((IntKind.i64.wrap
                      ((↑r : Int) -
                        takesL
                          (L.getD (((0 : Nat) + (↑i : Int).toNat) * (2 : Nat) + (0 : Nat)) (0 : Int))
                          (L.getD (((0 : Nat) + (↑i : Int).toNat) * (2 : Nat) + (1 : Nat)) (0 : Int)))).toNat -
                  (0 : Nat)) *
                [IntKind.i64].length ≤
              R.length ∧
            (IntKind.i64.wrap
                      ((↑r : Int) -
                        takesL
                          (L.getD (((0 : Nat) + (↑i : Int).toNat) * (2 : Nat) + (0 : Nat)) (0 : Int))
                          (L.getD (((0 : Nat) + (↑i : Int).toNat) * (2 : Nat) + (1 : Nat)) (0 : Int)))).toNat -
                  (0 : Nat) ≤
                d - (0 : Nat) ∧
              d - (0 : Nat) ≤ Go.maxLen ∧ (nl = true → d - (0 : Nat) = (0 : Nat))) ∧
    ((IntKind.i64.wrap
                ((↑r : Int) -
                  takesL
                    (L.getD (((0 : Nat) + (↑i : Int).toNat) * (2 : Nat) + (0 : Nat)) (0 : Int))
                    (L.getD (((0 : Nat) + (↑i : Int).toNat) * (2 : Nat) + (1 : Nat)) (0 : Int)))).toNat -
            (0 : Nat) +
          (1 : Nat)) *
        (8 : Nat) ≤
      (140737488355328 : Nat))
 (.all fun x_4 : sym.Grown nl (1 : Nat)
  ((IntKind.i64.wrap
          ((↑r : Int) -
            takesL
              (L.getD (((0 : Nat) + (↑i : Int).toNat) * (2 : Nat) + (0 : Nat)) (0 : Int))
              (L.getD (((0 : Nat) + (↑i : Int).toNat) * (2 : Nat) + (1 : Nat)) (0 : Int)))).toNat -
      (0 : Nat) +
    (1 : Nat)) =>
 (.chk (ln = ln ∧ (2 : Nat) = (2 : Nat) ∧ (0 : Nat) = (0 : Nat) ∧ m = m ∧ cap = cap)
 (.chk (IntKind.i64 = IntKind.i64 ∧ (0 : Int) = (0 : Int))
 (.chk (IntKind.i64 = IntKind.i64 ∧ (0 : Int) = (0 : Int))
 (.chk (x_4.nl' = x_4.nl' ∧
  [IntKind.i64].length = (1 : Nat) ∧
    (0 : Nat) = (0 : Nat) ∧
      (IntKind.i64.wrap
                  ((↑r : Int) -
                    takesL
                      (L.getD (((0 : Nat) + (↑i : Int).toNat) * (2 : Nat) + (0 : Nat)) (0 : Int))
                      (L.getD (((0 : Nat) + (↑i : Int).toNat) * (2 : Nat) + (1 : Nat)) (0 : Int)))).toNat -
              (0 : Nat) +
            (1 : Nat) =
          (IntKind.i64.wrap
                  ((↑r : Int) -
                    takesL
                      (L.getD (((0 : Nat) + (↑i : Int).toNat) * (2 : Nat) + (0 : Nat)) (0 : Int))
                      (L.getD (((0 : Nat) + (↑i : Int).toNat) * (2 : Nat) + (1 : Nat)) (0 : Int)))).toNat -
              (0 : Nat) +
            (1 : Nat) ∧
        x_4.cap = x_4.cap)
 (.chk (ln = ln ∧ (2 : Nat) = (2 : Nat) ∧ (0 : Nat) = (0 : Nat) ∧ m = m ∧ cap = cap)
 (.chk (IntKind.i64 = IntKind.i64 ∧ (↑m : Int) = (↑m : Int))
 (.chk (IntKind.i64 = IntKind.i64 ∧
  IntKind.i64.wrap ((↑i : Int) + (1 : Int)) = (↑(IntKind.i64.wrap ((↑i : Int) + (1 : Int))).toNat : Int))
 (.chk (LK = LK ∧ O = O)
 (.chk (ln = ln ∧ [IntKind.i64, IntKind.i64] = [IntKind.i64, IntKind.i64] ∧ L = L ∧ cap = cap)
 (.chk (x_3.nl = x_3.nl ∧
  (1 : Nat) = (1 : Nat) ∧
    (0 : Nat) = (0 : Nat) ∧
      ak +
            (askD (L.getD (((0 : Nat) + (↑i : Int).toNat) * (2 : Nat) + (0 : Nat)) (0 : Int))
                (R.getD
                  (((0 : Nat) +
                        (IntKind.i64.wrap
                            ((↑r : Int) -
                              takesL
                                (L.getD (((0 : Nat) + (↑i : Int).toNat) * (2 : Nat) + (0 : Nat)) (0 : Int))
                                (L.getD (((0 : Nat) + (↑i : Int).toNat) * (2 : Nat) + (1 : Nat)) (0 : Int)))).toNat) *
                      (1 : Nat) +
                    (0 : Nat))
                  (0 : Int))).length =
          ak +
            (askD (L.getD (((0 : Nat) + (↑i : Int).toNat) * (2 : Nat) + (0 : Nat)) (0 : Int))
                (R.getD
                  (((0 : Nat) +
                        (IntKind.i64.wrap
                            ((↑r : Int) -
                              takesL
                                (L.getD (((0 : Nat) + (↑i : Int).toNat) * (2 : Nat) + (0 : Nat)) (0 : Int))
                                (L.getD (((0 : Nat) + (↑i : Int).toNat) * (2 : Nat) + (1 : Nat)) (0 : Int)))).toNat) *
                      (1 : Nat) +
                    (0 : Nat))
                  (0 : Int))).length ∧
        x_3.cap = x_3.cap)
 (.chk (IntKind.u8 = IntKind.u8 ∧ eqa = eqa)
 (.chk (IntKind.u8 = IntKind.u8 ∧ eqf = eqf)
 (.chk (IntKind.u8 = IntKind.u8 ∧ eqb = eqb)
 (.chk (IntKind.u8 = IntKind.u8 ∧ eqc = eqc)
 (.chk (IntKind.u8 = IntKind.u8 ∧ eqd = eqd)
 (.chk (IntKind.u8 = IntKind.u8 ∧ eqe = eqe)
 (.chk (IntKind.u8 = IntKind.u8 ∧ eqh = eqh)
 (.chk (IntKind.u8 = IntKind.u8 ∧ eql = eql)
 (.chk (IntKind.u16 = IntKind.u16 ∧ esp = esp)
 (.chk (IntKind.u16 = IntKind.u16 ∧ epc = epc)
 (.chk (IntKind.i64 = IntKind.i64 ∧ ead = ead)
 (.chk (IntKind.i64 = IntKind.i64 ∧ eva = eva)
 (.chk (IntKind.i64 = IntKind.i64 ∧ eki = eki)
 (.chk (IntKind.i64 = IntKind.i64 ∧ eba = eba)
 (.chk (AB = AB ∧ [IntKind.u8] = [IntKind.u8] ∧ Bx = Bx ∧ nb = nb ∧ cb = cb)
 (.chk (IntKind.u8 = IntKind.u8 ∧ qa = qa)
 (.chk (IntKind.u8 = IntKind.u8 ∧ qf = qf)
 (.chk (IntKind.u8 = IntKind.u8 ∧ qb = qb)
 (.chk (IntKind.u8 = IntKind.u8 ∧ qc = qc)
 (.chk (IntKind.u8 = IntKind.u8 ∧ qd = qd)
 (.chk (IntKind.u8 = IntKind.u8 ∧ qe = qe)
 (.chk (IntKind.u8 = IntKind.u8 ∧ qh = qh)
 (.chk (IntKind.u8 = IntKind.u8 ∧ ql = ql)
 (.chk (IntKind.u16 = IntKind.u16 ∧ sp = sp)
 (.chk (IntKind.u16 = IntKind.u16 ∧ pc = pc)
 (.chk (IntKind.i64 = IntKind.i64 ∧ ad = ad)
 (.chk (IntKind.i64 = IntKind.i64 ∧ va = va)
 (.chk (IntKind.i64 = IntKind.i64 ∧ ki = ki)
 (.chk (IntKind.i64 = IntKind.i64 ∧ ba = ba)
 (.chk (x_4.nl' = x_4.nl' ∧
  [IntKind.i64] = [IntKind.i64] ∧
    List.take
            (((IntKind.i64.wrap
                    ((↑r : Int) -
                      takesL
                        (L.getD (((0 : Nat) + (↑i : Int).toNat) * (2 : Nat) + (0 : Nat)) (0 : Int))
                        (L.getD (((0 : Nat) + (↑i : Int).toNat) * (2 : Nat) + (1 : Nat)) (0 : Int)))).toNat -
                (0 : Nat)) *
              [IntKind.i64].length)
            R ++
          [oneL (pkL Bx nb)
              (L.getD (((0 : Nat) + (↑i : Int).toNat) * (2 : Nat) + (0 : Nat)) (0 : Int))
              (R.getD
                (((0 : Nat) +
                      (IntKind.i64.wrap
                          ((↑r : Int) -
                            takesL
                              (L.getD (((0 : Nat) + (↑i : Int).toNat) * (2 : Nat) + (0 : Nat)) (0 : Int))
                              (L.getD (((0 : Nat) + (↑i : Int).toNat) * (2 : Nat) + (1 : Nat)) (0 : Int)))).toNat) *
                    (1 : Nat) +
                  (0 : Nat))
                (0 : Int))] =
        List.take
            (((IntKind.i64.wrap
                    ((↑r : Int) -
                      takesL
                        (L.getD (((0 : Nat) + (↑i : Int).toNat) * (2 : Nat) + (0 : Nat)) (0 : Int))
                        (L.getD (((0 : Nat) + (↑i : Int).toNat) * (2 : Nat) + (1 : Nat)) (0 : Int)))).toNat -
                (0 : Nat)) *
              [IntKind.i64].length)
            R ++
          [oneL (pkL Bx nb)
              (L.getD (((0 : Nat) + (↑i : Int).toNat) * (2 : Nat) + (0 : Nat)) (0 : Int))
              (R.getD
                (((0 : Nat) +
                      (IntKind.i64.wrap
                          ((↑r : Int) -
                            takesL
                              (L.getD (((0 : Nat) + (↑i : Int).toNat) * (2 : Nat) + (0 : Nat)) (0 : Int))
                              (L.getD (((0 : Nat) + (↑i : Int).toNat) * (2 : Nat) + (1 : Nat)) (0 : Int)))).toNat) *
                    (1 : Nat) +
                  (0 : Nat))
                (0 : Int))] ∧
      x_4.cap = x_4.cap)
 (.chk (x_3.nl = x_3.nl ∧
  [IntKind.u16] = [IntKind.u16] ∧
    Q ++
          askD (L.getD (((0 : Nat) + (↑i : Int).toNat) * (2 : Nat) + (0 : Nat)) (0 : Int))
            (R.getD
              (((0 : Nat) +
                    (IntKind.i64.wrap
                        ((↑r : Int) -
                          takesL
                            (L.getD (((0 : Nat) + (↑i : Int).toNat) * (2 : Nat) + (0 : Nat)) (0 : Int))
                            (L.getD (((0 : Nat) + (↑i : Int).toNat) * (2 : Nat) + (1 : Nat)) (0 : Int)))).toNat) *
                  (1 : Nat) +
                (0 : Nat))
              (0 : Int)) =
        Q ++
          askD (L.getD (((0 : Nat) + (↑i : Int).toNat) * (2 : Nat) + (0 : Nat)) (0 : Int))
            (R.getD
              (((0 : Nat) +
                    (IntKind.i64.wrap
                        ((↑r : Int) -
                          takesL
                            (L.getD (((0 : Nat) + (↑i : Int).toNat) * (2 : Nat) + (0 : Nat)) (0 : Int))
                            (L.getD (((0 : Nat) + (↑i : Int).toNat) * (2 : Nat) + (1 : Nat)) (0 : Int)))).toNat) *
                  (1 : Nat) +
                (0 : Nat))
              (0 : Int)) ∧
      x_3.cap = x_3.cap)
 (.leaf (.inl ⟨List.take
    (((IntKind.i64.wrap
            ((↑r : Int) -
              takesL
                (L.getD (((0 : Nat) + (↑i : Int).toNat) * (2 : Nat) + (0 : Nat)) (0 : Int))
                (L.getD (((0 : Nat) + (↑i : Int).toNat) * (2 : Nat) + (1 : Nat)) (0 : Int)))).toNat -
        (0 : Nat)) *
      [IntKind.i64].length)
    R ++
  [oneL (pkL Bx nb)
      (L.getD (((0 : Nat) + (↑i : Int).toNat) * (2 : Nat) + (0 : Nat)) (0 : Int))
      (R.getD
        (((0 : Nat) +
              (IntKind.i64.wrap
                  ((↑r : Int) -
                    takesL
                      (L.getD (((0 : Nat) + (↑i : Int).toNat) * (2 : Nat) + (0 : Nat)) (0 : Int))
                      (L.getD (((0 : Nat) + (↑i : Int).toNat) * (2 : Nat) + (1 : Nat)) (0 : Int)))).toNat) *
            (1 : Nat) +
          (0 : Nat))
        (0 : Int))], (IntKind.i64.wrap
        ((↑r : Int) -
          takesL (L.getD (((0 : Nat) + (↑i : Int).toNat) * (2 : Nat) + (0 : Nat)) (0 : Int))
            (L.getD (((0 : Nat) + (↑i : Int).toNat) * (2 : Nat) + (1 : Nat)) (0 : Int)))).toNat -
    (0 : Nat) +
  (1 : Nat), x_4.nl', x_4.cap, Q ++
  askD (L.getD (((0 : Nat) + (↑i : Int).toNat) * (2 : Nat) + (0 : Nat)) (0 : Int))
    (R.getD
      (((0 : Nat) +
            (IntKind.i64.wrap
                ((↑r : Int) -
                  takesL
                    (L.getD (((0 : Nat) + (↑i : Int).toNat) * (2 : Nat) + (0 : Nat)) (0 : Int))
                    (L.getD (((0 : Nat) + (↑i : Int).toNat) * (2 : Nat) + (1 : Nat)) (0 : Int)))).toNat) *
          (1 : Nat) +
        (0 : Nat))
      (0 : Int)), ak +
  (askD (L.getD (((0 : Nat) + (↑i : Int).toNat) * (2 : Nat) + (0 : Nat)) (0 : Int))
      (R.getD
        (((0 : Nat) +
              (IntKind.i64.wrap
                  ((↑r : Int) -
                    takesL
                      (L.getD (((0 : Nat) + (↑i : Int).toNat) * (2 : Nat) + (0 : Nat)) (0 : Int))
                      (L.getD (((0 : Nat) + (↑i : Int).toNat) * (2 : Nat) + (1 : Nat)) (0 : Int)))).toNat) *
            (1 : Nat) +
          (0 : Nat))
        (0 : Int))).length, x_3.nl, x_3.cap, (IntKind.i64.wrap ((↑i : Int) + (1 : Int))).toNat⟩))))))))))))))))))))))))))))))))))))))))))))))))
 (.chk ((an = an ∧ ac = ac) ∧
  sym.XR w AB [IntKind.u8] Bx nb ∧
    Q.length = ak ∧ ak ≤ ac ∧ ac ≤ Go.maxLen ∧ (an = true → ak = (0 : Nat) ∧ ac = (0 : Nat)) ∧ ak ≤ (1000000 : Nat))
 (.all fun x_3 : RowR
  (ak +
    (askD (L.getD (((0 : Nat) + (↑i : Int).toNat) * (2 : Nat) + (0 : Nat)) (0 : Int))
        (R.getD
          (((0 : Nat) +
                (IntKind.i64.wrap
                    ((↑r : Int) -
                      takesL
                        (L.getD (((0 : Nat) + (↑i : Int).toNat) * (2 : Nat) + (0 : Nat)) (0 : Int))
                        (L.getD (((0 : Nat) + (↑i : Int).toNat) * (2 : Nat) + (1 : Nat)) (0 : Int)))).toNat) *
              (1 : Nat) +
            (0 : Nat))
          (0 : Int))).length) =>
 (.chk ((0 : Int) ≤ (0 : Int) ∧
  (0 : Int) ≤
      IntKind.i64.wrap
        ((↑r : Int) -
          takesL (L.getD (((0 : Nat) + (↑i : Int).toNat) * (2 : Nat) + (0 : Nat)) (0 : Int))
            (L.getD (((0 : Nat) + (↑i : Int).toNat) * (2 : Nat) + (1 : Nat)) (0 : Int))) ∧
    IntKind.i64.wrap
        ((↑r : Int) -
          takesL (L.getD (((0 : Nat) + (↑i : Int).toNat) * (2 : Nat) + (0 : Nat)) (0 : Int))
            (L.getD (((0 : Nat) + (↑i : Int).toNat) * (2 : Nat) + (1 : Nat)) (0 : Int))) ≤
      (↑d : Int))
 (.chk (True ∧
  (nl = nl ∧
      sym.cutO (0 : Nat) d (0 : Nat) = (0 : Nat) ∧
        d - (0 : Nat) = d ∧
          ((IntKind.i64.wrap
                      ((↑r : Int) -
                        takesL
                          (L.getD (((0 : Nat) + (↑i : Int).toNat) * (2 : Nat) + (0 : Nat)) (0 : Int))
                          (L.getD (((0 : Nat) + (↑i : Int).toNat) * (2 : Nat) + (1 : Nat)) (0 : Int)))).toNat -
                  (0 : Nat)) *
                [IntKind.i64].length ≤
              R.length ∧
            (IntKind.i64.wrap
                      ((↑r : Int) -
                        takesL
                          (L.getD (((0 : Nat) + (↑i : Int).toNat) * (2 : Nat) + (0 : Nat)) (0 : Int))
                          (L.getD (((0 : Nat) + (↑i : Int).toNat) * (2 : Nat) + (1 : Nat)) (0 : Int)))).toNat -
                  (0 : Nat) ≤
                d - (0 : Nat) ∧
              d - (0 : Nat) ≤ Go.maxLen ∧ (nl = true → d - (0 : Nat) = (0 : Nat))) ∧
    ((IntKind.i64.wrap
                ((↑r : Int) -
                  takesL
                    (L.getD (((0 : Nat) + (↑i : Int).toNat) * (2 : Nat) + (0 : Nat)) (0 : Int))
                    (L.getD (((0 : Nat) + (↑i : Int).toNat) * (2 : Nat) + (1 : Nat)) (0 : Int)))).toNat -
            (0 : Nat) +
          (1 : Nat)) *
        (8 : Nat) ≤
      (140737488355328 : Nat))
 (.all fun x_4 : sym.Grown nl (1 : Nat)
  ((IntKind.i64.wrap
          ((↑r : Int) -
            takesL
              (L.getD (((0 : Nat) + (↑i : Int).toNat) * (2 : Nat) + (0 : Nat)) (0 : Int))
              (L.getD (((0 : Nat) + (↑i : Int).toNat) * (2 : Nat) + (1 : Nat)) (0 : Int)))).toNat -
      (0 : Nat) +
    (1 : Nat)) =>
 (.chk (ln = ln ∧ (2 : Nat) = (2 : Nat) ∧ (0 : Nat) = (0 : Nat) ∧ m = m ∧ cap = cap)
 (.chk (IntKind.i64 = IntKind.i64 ∧ (0 : Int) = (0 : Int))
 (.chk (IntKind.i64 = IntKind.i64 ∧ (0 : Int) = (0 : Int))
 (.chk (x_4.nl' = x_4.nl' ∧
  [IntKind.i64].length = (1 : Nat) ∧
    (0 : Nat) = (0 : Nat) ∧
      (IntKind.i64.wrap
                  ((↑r : Int) -
                    takesL
                      (L.getD (((0 : Nat) + (↑i : Int).toNat) * (2 : Nat) + (0 : Nat)) (0 : Int))
                      (L.getD (((0 : Nat) + (↑i : Int).toNat) * (2 : Nat) + (1 : Nat)) (0 : Int)))).toNat -
              (0 : Nat) +
            (1 : Nat) =
          (IntKind.i64.wrap
                  ((↑r : Int) -
                    takesL
                      (L.getD (((0 : Nat) + (↑i : Int).toNat) * (2 : Nat) + (0 : Nat)) (0 : Int))
                      (L.getD (((0 : Nat) + (↑i : Int).toNat) * (2 : Nat) + (1 : Nat)) (0 : Int)))).toNat -
              (0 : Nat) +
            (1 : Nat) ∧
        x_4.cap = x_4.cap)
 (.chk (ln = ln ∧ (2 : Nat) = (2 : Nat) ∧ (0 : Nat) = (0 : Nat) ∧ m = m ∧ cap = cap)
 (.chk (IntKind.i64 = IntKind.i64 ∧ (↑m : Int) = (↑m : Int))
 (.chk (IntKind.i64 = IntKind.i64 ∧
  IntKind.i64.wrap ((↑i : Int) + (1 : Int)) = (↑(IntKind.i64.wrap ((↑i : Int) + (1 : Int))).toNat : Int))
 (.chk (LK = LK ∧ O = O)
 (.chk (ln = ln ∧ [IntKind.i64, IntKind.i64] = [IntKind.i64, IntKind.i64] ∧ L = L ∧ cap = cap)
 (.chk (x_3.nl = x_3.nl ∧
  (1 : Nat) = (1 : Nat) ∧
    (0 : Nat) = (0 : Nat) ∧
      ak +
            (askD (L.getD (((0 : Nat) + (↑i : Int).toNat) * (2 : Nat) + (0 : Nat)) (0 : Int))
                (R.getD
                  (((0 : Nat) +
                        (IntKind.i64.wrap
                            ((↑r : Int) -
                              takesL
                                (L.getD (((0 : Nat) + (↑i : Int).toNat) * (2 : Nat) + (0 : Nat)) (0 : Int))
                                (L.getD (((0 : Nat) + (↑i : Int).toNat) * (2 : Nat) + (1 : Nat)) (0 : Int)))).toNat) *
                      (1 : Nat) +
                    (0 : Nat))
                  (0 : Int))).length =
          ak +
            (askD (L.getD (((0 : Nat) + (↑i : Int).toNat) * (2 : Nat) + (0 : Nat)) (0 : Int))
                (R.getD
                  (((0 : Nat) +
                        (IntKind.i64.wrap
                            ((↑r : Int) -
                              takesL
                                (L.getD (((0 : Nat) + (↑i : Int).toNat) * (2 : Nat) + (0 : Nat)) (0 : Int))
                                (L.getD (((0 : Nat) + (↑i : Int).toNat) * (2 : Nat) + (1 : Nat)) (0 : Int)))).toNat) *
                      (1 : Nat) +
                    (0 : Nat))
                  (0 : Int))).length ∧
        x_3.cap = x_3.cap)
 (.chk (IntKind.u8 = IntKind.u8 ∧ eqa = eqa)
 (.chk (IntKind.u8 = IntKind.u8 ∧ eqf = eqf)
 (.chk (IntKind.u8 = IntKind.u8 ∧ eqb = eqb)
 (.chk (IntKind.u8 = IntKind.u8 ∧ eqc = eqc)
 (.chk (IntKind.u8 = IntKind.u8 ∧ eqd = eqd)
 (.chk (IntKind.u8 = IntKind.u8 ∧ eqe = eqe)
 (.chk (IntKind.u8 = IntKind.u8 ∧ eqh = eqh)
 (.chk (IntKind.u8 = IntKind.u8 ∧ eql = eql)
 (.chk (IntKind.u16 = IntKind.u16 ∧ esp = esp)
 (.chk (IntKind.u16 = IntKind.u16 ∧ epc = epc)
 (.chk (IntKind.i64 = IntKind.i64 ∧ ead = ead)
 (.chk (IntKind.i64 = IntKind.i64 ∧ eva = eva)
 (.chk (IntKind.i64 = IntKind.i64 ∧ eki = eki)
 (.chk (IntKind.i64 = IntKind.i64 ∧ eba = eba)
 (.chk (AB = AB ∧ [IntKind.u8] = [IntKind.u8] ∧ Bx = Bx ∧ nb = nb ∧ cb = cb)
 (.chk (IntKind.u8 = IntKind.u8 ∧ qa = qa)
 (.chk (IntKind.u8 = IntKind.u8 ∧ qf = qf)
 (.chk (IntKind.u8 = IntKind.u8 ∧ qb = qb)
 (.chk (IntKind.u8 = IntKind.u8 ∧ qc = qc)
 (.chk (IntKind.u8 = IntKind.u8 ∧ qd = qd)
 (.chk (IntKind.u8 = IntKind.u8 ∧ qe = qe)
 (.chk (IntKind.u8 = IntKind.u8 ∧ qh = qh)
 (.chk (IntKind.u8 = IntKind.u8 ∧ ql = ql)
 (.chk (IntKind.u16 = IntKind.u16 ∧ sp = sp)
 (.chk (IntKind.u16 = IntKind.u16 ∧ pc = pc)
 (.chk (IntKind.i64 = IntKind.i64 ∧ ad = ad)
 (.chk (IntKind.i64 = IntKind.i64 ∧ va = va)
 (.chk (IntKind.i64 = IntKind.i64 ∧ ki = ki)
 (.chk (IntKind.i64 = IntKind.i64 ∧ ba = ba)
 (.chk (x_4.nl' = x_4.nl' ∧
  [IntKind.i64] = [IntKind.i64] ∧
    List.take
            (((IntKind.i64.wrap
                    ((↑r : Int) -
                      takesL
                        (L.getD (((0 : Nat) + (↑i : Int).toNat) * (2 : Nat) + (0 : Nat)) (0 : Int))
                        (L.getD (((0 : Nat) + (↑i : Int).toNat) * (2 : Nat) + (1 : Nat)) (0 : Int)))).toNat -
                (0 : Nat)) *
              [IntKind.i64].length)
            R ++
          [oneL (pkL Bx nb)
              (L.getD (((0 : Nat) + (↑i : Int).toNat) * (2 : Nat) + (0 : Nat)) (0 : Int))
              (R.getD
                (((0 : Nat) +
                      (IntKind.i64.wrap
                          ((↑r : Int) -
                            takesL
                              (L.getD (((0 : Nat) + (↑i : Int).toNat) * (2 : Nat) + (0 : Nat)) (0 : Int))
                              (L.getD (((0 : Nat) + (↑i : Int).toNat) * (2 : Nat) + (1 : Nat)) (0 : Int)))).toNat) *
                    (1 : Nat) +
                  (0 : Nat))
                (0 : Int))] =
        List.take
            (((IntKind.i64.wrap
                    ((↑r : Int) -
                      takesL
                        (L.getD (((0 : Nat) + (↑i : Int).toNat) * (2 : Nat) + (0 : Nat)) (0 : Int))
                        (L.getD (((0 : Nat) + (↑i : Int).toNat) * (2 : Nat) + (1 : Nat)) (0 : Int)))).toNat -
                (0 : Nat)) *
              [IntKind.i64].length)
            R ++
          [oneL (pkL Bx nb)
              (L.getD (((0 : Nat) + (↑i : Int).toNat) * (2 : Nat) + (0 : Nat)) (0 : Int))
              (R.getD
                (((0 : Nat) +
                      (IntKind.i64.wrap
                          ((↑r : Int) -
                            takesL
                              (L.getD (((0 : Nat) + (↑i : Int).toNat) * (2 : Nat) + (0 : Nat)) (0 : Int))
                              (L.getD (((0 : Nat) + (↑i : Int).toNat) * (2 : Nat) + (1 : Nat)) (0 : Int)))).toNat) *
                    (1 : Nat) +
                  (0 : Nat))
                (0 : Int))] ∧
      x_4.cap = x_4.cap)
 (.chk (x_3.nl = x_3.nl ∧
  [IntKind.u16] = [IntKind.u16] ∧
    Q ++
          askD (L.getD (((0 : Nat) + (↑i : Int).toNat) * (2 : Nat) + (0 : Nat)) (0 : Int))
            (R.getD
              (((0 : Nat) +
                    (IntKind.i64.wrap
                        ((↑r : Int) -
                          takesL
                            (L.getD (((0 : Nat) + (↑i : Int).toNat) * (2 : Nat) + (0 : Nat)) (0 : Int))
                            (L.getD (((0 : Nat) + (↑i : Int).toNat) * (2 : Nat) + (1 : Nat)) (0 : Int)))).toNat) *
                  (1 : Nat) +
                (0 : Nat))
              (0 : Int)) =
        Q ++
          askD (L.getD (((0 : Nat) + (↑i : Int).toNat) * (2 : Nat) + (0 : Nat)) (0 : Int))
            (R.getD
              (((0 : Nat) +
                    (IntKind.i64.wrap
                        ((↑r : Int) -
                          takesL
                            (L.getD (((0 : Nat) + (↑i : Int).toNat) * (2 : Nat) + (0 : Nat)) (0 : Int))
                            (L.getD (((0 : Nat) + (↑i : Int).toNat) * (2 : Nat) + (1 : Nat)) (0 : Int)))).toNat) *
                  (1 : Nat) +
                (0 : Nat))
              (0 : Int)) ∧
      x_3.cap = x_3.cap)
 (.leaf (.inl ⟨List.take
    (((IntKind.i64.wrap
            ((↑r : Int) -
              takesL
                (L.getD (((0 : Nat) + (↑i : Int).toNat) * (2 : Nat) + (0 : Nat)) (0 : Int))
                (L.getD (((0 : Nat) + (↑i : Int).toNat) * (2 : Nat) + (1 : Nat)) (0 : Int)))).toNat -
        (0 : Nat)) *
      [IntKind.i64].length)
    R ++
  [oneL (pkL Bx nb)
      (L.getD (((0 : Nat) + (↑i : Int).toNat) * (2 : Nat) + (0 : Nat)) (0 : Int))
      (R.getD
        (((0 : Nat) +
              (IntKind.i64.wrap
                  ((↑r : Int) -
                    takesL
                      (L.getD (((0 : Nat) + (↑i : Int).toNat) * (2 : Nat) + (0 : Nat)) (0 : Int))
                      (L.getD (((0 : Nat) + (↑i : Int).toNat) * (2 : Nat) + (1 : Nat)) (0 : Int)))).toNat) *
            (1 : Nat) +
          (0 : Nat))
        (0 : Int))], (IntKind.i64.wrap
        ((↑r : Int) -
          takesL (L.getD (((0 : Nat) + (↑i : Int).toNat) * (2 : Nat) + (0 : Nat)) (0 : Int))
            (L.getD (((0 : Nat) + (↑i : Int).toNat) * (2 : Nat) + (1 : Nat)) (0 : Int)))).toNat -
    (0 : Nat) +
  (1 : Nat), x_4.nl', x_4.cap, Q ++
  askD (L.getD (((0 : Nat) + (↑i : Int).toNat) * (2 : Nat) + (0 : Nat)) (0 : Int))
    (R.getD
      (((0 : Nat) +
            (IntKind.i64.wrap
                ((↑r : Int) -
                  takesL
                    (L.getD (((0 : Nat) + (↑i : Int).toNat) * (2 : Nat) + (0 : Nat)) (0 : Int))
                    (L.getD (((0 : Nat) + (↑i : Int).toNat) * (2 : Nat) + (1 : Nat)) (0 : Int)))).toNat) *
          (1 : Nat) +
        (0 : Nat))
      (0 : Int)), ak +
  (askD (L.getD (((0 : Nat) + (↑i : Int).toNat) * (2 : Nat) + (0 : Nat)) (0 : Int))
      (R.getD
        (((0 : Nat) +
              (IntKind.i64.wrap
                  ((↑r : Int) -
                    takesL
                      (L.getD (((0 : Nat) + (↑i : Int).toNat) * (2 : Nat) + (0 : Nat)) (0 : Int))
                      (L.getD (((0 : Nat) + (↑i : Int).toNat) * (2 : Nat) + (1 : Nat)) (0 : Int)))).toNat) *
            (1 : Nat) +
          (0 : Nat))
        (0 : Int))).length, x_3.nl, x_3.cap, (IntKind.i64.wrap ((↑i : Int) + (1 : Int))).toNat⟩))))))))))))))))))))))))))))))))))))))))))))))))))))))))
 (.chk (nl = false ∧
  (0 : Int) ≤
      IntKind.i64.wrap
        ((↑r : Int) -
          takesL (L.getD (((0 : Nat) + (↑i : Int).toNat) * (2 : Nat) + (0 : Nat)) (0 : Int))
            (L.getD (((0 : Nat) + (↑i : Int).toNat) * (2 : Nat) + (1 : Nat)) (0 : Int))) ∧
    IntKind.i64.wrap
        ((↑r : Int) -
          takesL (L.getD (((0 : Nat) + (↑i : Int).toNat) * (2 : Nat) + (0 : Nat)) (0 : Int))
            (L.getD (((0 : Nat) + (↑i : Int).toNat) * (2 : Nat) + (1 : Nat)) (0 : Int))) <
      (↑r : Int))
 (.chk (nl = false ∧
  ((0 : Nat) +
          (IntKind.i64.wrap
              ((↑r : Int) -
                takesL
                  (L.getD (((0 : Nat) + (↑i : Int).toNat) * (2 : Nat) + (0 : Nat)) (0 : Int))
                  (L.getD (((0 : Nat) + (↑i : Int).toNat) * (2 : Nat) + (1 : Nat)) (0 : Int)))).toNat) *
        (1 : Nat) +
      (1 : Nat) ≤
    R.length)
 (.chk (nl = false ∧
  (0 : Int) ≤
      IntKind.i64.wrap
        (IntKind.i64.wrap
            ((↑r : Int) -
              takesL
                (L.getD (((0 : Nat) + (↑i : Int).toNat) * (2 : Nat) + (0 : Nat)) (0 : Int))
                (L.getD (((0 : Nat) + (↑i : Int).toNat) * (2 : Nat) + (1 : Nat)) (0 : Int))) +
          (1 : Int)) ∧
    IntKind.i64.wrap
        (IntKind.i64.wrap
            ((↑r : Int) -
              takesL
                (L.getD (((0 : Nat) + (↑i : Int).toNat) * (2 : Nat) + (0 : Nat)) (0 : Int))
                (L.getD (((0 : Nat) + (↑i : Int).toNat) * (2 : Nat) + (1 : Nat)) (0 : Int))) +
          (1 : Int)) <
      (↑r : Int))
 (.chk (nl = false ∧
  ((0 : Nat) +
          (IntKind.i64.wrap
              (IntKind.i64.wrap
                  ((↑r : Int) -
                    takesL
                      (L.getD (((0 : Nat) + (↑i : Int).toNat) * (2 : Nat) + (0 : Nat)) (0 : Int))
                      (L.getD (((0 : Nat) + (↑i : Int).toNat) * (2 : Nat) + (1 : Nat)) (0 : Int))) +
                (1 : Int))).toNat) *
        (1 : Nat) +
      (1 : Nat) ≤
    R.length)
 (.br ((twoL (L.getD (((0 : Nat) + (↑i : Int).toNat) * (2 : Nat) + (0 : Nat)) (0 : Int))
      (R.getD
        (((0 : Nat) +
              (IntKind.i64.wrap
                  ((↑r : Int) -
                    takesL
                      (L.getD (((0 : Nat) + (↑i : Int).toNat) * (2 : Nat) + (0 : Nat)) (0 : Int))
                      (L.getD (((0 : Nat) + (↑i : Int).toNat) * (2 : Nat) + (1 : Nat)) (0 : Int)))).toNat) *
            (1 : Nat) +
          (0 : Nat))
        (0 : Int))
      (R.getD
        (((0 : Nat) +
              (IntKind.i64.wrap
                  (IntKind.i64.wrap
                      ((↑r : Int) -
                        takesL
                          (L.getD (((0 : Nat) + (↑i : Int).toNat) * (2 : Nat) + (0 : Nat)) (0 : Int))
                          (L.getD (((0 : Nat) + (↑i : Int).toNat) * (2 : Nat) + (1 : Nat)) (0 : Int))) +
                    (1 : Int))).toNat) *
            (1 : Nat) +
          (0 : Nat))
        (0 : Int))).snd !=
  (0 : Int))
 (.chk (IntKind.i64 = IntKind.i64 ∧ (0 : Int) = (0 : Int))
 (.chk (IntKind.i64 = IntKind.i64 ∧
  (twoL (L.getD (((0 : Nat) + (↑i : Int).toNat) * (2 : Nat) + (0 : Nat)) (0 : Int))
        (R.getD
          (((0 : Nat) +
                (IntKind.i64.wrap
                    ((↑r : Int) -
                      takesL
                        (L.getD (((0 : Nat) + (↑i : Int).toNat) * (2 : Nat) + (0 : Nat)) (0 : Int))
                        (L.getD (((0 : Nat) + (↑i : Int).toNat) * (2 : Nat) + (1 : Nat)) (0 : Int)))).toNat) *
              (1 : Nat) +
            (0 : Nat))
          (0 : Int))
        (R.getD
          (((0 : Nat) +
                (IntKind.i64.wrap
                    (IntKind.i64.wrap
                        ((↑r : Int) -
                          takesL
                            (L.getD (((0 : Nat) + (↑i : Int).toNat) * (2 : Nat) + (0 : Nat)) (0 : Int))
                            (L.getD (((0 : Nat) + (↑i : Int).toNat) * (2 : Nat) + (1 : Nat)) (0 : Int))) +
                      (1 : Int))).toNat) *
              (1 : Nat) +
            (0 : Nat))
          (0 : Int))).snd =
    (twoL (L.getD (((0 : Nat) + (↑i : Int).toNat) * (2 : Nat) + (0 : Nat)) (0 : Int))
        (R.getD
          (((0 : Nat) +
                (IntKind.i64.wrap
                    ((↑r : Int) -
                      takesL
                        (L.getD (((0 : Nat) + (↑i : Int).toNat) * (2 : Nat) + (0 : Nat)) (0 : Int))
                        (L.getD (((0 : Nat) + (↑i : Int).toNat) * (2 : Nat) + (1 : Nat)) (0 : Int)))).toNat) *
              (1 : Nat) +
            (0 : Nat))
          (0 : Int))
        (R.getD
          (((0 : Nat) +
                (IntKind.i64.wrap
                    (IntKind.i64.wrap
                        ((↑r : Int) -
                          takesL
                            (L.getD (((0 : Nat) + (↑i : Int).toNat) * (2 : Nat) + (0 : Nat)) (0 : Int))
                            (L.getD (((0 : Nat) + (↑i : Int).toNat) * (2 : Nat) + (1 : Nat)) (0 : Int))) +
                      (1 : Int))).toNat) *
              (1 : Nat) +
            (0 : Nat))
          (0 : Int))).snd)
 (.chk (LK = LK ∧ O = O)
 (.chk (ln = ln ∧ [IntKind.i64, IntKind.i64] = [IntKind.i64, IntKind.i64] ∧ L = L ∧ cap = cap)
 (.chk (an = an ∧ (1 : Nat) = (1 : Nat) ∧ (0 : Nat) = (0 : Nat) ∧ ak = ak ∧ ac = ac)
 (.chk (IntKind.u8 = IntKind.u8 ∧ eqa = eqa)
 (.chk (IntKind.u8 = IntKind.u8 ∧ eqf = eqf)
 (.chk (IntKind.u8 = IntKind.u8 ∧ eqb = eqb)
 (.chk (IntKind.u8 = IntKind.u8 ∧ eqc = eqc)
 (.chk (IntKind.u8 = IntKind.u8 ∧ eqd = eqd)
 (.chk (IntKind.u8 = IntKind.u8 ∧ eqe = eqe)
 (.chk (IntKind.u8 = IntKind.u8 ∧ eqh = eqh)
 (.chk (IntKind.u8 = IntKind.u8 ∧ eql = eql)
 (.chk (IntKind.u16 = IntKind.u16 ∧ esp = esp)
 (.chk (IntKind.u16 = IntKind.u16 ∧ epc = epc)
 (.chk (IntKind.i64 = IntKind.i64 ∧ ead = ead)
 (.chk (IntKind.i64 = IntKind.i64 ∧ eva = eva)
 (.chk (IntKind.i64 = IntKind.i64 ∧ eki = eki)
 (.chk (IntKind.i64 = IntKind.i64 ∧ eba = eba)
 (.chk (AB = AB ∧ [IntKind.u8] = [IntKind.u8] ∧ Bx = Bx ∧ nb = nb ∧ cb = cb)
 (.chk (an = an ∧ [IntKind.u16] = [IntKind.u16] ∧ Q = Q ∧ ac = ac)
 (.leaf (.inr (.inr ⟨(twoL (L.getD (((0 : Nat) + (↑i : Int).toNat) * (2 : Nat) + (0 : Nat)) (0 : Int))
    (R.getD
      (((0 : Nat) +
            (IntKind.i64.wrap
                ((↑r : Int) -
                  takesL
                    (L.getD (((0 : Nat) + (↑i : Int).toNat) * (2 : Nat) + (0 : Nat)) (0 : Int))
                    (L.getD (((0 : Nat) + (↑i : Int).toNat) * (2 : Nat) + (1 : Nat)) (0 : Int)))).toNat) *
          (1 : Nat) +
        (0 : Nat))
      (0 : Int))
    (R.getD
      (((0 : Nat) +
            (IntKind.i64.wrap
                (IntKind.i64.wrap
                    ((↑r : Int) -
                      takesL
                        (L.getD (((0 : Nat) + (↑i : Int).toNat) * (2 : Nat) + (0 : Nat)) (0 : Int))
                        (L.getD (((0 : Nat) + (↑i : Int).toNat) * (2 : Nat) + (1 : Nat)) (0 : Int))) +
                  (1 : Int))).toNat) *
          (1 : Nat) +
        (0 : Nat))
      (0 : Int))).snd, Q, ak, an, ac⟩))))))))))))))))))))))))
 (.chk ((0 : Int) ≤ (0 : Int) ∧
  (0 : Int) ≤
      IntKind.i64.wrap
        ((↑r : Int) -
          takesL (L.getD (((0 : Nat) + (↑i : Int).toNat) * (2 : Nat) + (0 : Nat)) (0 : Int))
            (L.getD (((0 : Nat) + (↑i : Int).toNat) * (2 : Nat) + (1 : Nat)) (0 : Int))) ∧
    IntKind.i64.wrap
        ((↑r : Int) -
          takesL (L.getD (((0 : Nat) + (↑i : Int).toNat) * (2 : Nat) + (0 : Nat)) (0 : Int))
            (L.getD (((0 : Nat) + (↑i : Int).toNat) * (2 : Nat) + (1 : Nat)) (0 : Int))) ≤
      (↑d : Int))
 (.chk (True ∧
  (nl = nl ∧
      sym.cutO (0 : Nat) d (0 : Nat) = (0 : Nat) ∧
        d - (0 : Nat) = d ∧
          ((IntKind.i64.wrap
                      ((↑r : Int) -
                        takesL
                          (L.getD (((0 : Nat) + (↑i : Int).toNat) * (2 : Nat) + (0 : Nat)) (0 : Int))
                          (L.getD (((0 : Nat) + (↑i : Int).toNat) * (2 : Nat) + (1 : Nat)) (0 : Int)))).toNat -
                  (0 : Nat)) *
                [IntKind.i64].length ≤
              R.length ∧
            (IntKind.i64.wrap
                      ((↑r : Int) -
                        takesL
                          (L.getD (((0 : Nat) + (↑i : Int).toNat) * (2 : Nat) + (0 : Nat)) (0 : Int))
                          (L.getD (((0 : Nat) + (↑i : Int).toNat) * (2 : Nat) + (1 : Nat)) (0 : Int)))).toNat -
                  (0 : Nat) ≤
                d - (0 : Nat) ∧
              d - (0 : Nat) ≤ Go.maxLen ∧ (nl = true → d - (0 : Nat) = (0 : Nat))) ∧
    ((IntKind.i64.wrap
                ((↑r : Int) -
                  takesL
                    (L.getD (((0 : Nat) + (↑i : Int).toNat) * (2 : Nat) + (0 : Nat)) (0 : Int))
                    (L.getD (((0 : Nat) + (↑i : Int).toNat) * (2 : Nat) + (1 : Nat)) (0 : Int)))).toNat -
            (0 : Nat) +
          (1 : Nat)) *
        (8 : Nat) ≤
      (140737488355328 : Nat))
 (.all fun x : sym.Grown nl (1 : Nat)
  ((IntKind.i64.wrap
          ((↑r : Int) -
            takesL
              (L.getD (((0 : Nat) + (↑i : Int).toNat) * (2 : Nat) + (0 : Nat)) (0 : Int))
              (L.getD (((0 : Nat) + (↑i : Int).toNat) * (2 : Nat) + (1 : Nat)) (0 : Int)))).toNat -
      (0 : Nat) +
    (1 : Nat)) =>
 (.chk (ln = ln ∧ (2 : Nat) = (2 : Nat) ∧ (0 : Nat) = (0 : Nat) ∧ m = m ∧ cap = cap)
 (.chk (IntKind.i64 = IntKind.i64 ∧ (0 : Int) = (0 : Int))
 (.chk (IntKind.i64 = IntKind.i64 ∧ (0 : Int) = (0 : Int))
 (.chk (x.nl' = x.nl' ∧
  [IntKind.i64].length = (1 : Nat) ∧
    (0 : Nat) = (0 : Nat) ∧
      (IntKind.i64.wrap
                  ((↑r : Int) -
                    takesL
                      (L.getD (((0 : Nat) + (↑i : Int).toNat) * (2 : Nat) + (0 : Nat)) (0 : Int))
                      (L.getD (((0 : Nat) + (↑i : Int).toNat) * (2 : Nat) + (1 : Nat)) (0 : Int)))).toNat -
              (0 : Nat) +
            (1 : Nat) =
          (IntKind.i64.wrap
                  ((↑r : Int) -
                    takesL
                      (L.getD (((0 : Nat) + (↑i : Int).toNat) * (2 : Nat) + (0 : Nat)) (0 : Int))
                      (L.getD (((0 : Nat) + (↑i : Int).toNat) * (2 : Nat) + (1 : Nat)) (0 : Int)))).toNat -
              (0 : Nat) +
            (1 : Nat) ∧
        x.cap = x.cap)
 (.chk (ln = ln ∧ (2 : Nat) = (2 : Nat) ∧ (0 : Nat) = (0 : Nat) ∧ m = m ∧ cap = cap)
 (.chk (IntKind.i64 = IntKind.i64 ∧ (↑m : Int) = (↑m : Int))
 (.chk (IntKind.i64 = IntKind.i64 ∧
  IntKind.i64.wrap ((↑i : Int) + (1 : Int)) = (↑(IntKind.i64.wrap ((↑i : Int) + (1 : Int))).toNat : Int))
 (.chk (LK = LK ∧ O = O)
 (.chk (ln = ln ∧ [IntKind.i64, IntKind.i64] = [IntKind.i64, IntKind.i64] ∧ L = L ∧ cap = cap)
 (.chk (an = an ∧ (1 : Nat) = (1 : Nat) ∧ (0 : Nat) = (0 : Nat) ∧ ak = ak ∧ ac = ac)
 (.chk (IntKind.u8 = IntKind.u8 ∧ eqa = eqa)
 (.chk (IntKind.u8 = IntKind.u8 ∧ eqf = eqf)
 (.chk (IntKind.u8 = IntKind.u8 ∧ eqb = eqb)
 (.chk (IntKind.u8 = IntKind.u8 ∧ eqc = eqc)
 (.chk (IntKind.u8 = IntKind.u8 ∧ eqd = eqd)
 (.chk (IntKind.u8 = IntKind.u8 ∧ eqe = eqe)
 (.chk (IntKind.u8 = IntKind.u8 ∧ eqh = eqh)
 (.chk (IntKind.u8 = IntKind.u8 ∧ eql = eql)
 (.chk (IntKind.u16 = IntKind.u16 ∧ esp = esp)
 (.chk (IntKind.u16 = IntKind.u16 ∧ epc = epc)
 (.chk (IntKind.i64 = IntKind.i64 ∧ ead = ead)
 (.chk (IntKind.i64 = IntKind.i64 ∧ eva = eva)
 (.chk (IntKind.i64 = IntKind.i64 ∧ eki = eki)
 (.chk (IntKind.i64 = IntKind.i64 ∧ eba = eba)
 (.chk (AB = AB ∧ [IntKind.u8] = [IntKind.u8] ∧ Bx = Bx ∧ nb = nb ∧ cb = cb)
 (.chk (IntKind.u8 = IntKind.u8 ∧ qa = qa)
 (.chk (IntKind.u8 = IntKind.u8 ∧ qf = qf)
 (.chk (IntKind.u8 = IntKind.u8 ∧ qb = qb)
 (.chk (IntKind.u8 = IntKind.u8 ∧ qc = qc)
 (.chk (IntKind.u8 = IntKind.u8 ∧ qd = qd)
 (.chk (IntKind.u8 = IntKind.u8 ∧ qe = qe)
 (.chk (IntKind.u8 = IntKind.u8 ∧ qh = qh)
 (.chk (IntKind.u8 = IntKind.u8 ∧ ql = ql)
 (.chk (IntKind.u16 = IntKind.u16 ∧ sp = sp)
 (.chk (IntKind.u16 = IntKind.u16 ∧ pc = pc)
 (.chk (IntKind.i64 = IntKind.i64 ∧ ad = ad)
 (.chk (IntKind.i64 = IntKind.i64 ∧ va = va)
 (.chk (IntKind.i64 = IntKind.i64 ∧ ki = ki)
 (.chk (IntKind.i64 = IntKind.i64 ∧ ba = ba)
 (.chk (x.nl' = x.nl' ∧
  [IntKind.i64] = [IntKind.i64] ∧
    List.take
            (((IntKind.i64.wrap
                    ((↑r : Int) -
                      takesL
                        (L.getD (((0 : Nat) + (↑i : Int).toNat) * (2 : Nat) + (0 : Nat)) (0 : Int))
                        (L.getD (((0 : Nat) + (↑i : Int).toNat) * (2 : Nat) + (1 : Nat)) (0 : Int)))).toNat -
                (0 : Nat)) *
              [IntKind.i64].length)
            R ++
          [(twoL (L.getD (((0 : Nat) + (↑i : Int).toNat) * (2 : Nat) + (0 : Nat)) (0 : Int))
                (R.getD
                  (((0 : Nat) +
                        (IntKind.i64.wrap
                            ((↑r : Int) -
                              takesL
                                (L.getD (((0 : Nat) + (↑i : Int).toNat) * (2 : Nat) + (0 : Nat)) (0 : Int))
                                (L.getD (((0 : Nat) + (↑i : Int).toNat) * (2 : Nat) + (1 : Nat)) (0 : Int)))).toNat) *
                      (1 : Nat) +
                    (0 : Nat))
                  (0 : Int))
                (R.getD
                  (((0 : Nat) +
                        (IntKind.i64.wrap
                            (IntKind.i64.wrap
                                ((↑r : Int) -
                                  takesL
                                    (L.getD (((0 : Nat) + (↑i : Int).toNat) * (2 : Nat) + (0 : Nat)) (0 : Int))
                                    (L.getD (((0 : Nat) + (↑i : Int).toNat) * (2 : Nat) + (1 : Nat)) (0 : Int))) +
                              (1 : Int))).toNat) *
                      (1 : Nat) +
                    (0 : Nat))
                  (0 : Int))).fst] =
        List.take
            (((IntKind.i64.wrap
                    ((↑r : Int) -
                      takesL
                        (L.getD (((0 : Nat) + (↑i : Int).toNat) * (2 : Nat) + (0 : Nat)) (0 : Int))
                        (L.getD (((0 : Nat) + (↑i : Int).toNat) * (2 : Nat) + (1 : Nat)) (0 : Int)))).toNat -
                (0 : Nat)) *
              [IntKind.i64].length)
            R ++
          [(twoL (L.getD (((0 : Nat) + (↑i : Int).toNat) * (2 : Nat) + (0 : Nat)) (0 : Int))
                (R.getD
                  (((0 : Nat) +
                        (IntKind.i64.wrap
                            ((↑r : Int) -
                              takesL
                                (L.getD (((0 : Nat) + (↑i : Int).toNat) * (2 : Nat) + (0 : Nat)) (0 : Int))
                                (L.getD (((0 : Nat) + (↑i : Int).toNat) * (2 : Nat) + (1 : Nat)) (0 : Int)))).toNat) *
                      (1 : Nat) +
                    (0 : Nat))
                  (0 : Int))
                (R.getD
                  (((0 : Nat) +
                        (IntKind.i64.wrap
                            (IntKind.i64.wrap
                                ((↑r : Int) -
                                  takesL
                                    (L.getD (((0 : Nat) + (↑i : Int).toNat) * (2 : Nat) + (0 : Nat)) (0 : Int))
                                    (L.getD (((0 : Nat) + (↑i : Int).toNat) * (2 : Nat) + (1 : Nat)) (0 : Int))) +
                              (1 : Int))).toNat) *
                      (1 : Nat) +
                    (0 : Nat))
                  (0 : Int))).fst] ∧
      x.cap = x.cap)
 (.chk (an = an ∧ [IntKind.u16] = [IntKind.u16] ∧ Q = Q ∧ ac = ac)
 (.leaf (.inl ⟨List.take
    (((IntKind.i64.wrap
            ((↑r : Int) -
              takesL
                (L.getD (((0 : Nat) + (↑i : Int).toNat) * (2 : Nat) + (0 : Nat)) (0 : Int))
                (L.getD (((0 : Nat) + (↑i : Int).toNat) * (2 : Nat) + (1 : Nat)) (0 : Int)))).toNat -
        (0 : Nat)) *
      [IntKind.i64].length)
    R ++
  [(twoL (L.getD (((0 : Nat) + (↑i : Int).toNat) * (2 : Nat) + (0 : Nat)) (0 : Int))
        (R.getD
          (((0 : Nat) +
                (IntKind.i64.wrap
                    ((↑r : Int) -
                      takesL
                        (L.getD (((0 : Nat) + (↑i : Int).toNat) * (2 : Nat) + (0 : Nat)) (0 : Int))
                        (L.getD (((0 : Nat) + (↑i : Int).toNat) * (2 : Nat) + (1 : Nat)) (0 : Int)))).toNat) *
              (1 : Nat) +
            (0 : Nat))
          (0 : Int))
        (R.getD
          (((0 : Nat) +
                (IntKind.i64.wrap
                    (IntKind.i64.wrap
                        ((↑r : Int) -
                          takesL
                            (L.getD (((0 : Nat) + (↑i : Int).toNat) * (2 : Nat) + (0 : Nat)) (0 : Int))
                            (L.getD (((0 : Nat) + (↑i : Int).toNat) * (2 : Nat) + (1 : Nat)) (0 : Int))) +
                      (1 : Int))).toNat) *
              (1 : Nat) +
            (0 : Nat))
          (0 : Int))).fst], (IntKind.i64.wrap
        ((↑r : Int) -
          takesL (L.getD (((0 : Nat) + (↑i : Int).toNat) * (2 : Nat) + (0 : Nat)) (0 : Int))
            (L.getD (((0 : Nat) + (↑i : Int).toNat) * (2 : Nat) + (1 : Nat)) (0 : Int)))).toNat -
    (0 : Nat) +
  (1 : Nat), x.nl', x.cap, Q, ak, an, ac, (IntKind.i64.wrap ((↑i : Int) + (1 : Int))).toNat⟩)))))))))))))))))))))))))))))))))))))))))))))))))))))))))
 (.chk (IntKind.i64 = IntKind.i64 ∧ (0 : Int) = (0 : Int))
 (.chk (IntKind.i64 = IntKind.i64 ∧ (0 : Int) = (0 : Int))
 (.chk (nl = nl ∧ (1 : Nat) = (1 : Nat) ∧ (0 : Nat) = (0 : Nat) ∧ r = r ∧ d = d)
 (.chk (LK = LK ∧ O = O)
 (.chk (ln = ln ∧ [IntKind.i64, IntKind.i64] = [IntKind.i64, IntKind.i64] ∧ L = L ∧ cap = cap)
 (.chk (an = an ∧ (1 : Nat) = (1 : Nat) ∧ (0 : Nat) = (0 : Nat) ∧ ak = ak ∧ ac = ac)
 (.chk (IntKind.u8 = IntKind.u8 ∧ eqa = eqa)
 (.chk (IntKind.u8 = IntKind.u8 ∧ eqf = eqf)
 (.chk (IntKind.u8 = IntKind.u8 ∧ eqb = eqb)
 (.chk (IntKind.u8 = IntKind.u8 ∧ eqc = eqc)
 (.chk (IntKind.u8 = IntKind.u8 ∧ eqd = eqd)
 (.chk (IntKind.u8 = IntKind.u8 ∧ eqe = eqe)
 (.chk (IntKind.u8 = IntKind.u8 ∧ eqh = eqh)
 (.chk (IntKind.u8 = IntKind.u8 ∧ eql = eql)
 (.chk (IntKind.u16 = IntKind.u16 ∧ esp = esp)
 (.chk (IntKind.u16 = IntKind.u16 ∧ epc = epc)
 (.chk (IntKind.i64 = IntKind.i64 ∧ ead = ead)
 (.chk (IntKind.i64 = IntKind.i64 ∧ eva = eva)
 (.chk (IntKind.i64 = IntKind.i64 ∧ eki = eki)
 (.chk (IntKind.i64 = IntKind.i64 ∧ eba = eba)
 (.chk (AB = AB ∧ [IntKind.u8] = [IntKind.u8] ∧ Bx = Bx ∧ nb = nb ∧ cb = cb)
 (.chk (IntKind.u8 = IntKind.u8 ∧ qa = qa)
 (.chk (IntKind.u8 = IntKind.u8 ∧ qf = qf)
 (.chk (IntKind.u8 = IntKind.u8 ∧ qb = qb)
 (.chk (IntKind.u8 = IntKind.u8 ∧ qc = qc)
 (.chk (IntKind.u8 = IntKind.u8 ∧ qd = qd)
 (.chk (IntKind.u8 = IntKind.u8 ∧ qe = qe)
 (.chk (IntKind.u8 = IntKind.u8 ∧ qh = qh)
 (.chk (IntKind.u8 = IntKind.u8 ∧ ql = ql)
 (.chk (IntKind.u16 = IntKind.u16 ∧ sp = sp)
 (.chk (IntKind.u16 = IntKind.u16 ∧ pc = pc)
 (.chk (IntKind.i64 = IntKind.i64 ∧ ad = ad)
 (.chk (IntKind.i64 = IntKind.i64 ∧ va = va)
 (.chk (IntKind.i64 = IntKind.i64 ∧ ki = ki)
 (.chk (IntKind.i64 = IntKind.i64 ∧ ba = ba)
 (.chk (nl = nl ∧ [IntKind.i64] = [IntKind.i64] ∧ R = R ∧ d = d)
 (.chk (an = an ∧ [IntKind.u16] = [IntKind.u16] ∧ Q = Q ∧ ac = ac)
 (.leaf (.inr (.inl ⟨R, r, nl, d, Q, ak, an, ac⟩))))))))))))))))))))))))))))))))))))))))) := by kernel_rfl
theorem runa_tree (w : World) (LK : Nat → Option Obj) (O : Nat → Bool) (ln : Bool) (L : List Int) (m cap : Nat) (qa qf qb qc qd qe qh ql sp pc : Int) (ad va ki ba : Int) (eqa eqf eqb eqc eqd eqe eqh eql esp epc ead eva eki eba : Int) (AB : Option Addr) (Bx : List Int) (nb cb : Nat) :
    callT Try.prog w (flatT Try.prog) (ctrOf askT) (fpreOf [nameA, oneA w]) (lpOf Try.prog [raLp LK O ln L m cap qa qf qb qc qd qe qh ql sp pc ad va ki ba eqa eqf eqb eqc eqd eqe eqh eql esp epc ead eva eki eba AB Bx nb cb, mixLp 10 20]) 20 10 [.v (.one (.gs 1 ln 2 0 m cap)), .v (.agg [.int false .u8 qa, .int false .u8 qf, .int false .u8 qb, .int false .u8 qc, .int false .u8 qd, .int false .u8 qe, .int false .u8 qh, .int false .u8 ql, .int false .u16 sp, .int false .u16 pc, .int false .i64 ad, .int false .i64 va, .int false .i64 ki, .int false .i64 ba, .fn 16 [(2, 0), (3, 0)]])] [⟨[.keep LK O], 0⟩, ⟨[.row ln [.i64, .i64] L cap], 50⟩, ⟨[.nos], 47⟩, ⟨[.int false .u8 eqa, .int false .u8 eqf, .int false .u8 eqb, .int false .u8 eqc, .int false .u8 eqd, .int false .u8 eqe, .int false .u8 eqh, .int false .u8 eql, .int false .u16 esp, .int false .u16 epc, .int false .i64 ead, .int false .i64 eva, .int false .i64 eki, .int false .i64 eba, .xr AB [.u8] Bx nb cb], 28⟩] =
(.chk (sym.textAt Go.Proofs.Try.prog (10 : Go.FuncId) (0 : Nat) = sym.textAt Go.Proofs.Try.prog (10 : Go.FuncId) (0 : Nat))
(.chk (ln = ln ∧ (2 : Nat) = (2 : Nat) ∧ (0 : Nat) = (0 : Nat) ∧ m = m ∧ cap = cap)
(.chk (IntKind.i64 = IntKind.i64 ∧ (0 : Int) = (0 : Int))
(.chk (IntKind.i64 = IntKind.i64 ∧ (0 : Int) = (0 : Int))
(.chk (true = true ∧ (0 : Nat) = (0 : Nat) ∧ (0 : Nat) = (0 : Nat))
(.chk (ln = ln ∧ (2 : Nat) = (2 : Nat) ∧ (0 : Nat) = (0 : Nat) ∧ m = m ∧ cap = cap)
(.chk (IntKind.i64 = IntKind.i64 ∧ (↑m : Int) = (↑m : Int))
(.chk (IntKind.i64 = IntKind.i64 ∧ (0 : Int) = (0 : Int))
(.chk (LK = LK ∧ O = O)
(.chk (ln = ln ∧ [IntKind.i64, IntKind.i64] = [IntKind.i64, IntKind.i64] ∧ L = L ∧ cap = cap)
(.chk (true = true ∧ (0 : Nat) = (0 : Nat) ∧ (0 : Nat) = (0 : Nat))
(.chk (IntKind.u8 = IntKind.u8 ∧ eqa = eqa)
(.chk (IntKind.u8 = IntKind.u8 ∧ eqf = eqf)
(.chk (IntKind.u8 = IntKind.u8 ∧ eqb = eqb)
(.chk (IntKind.u8 = IntKind.u8 ∧ eqc = eqc)
(.chk (IntKind.u8 = IntKind.u8 ∧ eqd = eqd)
(.chk (IntKind.u8 = IntKind.u8 ∧ eqe = eqe)
(.chk (IntKind.u8 = IntKind.u8 ∧ eqh = eqh)
(.chk (IntKind.u8 = IntKind.u8 ∧ eql = eql)
(.chk (IntKind.u16 = IntKind.u16 ∧ esp = esp)
(.chk (IntKind.u16 = IntKind.u16 ∧ epc = epc)
(.chk (IntKind.i64 = IntKind.i64 ∧ ead = ead)
(.chk (IntKind.i64 = IntKind.i64 ∧ eva = eva)
(.chk (IntKind.i64 = IntKind.i64 ∧ eki = eki)
(.chk (IntKind.i64 = IntKind.i64 ∧ eba = eba)
(.chk (AB = AB ∧ [IntKind.u8] = [IntKind.u8] ∧ Bx = Bx ∧ nb = nb ∧ cb = cb)
(.chk (IntKind.u8 = IntKind.u8 ∧ qa = qa)
(.chk (IntKind.u8 = IntKind.u8 ∧ qf = qf)
(.chk (IntKind.u8 = IntKind.u8 ∧ qb = qb)
(.chk (IntKind.u8 = IntKind.u8 ∧ qc = qc)
(.chk (IntKind.u8 = IntKind.u8 ∧ qd = qd)
(.chk (IntKind.u8 = IntKind.u8 ∧ qe = qe)
(.chk (IntKind.u8 = IntKind.u8 ∧ qh = qh)
(.chk (IntKind.u8 = IntKind.u8 ∧ ql = ql)
(.chk (IntKind.u16 = IntKind.u16 ∧ sp = sp)
(.chk (IntKind.u16 = IntKind.u16 ∧ pc = pc)
(.chk (IntKind.i64 = IntKind.i64 ∧ ad = ad)
(.chk (IntKind.i64 = IntKind.i64 ∧ va = va)
(.chk (IntKind.i64 = IntKind.i64 ∧ ki = ki)
(.chk (IntKind.i64 = IntKind.i64 ∧ ba = ba)
(.chk (true = true ∧ ([] : List Int) = [])
(.chk (true = true ∧ ([] : List Int) = [])
(.chk (raInv LK O ln L m cap qa qf qb qc qd qe qh ql sp pc ad va ki ba eqa eqf eqb eqc eqd eqe eqh
  eql esp epc ead eva eki eba AB Bx nb cb { }
  { R := [], r := (0 : Nat), nl := true, d := (0 : Nat), Q := [], ak := (0 : Nat), an := true,
    ac := (0 : Nat), i := (0 : Nat) })
(.all fun x : Bool =>
 (.br (x)
 (.all fun x_1 : sym.Got raY
  (raPost LK O ln L m cap qa qf qb qc qd qe qh ql sp pc ad va ki ba eqa eqf eqb eqc eqd eqe
    eqh eql esp epc ead eva eki eba AB Bx nb cb { }) =>
 (.br ((↑x_1.1.2 : Int) != (1 : Int))
 (.leaf ((.tuple [(.one (.int true .i64 (0))), (.one (.int true .i64 (5)))]), [⟨[(.keep (LK) (O))], 0⟩, ⟨[(.row (ln) ([IntKind.i64, IntKind.i64]) (L) (cap))], 50⟩, ⟨[(.gs 6 (x_1.1.7) 1 0 (x_1.1.6) (x_1.1.8))], 47⟩, ⟨[(.int false .u8 (eqa)), (.int false .u8 (eqf)), (.int false .u8 (eqb)), (.int false .u8 (eqc)), (.int false .u8 (eqd)), (.int false .u8 (eqe)), (.int false .u8 (eqh)), (.int false .u8 (eql)), (.int false .u16 (esp)), (.int false .u16 (epc)), (.int false .i64 (ead)), (.int false .i64 (eva)), (.int false .i64 (eki)), (.int false .i64 (eba)), (.xr (AB) ([IntKind.u8]) (Bx) (nb) (cb))], 28⟩, ⟨[(.int false .u8 (qa)), (.int false .u8 (qf)), (.int false .u8 (qb)), (.int false .u8 (qc)), (.int false .u8 (qd)), (.int false .u8 (qe)), (.int false .u8 (qh)), (.int false .u8 (ql)), (.int false .u16 (sp)), (.int false .u16 (pc)), (.int false .i64 (ad)), (.int false .i64 (va)), (.int false .i64 (ki)), (.int false .i64 (ba)), (.fn 16 [((2 : Nat), (0 : Nat)), ((3 : Nat), (0 : Nat))])], 38⟩, ⟨[(.row (x_1.1.3) ([IntKind.i64]) (x_1.1.1) (x_1.1.4))], 3⟩, ⟨[(.row (x_1.1.7) ([IntKind.u16]) (x_1.1.5) (x_1.1.8))], 23⟩]))
 (.chk (x_1.1.3 = false ∧ (0 : Int) ≤ (0 : Int) ∧ (0 : Int) < (↑x_1.1.2 : Int))
 (.chk (x_1.1.3 = false ∧ (1 : Nat) ≤ x_1.1.1.length)
 (.leaf ((.tuple [(.one (.int false .i64 (x_1.1.1.getD (0 : Nat) (0 : Int)))), (.one (.int true .i64 (0)))]), [⟨[(.keep (LK) (O))], 0⟩, ⟨[(.row (ln) ([IntKind.i64, IntKind.i64]) (L) (cap))], 50⟩, ⟨[(.gs 6 (x_1.1.7) 1 0 (x_1.1.6) (x_1.1.8))], 47⟩, ⟨[(.int false .u8 (eqa)), (.int false .u8 (eqf)), (.int false .u8 (eqb)), (.int false .u8 (eqc)), (.int false .u8 (eqd)), (.int false .u8 (eqe)), (.int false .u8 (eqh)), (.int false .u8 (eql)), (.int false .u16 (esp)), (.int false .u16 (epc)), (.int false .i64 (ead)), (.int false .i64 (eva)), (.int false .i64 (eki)), (.int false .i64 (eba)), (.xr (AB) ([IntKind.u8]) (Bx) (nb) (cb))], 28⟩, ⟨[(.int false .u8 (qa)), (.int false .u8 (qf)), (.int false .u8 (qb)), (.int false .u8 (qc)), (.int false .u8 (qd)), (.int false .u8 (qe)), (.int false .u8 (qh)), (.int false .u8 (ql)), (.int false .u16 (sp)), (.int false .u16 (pc)), (.int false .i64 (ad)), (.int false .i64 (va)), (.int false .i64 (ki)), (.int false .i64 (ba)), (.fn 16 [((2 : Nat), (0 : Nat)), ((3 : Nat), (0 : Nat))])], 38⟩, ⟨[(.row (x_1.1.3) ([IntKind.i64]) (x_1.1.1) (x_1.1.4))], 3⟩, ⟨[(.row (x_1.1.7) ([IntKind.u16]) (x_1.1.5) (x_1.1.8))], 23⟩]))))))
 (.all fun x_1 : sym.Got raZ
  (raBack LK O ln L m cap qa qf qb qc qd qe qh ql sp pc ad va ki ba eqa eqf eqb eqc eqd eqe
    eqh eql esp epc ead eva eki eba AB Bx nb cb { }) =>
 (.leaf ((.tuple [(.one (.int true .i64 (0))), (.one (.int false .i64 (x_1.1.1)))]), [⟨[(.keep (LK) (O))], 0⟩, ⟨[(.row (ln) ([IntKind.i64, IntKind.i64]) (L) (cap))], 50⟩, ⟨[(.gs 5 (x_1.1.4) 1 0 (x_1.1.3) (x_1.1.5))], 47⟩, ⟨[(.int false .u8 (eqa)), (.int false .u8 (eqf)), (.int false .u8 (eqb)), (.int false .u8 (eqc)), (.int false .u8 (eqd)), (.int false .u8 (eqe)), (.int false .u8 (eqh)), (.int false .u8 (eql)), (.int false .u16 (esp)), (.int false .u16 (epc)), (.int false .i64 (ead)), (.int false .i64 (eva)), (.int false .i64 (eki)), (.int false .i64 (eba)), (.xr (AB) ([IntKind.u8]) (Bx) (nb) (cb))], 28⟩, ⟨[.dead], 38⟩, ⟨[(.row (x_1.1.4) ([IntKind.u16]) (x_1.1.2) (x_1.1.5))], 23⟩])))))))))))))))))))))))))))))))))))))))))))))))) := by kernel_rfl
theorem asksL_at (nm F : Int → Int) {L : List Int} {i : Nat} (h : i * 2 + 1 < L.length) (S : List Int) : asksL nm F (L.drop (i * 2)) S =
    (if takesL (L.getD (i * 2) 0) (L.getD (i * 2 + 1) 0) < 0 ∨ (S.length : Int) < takesL (L.getD (i * 2) 0) (L.getD (i * 2 + 1) 0) then []
    else if takesL (L.getD (i * 2) 0) (L.getD (i * 2 + 1) 0) = 0 then asksL nm F (L.drop ((i + 1) * 2)) (S ++ [if L.getD (i * 2) 0 = 2 then nm (L.getD (i * 2 + 1) 0) else L.getD (i * 2 + 1) 0])
    else if takesL (L.getD (i * 2) 0) (L.getD (i * 2 + 1) 0) = 1 then askD (L.getD (i * 2) 0) (S.getD (S.length - 1) 0) ++ asksL nm F (L.drop ((i + 1) * 2)) (S.take (S.length - 1) ++ [oneL F (L.getD (i * 2) 0) (S.getD (S.length - 1) 0)])
    else if (twoL (L.getD (i * 2) 0) (S.getD (S.length - 2) 0) (S.getD (S.length - 1) 0)).2 ≠ 0 then []
    else asksL nm F (L.drop ((i + 1) * 2)) (S.take (S.length - 2) ++ [(twoL (L.getD (i * 2) 0) (S.getD (S.length - 2) 0) (S.getD (S.length - 1) 0)).1])) := by
  have e : L.drop (i * 2) = L.getD (i * 2) 0 :: L.getD (i * 2 + 1) 0 :: L.drop ((i + 1) * 2) := by
    rw [List.drop_eq_getElem_cons (by omega), List.drop_eq_getElem_cons (by omega), List.getD_eq_getElem?_getD, List.getD_eq_getElem?_getD, List.getElem?_eq_getElem (by omega), List.getElem?_eq_getElem (by omega), show i * 2 + 1 + 1 = (i + 1) * 2 by omega]
    rfl
  rw [e, asksL]
theorem askD_len (op x : Int) : (askD op x).length ≤ 1 := by unfold askD; split <;> simp
theorem askT_ok (w : World) : Ctrs Try.prog w (ctrOf askT) := ctrs_of fun c hc => by
  simp only [askT, List.mem_cons, List.not_mem_nil, or_false] at hc
  rcases hc with rfl | rfl
  · exact takesC_ok w
  · exact twoC_ok w
theorem fpreA_ok (w : World) : PreOk Try.prog w (fpreOf [nameA, oneA w]) := fpreOf_ok fun c hc => by
  simp only [List.mem_cons, List.not_mem_nil, or_false] at hc
  rcases hc with rfl | rfl
  · exact nameA_ok w
  · exact oneA_ok w
theorem mixA_ok (w : World) : LcsOk Try.prog w (lpOf Try.prog [mixLp 10 20]) := lps_ok fun l hl => by
  simp only [List.mem_cons, List.not_mem_nil, or_false] at hl
  subst hl
  exact mixLp_ok _ _ _ _
def raMu (LK : Nat → Option Obj) (O : Nat → Bool) (ln : Bool) (L : List Int) (m cap : Nat) (qa qf qb qc qd qe qh ql sp pc : Int) (ad va ki ba : Int) (eqa eqf eqb eqc eqd eqe eqh eql esp epc ead eva eki eba : Int) (AB : Option Addr) (Bx : List Int) (nb cb : Nat) (p : raP) (x : raX) : Nat := m - x.i
set_option maxHeartbeats 4000000 in
theorem ra_step (w : World) (LK : Nat → Option Obj) (O : Nat → Bool) (ln : Bool) (L : List Int) (m cap : Nat) (qa qf qb qc qd qe qh ql sp pc : Int) (ad va ki ba : Int) (eqa eqf eqb eqc eqd eqe eqh eql esp epc ead eva eki eba : Int) (AB : Option Addr) (Bx : List Int) (nb cb : Nat) (p : raP) (x : raX) (hX : L.length = m * 2 ∧ m ≤ cap ∧ (ln = true → m = 0)) (hB : XR w AB [.u8] Bx nb) (h : raInv LK O ln L m cap qa qf qb qc qd qe qh ql sp pc ad va ki ba eqa eqf eqb eqc eqd eqe eqh eql esp epc ead eva eki eba AB Bx nb cb p x) : Hid (roundT Try.prog w (flatT Try.prog) (ctrOf askT) (callT Try.prog w (flatT Try.prog) (ctrOf askT) (fpreOf [nameA, oneA w]) (lpOf Try.prog [mixLp 10 20]) 20) ((lpOf Try.prog [mixLp 10 20]) 10) (roundOf (bodyAt Try.prog 10 0)) 0 5 raRo raRf raRb (raSt LK O ln L m cap qa qf qb qc qd qe qh ql sp pc ad va ki ba eqa eqf eqb eqc eqd eqe eqh eql esp epc ead eva eki eba AB Bx nb cb p) (raFin LK O ln L m cap qa qf qb qc qd qe qh ql sp pc ad va ki ba eqa eqf eqb eqc eqd eqe eqh eql esp epc ead eva eki eba AB Bx nb cb p) (raBck LK O ln L m cap qa qf qb qc qd qe qh ql sp pc ad va ki ba eqa eqf eqb eqc eqd eqe eqh eql esp epc ead eva eki eba AB Bx nb cb p) raNxX raNxY raNxZ x) (Kept (raInv LK O ln L m cap qa qf qb qc qd qe qh ql sp pc ad va ki ba eqa eqf eqb eqc eqd eqe eqh eql esp epc ead eva eki eba AB Bx nb cb p) (raPost LK O ln L m cap qa qf qb qc qd qe qh ql sp pc ad va ki ba eqa eqf eqb eqc eqd eqe eqh eql esp epc ead eva eki eba AB Bx nb cb p) (raBack LK O ln L m cap qa qf qb qc qd qe qh ql sp pc ad va ki ba eqa eqf eqb eqc eqd eqe eqh eql esp epc ead eva eki eba AB Bx nb cb p) (raMu LK O ln L m cap qa qf qb qc qd qe qh ql sp pc ad va ki ba eqa eqf eqb eqc eqd eqe eqh eql esp epc ead eva eki eba AB Bx nb cb p) x) := by
  obtain ⟨⟩ := p
  obtain ⟨R, r, nl, d, Q, ak, an, ac, i⟩ := x
  constructor
  rw [rastep_tree]
  simp only [T.holds, Kept, raMu, and_self, true_and, and_true]
  obtain ⟨i1, big, rl, rd, nil, ri, zl, zd, zn, zi, eq, aq⟩ := h
  simp only at i1 big rl rd nil ri zl zd zn zi eq aq
  obtain ⟨hl, hcap, hln⟩ := hX
  have z1 : (0 : Nat) + ((i : Nat) : Int).toNat = i := by simp
  have z2 : i * 2 + 0 = i * 2 := rfl
  have z3 : ∀ n : Nat, (0 + n) * 1 + 0 = n := by simp
  rw [z1, z2, z3]
  simp only [T.holds, List.length_singleton, show [IntKind.i64, IntKind.i64].length = 2 from rfl, show [IntKind.i64].getD 0 IntKind.u8 = IntKind.i64 from rfl, Int.toNat_natCast, Nat.mul_one, Nat.sub_zero, Nat.zero_add, Nat.add_zero, Nat.zero_mul, sym.cutO, ite_self, true_and, and_true, and_self, decide_eq_true_eq, decide_eq_false_iff_not, bne_iff_ne, ne_eq, Bool.not_eq_true, bne_eq_false_iff_eq, not_true_eq_false, false_implies, true_implies, beq_iff_eq, beq_eq_false_iff_ne]
  refine ⟨fun hlt => ?_, fun hge => ⟨rl, rd, nil, zl, zd, zn, ?_, ?_⟩⟩
  · have hlt : i < m := by omega
    have hlf : ln = false := by
      cases ln with
      | false => rfl
      | true => have := hln rfl; omega
    have wi : IntKind.i64.wrap ((i : Int) + 1) = ((i + 1 : Nat) : Int) := by rw [wi64 _ (by omega) (by omega)]; omega
    rw [evalL_at _ _ (by omega)] at eq
    rw [asksL_at _ _ (by omega)] at aq
    refine ⟨⟨hlf, by omega, by omega⟩, ⟨hlf, by omega⟩, ?_⟩
    have ht := takes_in (L.getD (i * 2) 0) (L.getD (i * 2 + 1) 0)
    have hn := @takes_name (L.getD (i * 2 + 1) 0)
    generalize L.getD (i * 2) 0 = op at *
    generalize L.getD (i * 2 + 1) 0 = n at *
    rw [rl] at eq aq
    rw [wi]
    have bk : ∀ er, evalL (nameL qa qf qb qc qd qe qh ql sp pc ad va ki ba) (pkL Bx nb) L [] = (0, er) → Q = asksL (nameL qa qf qb qc qd qe qh ql sp pc ad va ki ba) (pkL Bx nb) L [] → raBack LK O ln L m cap qa qf qb qc qd qe qh ql sp pc ad va ki ba eqa eqf eqb eqc eqd eqe eqh eql esp epc ead eva eki eba AB Bx nb cb {  } { er := er, Q := Q, ak := ak, an := an, ac := ac } := fun er h1 h2 => ⟨zl, zd, zn, h1, h2⟩
    refine ⟨fun h1 => bk 5 (by rw [if_pos (.inl h1)] at eq; exact eq.symm) (by rw [if_pos (.inl h1), List.append_nil] at aq; exact aq), fun h1 => ?_⟩
    have wk : IntKind.i64.wrap ((r : Int) - takesL op n) = (r : Int) - takesL op n := wi64 _ (by omega) (by omega)
    rw [wk]
    refine ⟨fun h2 => bk 5 (by rw [if_pos (.inr (by omega))] at eq; exact eq.symm) (by rw [if_pos (.inr (by omega)), List.append_nil] at aq; exact aq), fun h2 => ?_⟩
    rw [if_neg (by omega)] at eq aq
    obtain ⟨k, hk⟩ : ∃ k : Nat, (r : Int) - takesL op n = k := ⟨((r : Int) - takesL op n).toNat, by omega⟩
    rw [hk]
    simp only [Int.toNat_natCast]
    have grow : ∀ (v : Int) (g : Grown nl 1 (k + 1)) (Q2 : List Int) (k2 : Nat) (nl2 : Bool) (c2 : Nat), Q2.length = k2 → k2 ≤ c2 ∧ c2 ≤ maxLen → (nl2 = true → k2 = 0 ∧ c2 = 0) → k2 ≤ ak + 1 → evalL (nameL qa qf qb qc qd qe qh ql sp pc ad va ki ba) (pkL Bx nb) (L.drop ((i + 1) * 2)) (R.take k ++ [v]) = evalL (nameL qa qf qb qc qd qe qh ql sp pc ad va ki ba) (pkL Bx nb) L [] → Q2 ++ asksL (nameL qa qf qb qc qd qe qh ql sp pc ad va ki ba) (pkL Bx nb) (L.drop ((i + 1) * 2)) (R.take k ++ [v]) = asksL (nameL qa qf qb qc qd qe qh ql sp pc ad va ki ba) (pkL Bx nb) L [] → k ≤ r → raInv LK O ln L m cap qa qf qb qc qd qe qh ql sp pc ad va ki ba eqa eqf eqb eqc eqd eqe eqh eql esp epc ead eva eki eba AB Bx nb cb {  } { R := R.take k ++ [v], r := k + 1, nl := g.nl', d := g.cap, Q := Q2, ak := k2, an := nl2, ac := c2, i := i + 1 } ∧ m - (i + 1) < m - i := fun v g Q2 k2 nl2 c2 q1 q2 q3 q4 e1 e2 hkr => ⟨⟨by show i + 1 ≤ m; omega, big, take_last (by omega) _, ⟨g.le, g.max⟩, (rowR g).nil, by show k + 1 ≤ i + 1; omega, q1, q2, q3, by show k2 ≤ i + 1; omega, e1, e2⟩, by omega⟩
    refine ⟨fun h3 => ?_, fun h3 => ?_⟩
    · have hkr : k = r := by omega
      have hT : R.take k = R := List.take_of_length_le (by omega)
      rw [if_pos h3] at eq aq
      refine ⟨fun h4 => ?_, fun h4 => ?_⟩
      · rw [if_pos h4] at eq aq
        subst h4
        exact ⟨hn h3, ⟨Int.le_refl _, by omega, by omega⟩, ⟨⟨by omega, by omega, rd.2, fun e => (nil e).2⟩, by omega⟩, fun g => ⟨trivial, grow _ g Q ak an ac zl zd zn (by omega) (by rw [hT]; exact eq) (by rw [hT]; exact aq) (by omega)⟩⟩
      · rw [if_neg h4] at eq aq
        exact ⟨⟨Int.le_refl _, by omega, by omega⟩, ⟨⟨by omega, by omega, rd.2, fun e => (nil e).2⟩, by omega⟩, fun g => ⟨trivial, grow _ g Q ak an ac zl zd zn (by omega) (by rw [hT]; exact eq) (by rw [hT]; exact aq) (by omega)⟩⟩
    · rw [if_neg h3] at eq aq
      refine ⟨fun h4 => ?_, fun h4 => ?_⟩
      · have hkr : k = r - 1 := by omega
        subst hkr
        rw [if_pos h4] at eq aq
        have hnl : nl = false := by
          cases nl with
          | false => rfl
          | true => have := (nil rfl).1; omega
        have last : ∀ (r2 : RowR (ak + (askD op (R.getD (r - 1) 0)).length)) (g : Grown nl 1 (r - 1 + 1)), raInv LK O ln L m cap qa qf qb qc qd qe qh ql sp pc ad va ki ba eqa eqf eqb eqc eqd eqe eqh eql esp epc ead eva eki eba AB Bx nb cb {  } { R := R.take (r - 1) ++ [oneL (pkL Bx nb) op (R.getD (r - 1) 0)], r := r - 1 + 1, nl := g.nl', d := g.cap, Q := Q ++ askD op (R.getD (r - 1) 0), ak := ak + (askD op (R.getD (r - 1) 0)).length, an := r2.nl, ac := r2.cap, i := i + 1 } ∧ m - (i + 1) < m - i := fun r2 g => grow _ g _ _ _ _ (by rw [List.length_append, zl]) ⟨r2.le, r2.max⟩ r2.nil (by have := askD_len op (R.getD (r - 1) 0); omega) eq (by rw [List.append_assoc]; exact aq) (by omega)
        have c3 : nl = false ∧ r - 1 + 1 ≤ R.length := ⟨hnl, by omega⟩
        have c4 : XR w AB [IntKind.u8] Bx nb ∧ Q.length = ak ∧ ak ≤ ac ∧ ac ≤ maxLen ∧ (an = true → ak = 0 ∧ ac = 0) ∧ ak ≤ 1000000 := ⟨hB, zl, zd.1, zd.2, zn, by omega⟩
        have c5 : ∀ r2 : RowR (ak + (askD op (R.getD (r - 1) 0)).length), ((0 : Int) ≤ 0 ∧ (0 : Int) ≤ ((r - 1 : Nat) : Int) ∧ ((r - 1 : Nat) : Int) ≤ (d : Int)) ∧ ((r - 1 ≤ R.length ∧ r - 1 ≤ d ∧ d ≤ maxLen ∧ (nl = true → d = 0)) ∧ (r - 1 + 1) * 8 ≤ 140737488355328) ∧ ∀ g : Grown nl 1 (r - 1 + 1), True ∧ raInv LK O ln L m cap qa qf qb qc qd qe qh ql sp pc ad va ki ba eqa eqf eqb eqc eqd eqe eqh eql esp epc ead eva eki eba AB Bx nb cb {  } { R := R.take (r - 1) ++ [oneL (pkL Bx nb) op (R.getD (r - 1) 0)], r := r - 1 + 1, nl := g.nl', d := g.cap, Q := Q ++ askD op (R.getD (r - 1) 0), ak := ak + (askD op (R.getD (r - 1) 0)).length, an := r2.nl, ac := r2.cap, i := i + 1 } ∧ m - (i + 1) < m - i := fun r2 => ⟨⟨Int.le_refl _, by omega, by omega⟩, ⟨⟨by omega, by omega, rd.2, fun e => (nil e).2⟩, by omega⟩, fun g => ⟨trivial, last r2 g⟩⟩
        refine ⟨⟨hnl, by omega, by omega⟩, ?_⟩
        repeat' (first | exact c3 | exact c4 | exact c5 | (intro _) | (refine And.intro ?_ ?_))
      · rw [if_neg h4] at eq aq
        have hkr : k = r - 2 := by omega
        have hnl : nl = false := by
          cases nl with
          | false => rfl
          | true => have := (nil rfl).1; omega
        have wk1 : IntKind.i64.wrap ((k : Int) + 1) = ((k + 1 : Nat) : Int) := by rw [wi64 _ (by omega) (by omega)]; omega
        rw [wk1, Int.toNat_natCast]
        rw [show r - 2 = k by omega, show r - 1 = k + 1 by omega] at eq aq
        exact ⟨⟨hnl, by omega, by omega⟩, ⟨hnl, by omega⟩, ⟨hnl, by omega, by omega⟩, ⟨hnl, by omega⟩, fun h5 => by
          rw [if_pos h5] at eq aq
          exact bk _ eq.symm (by rw [List.append_nil] at aq; exact aq), fun h5 => by
          rw [if_neg (by intro h; exact h h5)] at eq aq
          exact ⟨⟨Int.le_refl _, by omega, by omega⟩, ⟨⟨by omega, by omega, rd.2, fun e => (nil e).2⟩, by omega⟩, fun g => ⟨trivial, grow _ g Q ak an ac zl zd zn (by omega) eq aq (by omega)⟩⟩⟩
  · have : L.drop (i * 2) = [] := List.drop_of_length_le (by omega)
    rw [this] at eq
    exact eq
  · have : L.drop (i * 2) = [] := List.drop_of_length_le (by omega)
    rw [this] at aq
    show Q = _
    rw [← aq]
    show Q = Q ++ []
    rw [List.append_nil]
theorem raLp_ok (w : World) (LK : Nat → Option Obj) (O : Nat → Bool) (ln : Bool) (L : List Int) (m cap : Nat) (qa qf qb qc qd qe qh ql sp pc : Int) (ad va ki ba : Int) (eqa eqf eqb eqc eqd eqe eqh eql esp epc ead eva eki eba : Int) (AB : Option Addr) (Bx : List Int) (nb cb : Nat) (hX : L.length = m * 2 ∧ m ≤ cap ∧ (ln = true → m = 0)) (hB : XR w AB [.u8] Bx nb) : (raLp LK O ln L m cap qa qf qb qc qd qe qh ql sp pc ad va ki ba eqa eqf eqb eqc eqd eqe eqh eql esp epc ead eva eki eba AB Bx nb cb).ok Try.prog w := by
  intro s t h
  unfold raLp at h
  simp only at h
  split at h
  · rename_i p _
    split at h
    · rename_i x _
      cases h
      exact loop_ok base2 (askT_ok w) (callT_ok base2.mixed base2.names base2.eqs (askT_ok w).ok (askT_ok w).there (fpreA_ok w) (mixA_ok w) 20) ((mixA_ok w) 10) (c := roundOf (bodyAt Try.prog 10 0)) (by kernel_rfl) (id := 0) (n := 5) (hr := true) (ro := raRo) (rf := raRf) (rr := raRb) (st := raSt LK O ln L m cap qa qf qb qc qd qe qh ql sp pc ad va ki ba eqa eqf eqb eqc eqd eqe eqh eql esp epc ead eva eki eba AB Bx nb cb p) (fin := raFin LK O ln L m cap qa qf qb qc qd qe qh ql sp pc ad va ki ba eqa eqf eqb eqc eqd eqe eqh eql esp epc ead eva eki eba AB Bx nb cb p) (bck := raBck LK O ln L m cap qa qf qb qc qd qe qh ql sp pc ad va ki ba eqa eqf eqb eqc eqd eqe eqh eql esp epc ead eva eki eba AB Bx nb cb p) (inv := raInv LK O ln L m cap qa qf qb qc qd qe qh ql sp pc ad va ki ba eqa eqf eqb eqc eqd eqe eqh eql esp epc ead eva eki eba AB Bx nb cb p) (post := raPost LK O ln L m cap qa qf qb qc qd qe qh ql sp pc ad va ki ba eqa eqf eqb eqc eqd eqe eqh eql esp epc ead eva eki eba AB Bx nb cb p) (back := raBack LK O ln L m cap qa qf qb qc qd qe qh ql sp pc ad va ki ba eqa eqf eqb eqc eqd eqe eqh eql esp epc ead eva eki eba AB Bx nb cb p) (nx := raNxX) (fx := raNxY) (bx := raNxZ) (raMu LK O ln L m cap qa qf qb qc qd qe qh ql sp pc ad va ki ba eqa eqf eqb eqc eqd eqe eqh eql esp epc ead eva eki eba AB Bx nb cb p) (nf := 7) (nf' := 7) (nf'' := 6) (fun x => by kernel_rfl) (fun y => by kernel_rfl) (fun z => by kernel_rfl) (.inl rfl) (fun x hx => ra_step w LK O ln L m cap qa qf qb qc qd qe qh ql sp pc ad va ki ba eqa eqf eqb eqc eqd eqe eqh eql esp epc ead eva eki eba AB Bx nb cb p x hX hB hx) s x
    · cases h
  · cases h
theorem runA_ok (w0 : World) : (runA w0).Ok Try.prog w0 := by
  refine ⟨fun args h t h0 LK O => ?_⟩
  unfold runA at h0
  simp only at h0
  split at h0
  · rename_i ln m cap cs ln' L cap' es
    split at h0
    · rename_i q e hq he
      cases h0
      obtain ⟨l0, l1, l2, l3, l4, l5, l6, l7, l8, l9, l10, l11, l12, l13, rfl⟩ := envA_some hq
      obtain ⟨l0, l1, l2, l3, l4, l5, l6, l7, l8, l9, l10, l11, l12, l13, rfl⟩ := envX_some he
      obtain ⟨qa, qf, qb, qc, qd, qe, qh, ql, sp, pc, ad, va, ki, ba⟩ := q
      obtain ⟨eqa, eqf, eqb, eqc, eqd, eqe, eqh, eql, esp, epc, ead, eva, eki, eba, AB, Bx, nb, cb⟩ := e
      refine CallOne.asks fun ⟨⟨ea1, ea2⟩, hB, hX, big⟩ => ?_
      have ea1 := ea1.symm
      have ea2 := ea2.symm
      subst ea1
      subst ea2
      refine CallOne.weak (args' := [.v (.one (.gs 1 ln 2 0 m cap)), .v (.agg [.int false .u8 qa, .int false .u8 qf, .int false .u8 qb, .int false .u8 qc, .int false .u8 qd, .int false .u8 qe, .int false .u8 qh, .int false .u8 ql, .int false .u16 sp, .int false .u16 pc, .int false .i64 ad, .int false .i64 va, .int false .i64 ki, .int false .i64 ba, .fn 16 [(2, 0), (3, 0)]])]) (h' := [⟨[.keep LK O], 0⟩, ⟨[.row ln [.i64, .i64] L cap], 50⟩, ⟨[.nos], 47⟩, ⟨[.int false .u8 eqa, .int false .u8 eqf, .int false .u8 eqb, .int false .u8 eqc, .int false .u8 eqd, .int false .u8 eqe, .int false .u8 eqh, .int false .u8 eql, .int false .u16 esp, .int false .u16 epc, .int false .i64 ead, .int false .i64 eva, .int false .i64 eki, .int false .i64 eba, .xr AB [.u8] Bx nb cb], 28⟩]) [] (by repeat' (first | exact trivial | exact rfl | (refine And.intro ?_ ?_))) (by kernel_rfl) (one_ok base2 (askT_ok w0) (fpreA_ok w0) (n := 20) (h := [⟨[.row ln [.i64, .i64] L cap], 50⟩, ⟨[.nos], 47⟩, ⟨[.int false .u8 eqa, .int false .u8 eqf, .int false .u8 eqb, .int false .u8 eqc, .int false .u8 eqd, .int false .u8 eqe, .int false .u8 eqh, .int false .u8 eql, .int false .u16 esp, .int false .u16 epc, .int false .i64 ead, .int false .i64 eva, .int false .i64 eki, .int false .i64 eba, .xr AB [.u8] Bx nb cb], 28⟩]) fun K hK => ⟨lpOf Try.prog [raLp LK O ln L m cap qa qf qb qc qd qe qh ql sp pc ad va ki ba eqa eqf eqb eqc eqd eqe eqh eql esp epc ead eva eki eba AB Bx nb cb, mixLp 10 20], lps_ok fun l hl => ?_, ?_⟩)
      · simp only [List.mem_cons, List.not_mem_nil, or_false] at hl
        rcases hl with rfl | rfl
        · exact raLp_ok w0 LK O ln L m cap qa qf qb qc qd qe qh ql sp pc ad va ki ba eqa eqf eqb eqc eqd eqe eqh eql esp epc ead eva eki eba AB Bx nb cb hX hB
        · exact mixLp_ok _ _ _ _
      replace hK := T.of_chk hK
      have hK2 : ∀ (v1 v2 : Int) (Q : List Int) (k c : Nat) (nl : Bool), evalL (nameL qa qf qb qc qd qe qh ql sp pc ad va ki ba) (pkL Bx nb) L [] = (v1, v2) → Q = asksL (nameL qa qf qb qc qd qe qh ql sp pc ad va ki ba) (pkL Bx nb) L [] → Q.length = k → k ≤ c ∧ c ≤ maxLen → (nl = true → k = 0 ∧ c = 0) → K (.tuple [.one (.int false .i64 v1), .one (.int false .i64 v2)], [⟨[.row ln [.i64, .i64] L cap], 50⟩, ⟨[.gs 4 nl 1 0 k c], 47⟩, ⟨[.int false .u8 eqa, .int false .u8 eqf, .int false .u8 eqb, .int false .u8 eqc, .int false .u8 eqd, .int false .u8 eqe, .int false .u8 eqh, .int false .u8 eql, .int false .u16 esp, .int false .u16 epc, .int false .i64 ead, .int false .i64 eva, .int false .i64 eki, .int false .i64 eba, .xr AB [.u8] Bx nb cb], 28⟩, ⟨[.row nl [.u16] Q c], 23⟩]) := fun v1 v2 Q k c nl e1 e2 e3 e4 e5 => by
        subst e2
        subst e3
        have := T.of_all hK ⟨nl, c, e5, e4.1, e4.2⟩
        have e6 : evalL (EnvD.nm ⟨qa, qf, qb, qc, qd, qe, qh, ql, sp, pc, ad, va, ki, ba⟩) (pkL Bx nb) L [] = (v1, v2) := e1
        rw [e6] at this
        exact this
      clear hK
      show T.holds (callT Try.prog w0 (flatT Try.prog) (ctrOf askT) (fpreOf [nameA, oneA w0]) (lpOf Try.prog [raLp LK O ln L m cap qa qf qb qc qd qe qh ql sp pc ad va ki ba eqa eqf eqb eqc eqd eqe eqh eql esp epc ead eva eki eba AB Bx nb cb, mixLp 10 20]) 20 10 [.v (.one (.gs 1 ln 2 0 m cap)), .v (.agg [.int false .u8 qa, .int false .u8 qf, .int false .u8 qb, .int false .u8 qc, .int false .u8 qd, .int false .u8 qe, .int false .u8 qh, .int false .u8 ql, .int false .u16 sp, .int false .u16 pc, .int false .i64 ad, .int false .i64 va, .int false .i64 ki, .int false .i64 ba, .fn 16 [(2, 0), (3, 0)]])] [⟨[.keep LK O], 0⟩, ⟨[.row ln [.i64, .i64] L cap], 50⟩, ⟨[.nos], 47⟩, ⟨[.int false .u8 eqa, .int false .u8 eqf, .int false .u8 eqb, .int false .u8 eqc, .int false .u8 eqd, .int false .u8 eqe, .int false .u8 eqh, .int false .u8 eql, .int false .u16 esp, .int false .u16 epc, .int false .i64 ead, .int false .i64 eva, .int false .i64 eki, .int false .i64 eba, .xr AB [.u8] Bx nb cb], 28⟩]) _
      rw [runa_tree]
      simp only [T.holds, true_and, and_true, and_self]
      have fin : ∀ R : List Int, evalL (nameL qa qf qb qc qd qe qh ql sp pc ad va ki ba) (pkL Bx nb) [] R = if R.length = 1 then (R.getD 0 0, 0) else (0, 5) := fun R => rfl
      refine ⟨⟨Nat.zero_le _, big, rfl, ⟨Nat.le_refl _, by show 0 ≤ maxLen; decide⟩, fun _ => ⟨rfl, rfl⟩, Nat.le_refl _, rfl, ⟨Nat.le_refl _, by show 0 ≤ maxLen; decide⟩, fun _ => ⟨rfl, rfl⟩, Nat.le_refl _, rfl, rfl⟩, fun x => ⟨fun _ y => ⟨fun h => ?_, fun h => ?_⟩, fun _ y => ?_⟩⟩
      · have e := y.so.eq
        have hl := y.so.rl
        have h : ¬ y.it.r = 1 := by intro h1; rw [h1] at h; exact absurd h (by decide)
        rw [fin, if_neg (by omega)] at e
        exact ⟨_, _, hK2 0 5 _ _ _ _ e.symm y.so.aq y.so.zl y.so.zd y.so.zn, as_end [some 6] (by repeat' (first | exact trivial | exact rfl | (refine And.intro ?_ ?_))) (by kernel_rfl) (fun h => by cases h)⟩
      · have e := y.so.eq
        have hl := y.so.rl
        have h : y.it.r = 1 := by
          simp only [bne_eq_false_iff_eq] at h
          omega
        have hnl : y.it.nl = false := by
          cases hx : y.it.nl with
          | false => rfl
          | true => have := (y.so.nil hx).1; omega
        rw [fin, if_pos (by omega)] at e
        refine ⟨⟨hnl, by decide, by omega⟩, ⟨hnl, by omega⟩, ?_⟩
        exact ⟨_, _, hK2 _ 0 _ _ _ _ e.symm y.so.aq y.so.zl y.so.zd y.so.zn, as_end [some 6] (by repeat' (first | exact trivial | exact rfl | (refine And.intro ?_ ?_))) (by kernel_rfl) (fun h => by cases h)⟩
      · exact ⟨_, _, hK2 0 _ _ _ _ _ y.so.eq y.so.aq y.so.zl y.so.zd y.so.zn, as_end [some 5] (by repeat' (first | exact trivial | exact rfl | (refine And.intro ?_ ?_))) (by kernel_rfl) (fun h => by cases h)⟩
    · cases h0
  · cases h0
end Go.Proofs.Ytmbahohmiecfiaa
